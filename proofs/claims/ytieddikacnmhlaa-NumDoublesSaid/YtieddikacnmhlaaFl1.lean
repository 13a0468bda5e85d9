/- Plain theory of binary floating point: words, rungs, exact sums, products, quotients, floors. -/
import Ieee.Arith
import Derived.Laws.FloatBits
namespace Fl
open Ieee

/-- 'n / 2 ^ d' as a whole number, to the nearest, ties to the even one. -/
def rne (n d : Nat) : Nat :=
  if 2 ^ d < 2 * (n % 2 ^ d) ∨ (2 ^ d = 2 * (n % 2 ^ d) ∧ n / 2 ^ d % 2 = 1) then n / 2 ^ d + 1 else n / 2 ^ d

theorem rne_small {n d : Nat} (h : 2 * n < 2 ^ d) : rne n d = 0 := by
  have h1 : n % 2 ^ d = n := Nat.mod_eq_of_lt (by omega)
  have h2 : n / 2 ^ d = 0 := Nat.div_eq_of_lt (by omega)
  unfold rne
  rw [h1, h2]
  simp
  omega

theorem cut_even (neg : Bool) (n d : Nat) : Toward.even.cut neg n d = rne n d := by
  have hl : n < 2 ^ (n.log2 + 1) := Nat.lt_log2_self
  unfold Toward.cut
  simp only [Nat.one_shiftLeft]
  by_cases hd : d ≤ n.log2 + 2
  · rw [Nat.min_eq_left hd]
    unfold rne
    generalize n / 2 ^ d = q
    generalize n % 2 ^ d = r
    generalize 2 ^ d = g
    by_cases h1 : g < 2 * r
    · simp [h1]
    · by_cases h2 : g = 2 * r
      · by_cases h3 : q % 2 = 1
        · simp [h2, h3]
        · simp [h2, h3]
      · simp [h1, h2]
  · rw [Nat.min_eq_right (by omega)]
    have h4 : 2 ^ (n.log2 + 2) = 2 * 2 ^ (n.log2 + 1) := by rw [Nat.pow_succ 2 (n.log2 + 1), Nat.mul_comm]
    have h5 : 2 ^ (n.log2 + 2) ≤ 2 ^ d := Nat.pow_le_pow_right (by omega) (by omega)
    rw [rne_small (by omega)]
    rw [Nat.mod_eq_of_lt (by omega), Nat.div_eq_of_lt (by omega)]
    have h6 : ¬ 2 ^ (n.log2 + 2) < 2 * n := by omega
    simp [h6]

theorem rne_zero (n : Nat) : rne n 0 = n := by
  unfold rne
  simp [Nat.mod_one]

theorem rne_scale (n d k : Nat) : rne (n * 2 ^ k) (d + k) = rne n d := by
  have hk : 0 < 2 ^ k := Nat.two_pow_pos k
  unfold rne
  rw [Nat.pow_add, Nat.mul_div_mul_right _ _ hk, Nat.mul_mod_mul_right]
  have e1 : (2 ^ d * 2 ^ k < 2 * (n % 2 ^ d * 2 ^ k)) ↔ (2 ^ d < 2 * (n % 2 ^ d)) := by
    rw [← Nat.mul_assoc]; exact Nat.mul_lt_mul_right hk
  have e2 : (2 ^ d * 2 ^ k = 2 * (n % 2 ^ d * 2 ^ k)) ↔ (2 ^ d = 2 * (n % 2 ^ d)) := by
    rw [← Nat.mul_assoc]; exact ⟨fun h => Nat.eq_of_mul_eq_mul_right hk h, fun h => congrArg (· * 2 ^ k) h⟩
  simp only [e1, e2]

/-- what is a whole number stays it -/
theorem rne_exact (n d : Nat) : rne (n * 2 ^ d) d = n := by
  have := rne_scale n 0 d
  rw [Nat.zero_add, rne_zero] at this
  exact this

theorem log2_scale {n : Nat} (h : n ≠ 0) (k : Nat) : (n * 2 ^ k).log2 = n.log2 + k := by
  induction k with
  | zero => simp
  | succ k ih =>
    rw [Nat.pow_succ, ← Nat.mul_assoc, Nat.mul_comm, Nat.log2_two_mul (by have : 0 < 2 ^ k := Nat.two_pow_pos k; exact Nat.mul_ne_zero h (by omega)), ih]; rfl

/-- the place of the last digit that is kept -/
def lastPlace (f : Format) (mag : Nat) (place : Int) : Int := max (place + mag.log2 - f.fractionBits) f.leastPlace

def keptAt (last : Int) (mag : Nat) (place : Int) : Nat := rne (mag * 2 ^ (place - last).toNat) (last - place).toNat

theorem nearest_eq (f : Format) (neg : Bool) (mag : Nat) (place : Int) (h : mag ≠ 0) :
    f.nearest neg mag place = f.word neg (min ((lastPlace f mag place - f.leastPlace).toNat * f.binade + keptAt (lastPlace f mag place) mag place) f.infRung) := by
  unfold Format.nearest
  rw [if_neg h]
  simp only [cut_even, Nat.shiftLeft_eq]
  rfl

theorem keptAt_scale (last : Int) (mag : Nat) (place : Int) (k : Nat) : keptAt last (mag * 2 ^ k) (place - k) = keptAt last mag place := by
  unfold keptAt
  by_cases h1 : last ≤ place - k
  · rw [show (last - (place - k)).toNat = 0 by omega, show (last - place).toNat = 0 by omega, rne_zero, rne_zero, Nat.mul_assoc, ← Nat.pow_add]
    congr 2; omega
  · by_cases h2 : last ≤ place
    · rw [show (place - k - last).toNat = 0 by omega, show (last - place).toNat = 0 by omega, rne_zero, Nat.pow_zero, Nat.mul_one]
      have e : mag * 2 ^ k = mag * 2 ^ (place - last).toNat * 2 ^ (last - (place - k)).toNat := by
        rw [Nat.mul_assoc, ← Nat.pow_add]; congr 2; omega
      rw [e, rne_exact]
    · rw [show (place - k - last).toNat = 0 by omega, show (place - last).toNat = 0 by omega, Nat.pow_zero, Nat.mul_one, Nat.mul_one]
      rw [show (last - (place - k)).toNat = (last - place).toNat + k by omega, rne_scale]

theorem nearest_scale (f : Format) (neg : Bool) (mag : Nat) (place : Int) (k : Nat) :
    f.nearest neg (mag * 2 ^ k) (place - k) = f.nearest neg mag place := by
  by_cases h : mag = 0
  · subst h; simp [Format.nearest]
  · have hk : 0 < 2 ^ k := Nat.two_pow_pos k
    have h' : mag * 2 ^ k ≠ 0 := Nat.mul_ne_zero h (by omega)
    rw [nearest_eq _ _ _ _ h, nearest_eq _ _ _ _ h']
    have e : lastPlace f (mag * 2 ^ k) (place - k) = lastPlace f mag place := by
      unfold lastPlace; rw [log2_scale h]; congr 1; omega
    rw [e, keptAt_scale]

/-- The nearest word hangs on the number alone, not on how it is written. -/
theorem nearest_same (f : Format) (neg : Bool) {m n : Nat} {p q : Int} (h : m * 2 ^ (p - min p q).toNat = n * 2 ^ (q - min p q).toNat) :
    f.nearest neg m p = f.nearest neg n q := by
  have a := nearest_scale f neg m p (p - min p q).toNat
  have b := nearest_scale f neg n q (q - min p q).toNat
  rw [show p - ((p - min p q).toNat : Int) = min p q by omega] at a
  rw [show q - ((q - min p q).toNat : Int) = min p q by omega] at b
  rw [← a, ← b, h]
end Fl
namespace Fl
open Ieee

/-- The size of a rung, in units of the format's last place. -/
def val (f : Format) (r : Nat) : Nat := if r < f.binade then r else (f.binade + r % f.binade) * 2 ^ (r / f.binade - 1)

theorem binade_pos (f : Format) : 0 < f.binade := Nat.two_pow_pos _

theorem val_lo {f : Format} {r : Nat} (h : r < 2 * f.binade) : val f r = r := by
  have hb := binade_pos f
  unfold val
  by_cases h1 : r < f.binade
  · rw [if_pos h1]
  · rw [if_neg h1]
    have h2 : r / f.binade = 1 := by
      rw [Nat.div_eq_iff hb]; omega
    have h3 : f.binade + r % f.binade = r := by
      have := Nat.div_add_mod r f.binade
      rw [h2] at this; omega
    rw [h2, h3]; simp

/-- a rung is told by its binade and its digits -/
theorem val_hi (f : Format) (e m : Nat) (h1 : f.binade ≤ m) (h2 : m < 2 * f.binade) : val f (e * f.binade + m) = m * 2 ^ e := by
  have hb := binade_pos f
  unfold val
  rw [if_neg (by have := Nat.zero_le (e * f.binade); omega)]
  have h3 : (e * f.binade + m) / f.binade = e + 1 := by
    rw [Nat.div_eq_iff hb, Nat.add_mul, Nat.one_mul]; omega
  have h4 : (e * f.binade + m) % f.binade = m - f.binade := by
    have := Nat.div_add_mod (e * f.binade + m) f.binade
    rw [h3, Nat.mul_comm f.binade, Nat.add_mul, Nat.one_mul] at this
    omega
  rw [h3, h4, show f.binade + (m - f.binade) = m by omega, Nat.add_sub_cancel]

theorem rung_split (f : Format) {r : Nat} (h : f.binade ≤ r) : ∃ e m, r = e * f.binade + m ∧ f.binade ≤ m ∧ m < 2 * f.binade ∧ val f r = m * 2 ^ e := by
  have hb := binade_pos f
  have h1 : 1 ≤ r / f.binade := (Nat.le_div_iff_mul_le hb).2 (by omega)
  have h2 := Nat.div_add_mod r f.binade
  have h3 := Nat.mod_lt r hb
  obtain ⟨e, he⟩ : ∃ e, r / f.binade = e + 1 := ⟨r / f.binade - 1, by omega⟩
  rw [he, Nat.mul_comm, Nat.add_mul, Nat.one_mul] at h2
  refine ⟨e, f.binade + r % f.binade, by omega, by omega, by omega, ?_⟩
  unfold val
  rw [if_neg (by omega), he, Nat.add_sub_cancel]

theorem val_lt_succ (f : Format) (r : Nat) : val f r < val f (r + 1) := by
  have hb := binade_pos f
  by_cases h : r + 1 < 2 * f.binade
  · rw [val_lo (by omega), val_lo h]; omega
  · obtain ⟨e, m, rfl, h1, h2, hv⟩ := rung_split f (r := r) (by omega)
    rw [hv]
    by_cases h3 : m + 1 < 2 * f.binade
    · rw [Nat.add_assoc, val_hi f e (m + 1) (by omega) h3, Nat.add_mul]
      have := Nat.two_pow_pos e; omega
    · have e1 : e * f.binade + m + 1 = (e + 1) * f.binade + f.binade := by rw [Nat.add_mul]; omega
      rw [e1, val_hi f (e + 1) f.binade (by omega) (by omega)]
      have e2 : m + 1 = 2 * f.binade := by omega
      have e3 : f.binade * 2 ^ (e + 1) = (m + 1) * 2 ^ e := by rw [e2, Nat.pow_succ, Nat.mul_comm 2, Nat.mul_assoc, Nat.mul_comm 2]
      rw [e3, Nat.add_mul]
      have := Nat.two_pow_pos e; omega

theorem val_add (f : Format) (r k : Nat) : val f r + k ≤ val f (r + k) := by
  induction k with
  | zero => simp
  | succ k ih => have := val_lt_succ f (r + k); rw [← Nat.add_assoc r k 1]; omega

theorem val_lt {f : Format} {r s : Nat} (h : r < s) : val f r < val f s := by
  have := val_add f r (s - r)
  rw [show r + (s - r) = s by omega] at this
  omega

theorem val_lt_iff {f : Format} {r s : Nat} : val f r < val f s ↔ r < s := by
  refine ⟨fun h => ?_, val_lt⟩
  by_cases h1 : r < s
  · exact h1
  · by_cases h2 : r = s
    · subst h2; omega
    · have := val_lt (f := f) (r := s) (s := r) (by omega); omega

theorem val_inj {f : Format} {r s : Nat} (h : val f r = val f s) : r = s := by
  by_cases h1 : r < s
  · have := val_lt (f := f) h1; omega
  · by_cases h2 : s < r
    · have := val_lt (f := f) h2; omega
    · omega

theorem val_zero (f : Format) : val f 0 = 0 := val_lo (by have := binade_pos f; omega)

theorem log2_of {m k : Nat} (h1 : 2 ^ k ≤ m) (h2 : m < 2 * 2 ^ k) : m.log2 = k := by
  have h0 : m ≠ 0 := by have := Nat.two_pow_pos k; omega
  rw [Nat.log2_eq_iff h0]
  exact ⟨h1, by rw [Nat.pow_succ]; omega⟩

/-- The word nearest to a rung's own size is its word. -/
theorem nearest_val (f : Format) (neg : Bool) {r : Nat} (h : r ≤ f.infRung) : f.nearest neg (val f r) f.leastPlace = f.word neg r := by
  have hb := binade_pos f
  by_cases h0 : r < f.binade
  · rw [val_lo (by omega)]
    by_cases hz : r = 0
    · subst hz; simp [Format.nearest]
    · rw [nearest_eq _ _ _ _ hz]
      have hl : r.log2 < f.fractionBits := (Nat.log2_lt hz).2 h0
      have e : lastPlace f r f.leastPlace = f.leastPlace := by unfold lastPlace; omega
      rw [e]; unfold keptAt
      simp only [Int.sub_self, Int.toNat_zero, rne_zero, Nat.pow_zero, Nat.mul_one, Nat.zero_mul, Nat.zero_add]
      rw [Nat.min_eq_left h]
  · obtain ⟨e, m, rfl, h1, h2, hv⟩ := rung_split f (r := r) (by omega)
    have hs : f.nearest neg (m * 2 ^ e) f.leastPlace = f.nearest neg m (f.leastPlace + e) := by
      have := nearest_scale f neg m (f.leastPlace + e) e
      rw [show f.leastPlace + (e : Int) - e = f.leastPlace by omega] at this
      exact this
    rw [hv, hs, nearest_eq _ _ _ _ (by omega)]
    have hl : m.log2 = f.fractionBits := log2_of h1 h2
    have e1 : lastPlace f m (f.leastPlace + e) = f.leastPlace + e := by unfold lastPlace; rw [hl]; omega
    rw [e1]; unfold keptAt
    simp only [Int.sub_self, Int.toNat_zero, rne_zero, Nat.pow_zero, Nat.mul_one]
    rw [show (f.leastPlace + (e : Int) - f.leastPlace).toNat = e by omega, Nat.min_eq_left h]

/-- What is the size of a rung is written as that rung, however it is told. -/
theorem nearest_exact (f : Format) (neg : Bool) {r m : Nat} {p : Int} (h : r ≤ f.infRung) (hv : m * 2 ^ (p - min p f.leastPlace).toNat = val f r * 2 ^ (f.leastPlace - min p f.leastPlace).toNat) :
    f.nearest neg m p = f.word neg r := by
  rw [← nearest_val f neg h]
  exact nearest_same f neg hv

/-- where the place is not below the format's least -/
theorem nearest_exact' (f : Format) (neg : Bool) {r m : Nat} {p : Int} (h : r ≤ f.infRung) (hp : f.leastPlace ≤ p) (hv : m * 2 ^ (p - f.leastPlace).toNat = val f r) :
    f.nearest neg m p = f.word neg r := by
  refine nearest_exact f neg h ?_
  rw [show min p f.leastPlace = f.leastPlace by omega, Int.sub_self]
  simpa using hv

/-- Few digits are a rung. -/
theorem rung_of (f : Format) (m k : Nat) (h : m < 2 * f.binade) : ∃ r, val f r = m * 2 ^ k := by
  by_cases hz : m = 0
  · exact ⟨0, by subst hz; simp [val_zero]⟩
  · have hl : m.log2 ≤ f.fractionBits := by
      have := (Nat.log2_lt (k := f.fractionBits + 1) hz).2 (by rw [Nat.pow_succ]; unfold Format.binade at h; omega)
      omega
    have hm1 := Nat.log2_self_le hz
    have hm2 : m < 2 ^ (m.log2 + 1) := Nat.lt_log2_self
    by_cases hk : f.fractionBits - m.log2 ≤ k
    · refine ⟨(k - (f.fractionBits - m.log2)) * f.binade + m * 2 ^ (f.fractionBits - m.log2), ?_⟩
      have e1 : f.binade = 2 ^ m.log2 * 2 ^ (f.fractionBits - m.log2) := by unfold Format.binade; rw [← Nat.pow_add]; congr 1; omega
      have hp := Nat.two_pow_pos (f.fractionBits - m.log2)
      rw [val_hi f _ _ (by rw [e1]; exact Nat.mul_le_mul_right _ hm1) (by rw [e1, ← Nat.mul_assoc]; refine Nat.mul_lt_mul_of_pos_right ?_ hp; rw [Nat.pow_succ] at hm2; omega)]
      rw [Nat.mul_assoc, ← Nat.pow_add]; congr 2; omega
    · refine ⟨m * 2 ^ k, val_lo ?_⟩
      have e1 : 2 * f.binade = 2 ^ (m.log2 + 1) * 2 ^ (f.fractionBits - m.log2) := by
        unfold Format.binade; rw [← Nat.pow_add, Nat.mul_comm, ← Nat.pow_succ]; congr 1; omega
      rw [e1]
      have h3 : 2 ^ k ≤ 2 ^ (f.fractionBits - m.log2) := Nat.pow_le_pow_right (by omega) (by omega)
      calc m * 2 ^ k ≤ m * 2 ^ (f.fractionBits - m.log2) := Nat.mul_le_mul_left _ h3
        _ < _ := Nat.mul_lt_mul_of_pos_right hm2 (Nat.two_pow_pos _)
end Fl
namespace Fl
open Ieee

def rung (f : Format) (w : Nat) : Nat := w % f.signWeight
def sgn (f : Format) (w : Nat) : Bool := w / f.signWeight % 2 == 1
/-- a size with a sign -/
def sg (s : Bool) (n : Nat) : Int := if s then -(n : Int) else n
/-- The number that a word stands for, in units of the format's last place (of an infinity: beyond all of them). -/
def sv (f : Format) (w : Nat) : Int := sg (sgn f w) (val f (rung f w))
def isNum (f : Format) (w : Nat) : Prop := rung f w ≤ f.infRung
def isFin (f : Format) (w : Nat) : Prop := rung f w < f.infRung

theorem isFin.num {f : Format} {w : Nat} (h : isFin f w) : isNum f w := Nat.le_of_lt h

theorem sg_mul (s : Bool) (n k : Nat) : sg s (n * k) = sg s n * k := by
  unfold sg; split
  · rw [Int.natCast_mul, Int.neg_mul]
  · exact Int.natCast_mul _ _

theorem signed_eq (s : Bool) (m up : Nat) : signed s m up = sg s (m * 2 ^ up) := by
  unfold signed sg; rw [Nat.shiftLeft_eq]

theorem natAbs_sg (s : Bool) (n : Nat) : (sg s n).natAbs = n := by unfold sg; split <;> omega

theorem read_fin {f : Format} {w : Nat} (h : isFin f w) :
    ∃ m p, f.read w = .number (sgn f w) m p ∧ f.leastPlace ≤ p ∧ m * 2 ^ (p - f.leastPlace).toNat = val f (rung f w) := by
  have hb := binade_pos f
  unfold isFin at h
  unfold Format.read
  simp only
  unfold sgn rung at *
  by_cases h1 : w % f.signWeight < f.binade
  · rw [if_pos h1]
    exact ⟨_, _, rfl, by omega, by simp [val_lo (show w % f.signWeight < 2 * f.binade by omega)]⟩
  · rw [if_neg h1, if_pos h]
    refine ⟨_, _, rfl, by omega, ?_⟩
    unfold val; rw [if_neg h1]; congr 2; omega

theorem read_inf {f : Format} {w : Nat} (h : rung f w = f.infRung) (hx : f.binade ≤ f.infRung) : f.read w = .infinity (sgn f w) := by
  unfold Format.read sgn rung at *
  simp only
  rw [if_neg (by omega), if_neg (by omega), if_pos h]

theorem read_nan {f : Format} {w : Nat} (h : ¬ isNum f w) (hx : f.binade ≤ f.infRung) : f.read w = .nan (sgn f w) (rung f w - f.infRung) := by
  unfold Format.read sgn isNum rung at *
  simp only
  rw [if_neg (by omega), if_neg (by omega), if_neg (by omega)]

theorem rung_word {f : Format} {s : Bool} {r : Nat} (h : r < f.signWeight) : rung f (f.word s r) = r := by
  unfold rung Format.word; split
  · rw [Nat.add_mod_left, Nat.mod_eq_of_lt h]
  · exact Nat.mod_eq_of_lt h

theorem sgn_word {f : Format} {s : Bool} {r : Nat} (h : r < f.signWeight) : sgn f (f.word s r) = s := by
  have h0 : 0 < f.signWeight := Nat.two_pow_pos _
  unfold sgn Format.word
  cases s
  · simp [Nat.div_eq_of_lt h]
  · simp [Nat.add_div_left, h0, Nat.div_eq_of_lt h]

theorem sv_word {f : Format} {s : Bool} {r : Nat} (h : r < f.signWeight) : sv f (f.word s r) = sg s (val f r) := by
  unfold sv; rw [rung_word h, sgn_word h]

theorem word_self {f : Format} {w : Nat} (h : w < 2 * f.signWeight) : f.word (sgn f w) (rung f w) = w := by
  have h0 : 0 < f.signWeight := Nat.two_pow_pos _
  have h1 := Nat.div_add_mod w f.signWeight
  have h2 : w / f.signWeight < 2 := (Nat.div_lt_iff_lt_mul h0).2 h
  have h3 := Nat.mod_lt w h0
  unfold Format.word sgn rung
  generalize w / f.signWeight = d at *
  have h5 : d = 0 ∨ d = 1 := by omega
  rcases h5 with rfl | rfl
  · simp at h1 ⊢; omega
  · simp at h1 ⊢; omega

/-! ## Order -/

theorem compare_scale (a b : Int) (k : Nat) : compare (a * (2 ^ k : Nat)) (b * (2 ^ k : Nat)) = compare a b := by
  have hk : (0 : Int) < ((2 ^ k : Nat) : Int) := by exact_mod_cast Nat.two_pow_pos k
  have e1 : (a * (2 ^ k : Nat) < b * (2 ^ k : Nat)) ↔ a < b := Int.mul_lt_mul_right hk
  have e2 : (a * (2 ^ k : Nat) = b * (2 ^ k : Nat)) ↔ a = b := ⟨fun h => Int.eq_of_mul_eq_mul_right (by omega) h, fun h => by rw [h]⟩
  simp only [compare, compareOfLessAndEq, e1, e2]

theorem order_num {f : Format} {x y : Nat} (hx : isNum f x) (hy : isNum f y) (hf : f.binade ≤ f.infRung) :
    f.order x y = some (compare (sv f x) (sv f y)) := by
  unfold isNum at hx hy
  unfold Format.order
  by_cases h1 : rung f x < f.infRung
  · obtain ⟨m, p, hr, hp, hv⟩ := read_fin (show isFin f x from h1)
    by_cases h2 : rung f y < f.infRung
    · obtain ⟨n, q, hs, hq, hw⟩ := read_fin (show isFin f y from h2)
      rw [hr, hs]
      unfold Datum.order
      simp only [signed_eq]
      congr 1
      rw [← compare_scale _ _ (min p q - f.leastPlace).toNat, ← sg_mul, ← sg_mul, Nat.mul_assoc, Nat.mul_assoc, ← Nat.pow_add, ← Nat.pow_add]
      unfold sv
      rw [← hv, ← hw]
      congr 5 <;> omega
    · have h3 : rung f y = f.infRung := by omega
      rw [hr, read_inf h3 hf]
      unfold Datum.order
      simp only
      congr 1
      have h4 := val_lt (f := f) h1
      unfold sv; rw [h3]
      cases sgn f y
      · have : sg (sgn f x) (val f (rung f x)) < sg false (val f f.infRung) := by cases sgn f x <;> simp [sg] <;> omega
        simp [compare, compareOfLessAndEq, this]
      · have h5 : sg true (val f f.infRung) < sg (sgn f x) (val f (rung f x)) := by cases sgn f x <;> simp [sg] <;> omega
        simp [compare, compareOfLessAndEq, show ¬ (sg (sgn f x) (val f (rung f x)) < sg true (val f f.infRung)) by omega, show ¬ (sg (sgn f x) (val f (rung f x)) = sg true (val f f.infRung)) by omega]
  · have h1' : rung f x = f.infRung := by omega
    rw [read_inf h1' hf]
    by_cases h2 : rung f y < f.infRung
    · obtain ⟨n, q, hs, hq, hw⟩ := read_fin (show isFin f y from h2)
      rw [hs]
      unfold Datum.order
      simp only
      congr 1
      have h4 := val_lt (f := f) h2
      unfold sv; rw [h1']
      cases sgn f x
      · have h5 : sg (sgn f y) (val f (rung f y)) < sg false (val f f.infRung) := by cases sgn f y <;> simp [sg] <;> omega
        simp [compare, compareOfLessAndEq, show ¬ (sg false (val f f.infRung) < sg (sgn f y) (val f (rung f y))) by omega, show ¬ (sg false (val f f.infRung) = sg (sgn f y) (val f (rung f y))) by omega]
      · have : sg true (val f f.infRung) < sg (sgn f y) (val f (rung f y)) := by cases sgn f y <;> simp [sg] <;> omega
        simp [compare, compareOfLessAndEq, this]
    · have h3 : rung f y = f.infRung := by omega
      rw [read_inf h3 hf]
      unfold Datum.order
      simp only
      congr 1
      unfold sv; rw [h1', h3]
      have h6 : 0 < val f f.infRung := by have := val_lt (f := f) (r := 0) (s := f.infRung) (by have := binade_pos f; omega); omega
      generalize val f f.infRung = v at h6
      have g1 : -(v : Int) < v := by omega
      have g2 : ¬ (v : Int) < -(v : Int) := by omega
      have g3 : ¬ (v : Int) = -(v : Int) := by omega
      cases sgn f x <;> cases sgn f y <;> simp [sg, compare, compareOfLessAndEq, g1, g2, g3]

theorem order_nan_left {f : Format} {x y : Nat} (hx : ¬ isNum f x) (hf : f.binade ≤ f.infRung) : f.order x y = none := by
  unfold Format.order; rw [read_nan hx hf]; unfold Datum.order; rfl

theorem order_nan_right {f : Format} {x y : Nat} (hx : ¬ isNum f y) (hf : f.binade ≤ f.infRung) : f.order x y = none := by
  unfold Format.order; rw [read_nan hx hf]; cases f.read x <;> rfl

/-! ## Exact sums, products, quotients -/

theorem add_exact {f : Format} {x y r : Nat} (hx : isFin f x) (hy : isFin f y) (hr : r ≤ f.infRung) (hv : (sv f x + sv f y).natAbs = val f r) :
    f.add x y = some (f.word (if sv f x + sv f y = 0 then sgn f x && sgn f y else decide (sv f x + sv f y < 0)) r) := by
  obtain ⟨m, p, hrx, hp, hvx⟩ := read_fin hx
  obtain ⟨n, q, hry, hq, hvy⟩ := read_fin hy
  unfold Format.add
  rw [hrx, hry]
  unfold Datum.sum
  simp only [signed_eq, Option.map_some]
  have hbase : f.leastPlace ≤ min p q := by omega
  have e : sv f x + sv f y = (sg (sgn f x) (m * 2 ^ (p - min p q).toNat) + sg (sgn f y) (n * 2 ^ (q - min p q).toNat)) * (2 ^ (min p q - f.leastPlace).toNat : Nat) := by
    rw [Int.add_mul, ← sg_mul, ← sg_mul, Nat.mul_assoc, Nat.mul_assoc, ← Nat.pow_add, ← Nat.pow_add]
    unfold sv
    rw [← hvx, ← hvy]
    congr 4 <;> omega
  have hk : (0 : Int) < ((2 ^ (min p q - f.leastPlace).toNat : Nat) : Int) := by exact_mod_cast Nat.two_pow_pos _
  generalize hT : sg (sgn f x) (m * 2 ^ (p - min p q).toNat) + sg (sgn f y) (n * 2 ^ (q - min p q).toNat) = T at *
  have e0 : (sv f x + sv f y = 0) ↔ T = 0 := by
    rw [e]; exact ⟨fun h => by rcases Int.mul_eq_zero.1 h with h | h <;> omega, fun h => by rw [h, Int.zero_mul]⟩
  have e1 : (sv f x + sv f y < 0) ↔ T < 0 := by
    rw [e]; exact ⟨fun h => by
      by_cases h2 : T < 0
      · exact h2
      · have := Int.mul_nonneg (show 0 ≤ T by omega) (Int.le_of_lt hk); omega, fun h => Int.mul_neg_of_neg_of_pos h hk⟩
  simp only [e0, e1]
  congr 1
  unfold Format.write
  simp only
  refine nearest_exact' f _ hr hbase ?_
  rw [← hv, e, Int.natAbs_mul, Int.natAbs_natCast]

theorem mul_exact {f : Format} {x y r : Nat} (hx : isFin f x) (hy : isFin f y) (hL : f.leastPlace ≤ 0) (hr : r ≤ f.infRung)
    (hv : val f (rung f x) * val f (rung f y) = val f r * 2 ^ (-f.leastPlace).toNat) :
    f.mul x y = some (f.word (sgn f x ^^ sgn f y) r) := by
  obtain ⟨m, p, hrx, hp, hvx⟩ := read_fin hx
  obtain ⟨n, q, hry, hq, hvy⟩ := read_fin hy
  unfold Format.mul
  rw [hrx, hry]
  unfold Datum.product
  simp only [Option.map_some]
  congr 1
  unfold Format.write
  simp only
  refine nearest_exact f _ hr ?_
  rw [← hvx, ← hvy] at hv
  -- both sides times 2 ^ (p + q - L + ...) : cancel
  have h1 : m * n * 2 ^ ((p - f.leastPlace).toNat + (q - f.leastPlace).toNat) = val f r * 2 ^ (-f.leastPlace).toNat := by
    rw [← hv, Nat.pow_add]
    rw [Nat.mul_assoc, Nat.mul_assoc]
    congr 1
    rw [← Nat.mul_assoc, ← Nat.mul_assoc, Nat.mul_comm n]
  have hc : 0 < 2 ^ (min (p + q) f.leastPlace - 2 * f.leastPlace + 2 * (-f.leastPlace)).toNat := Nat.two_pow_pos _
  by_cases hc : p + q ≤ f.leastPlace
  · rw [show min (p + q) f.leastPlace = p + q by omega, Int.sub_self]
    refine Nat.eq_of_mul_eq_mul_right (Nat.two_pow_pos ((p - f.leastPlace).toNat + (q - f.leastPlace).toNat)) ?_
    rw [Nat.mul_assoc, Nat.mul_comm (2 ^ (0 : Int).toNat), ← Nat.mul_assoc, h1]
    rw [Nat.mul_assoc, Nat.mul_assoc, ← Nat.pow_add, ← Nat.pow_add]
    congr 2
    simp only [Int.toNat_zero]; omega
  · rw [show min (p + q) f.leastPlace = f.leastPlace by omega, Int.sub_self]
    refine Nat.eq_of_mul_eq_mul_right (Nat.two_pow_pos ((-f.leastPlace).toNat)) ?_
    rw [show val f r * 2 ^ (0 : Int).toNat * 2 ^ (-f.leastPlace).toNat = val f r * 2 ^ (-f.leastPlace).toNat by simp]
    rw [← h1, Nat.mul_assoc, ← Nat.pow_add]
    congr 2
    omega
end Fl
namespace Fl
open Ieee

theorem div_dvd {m n c x y : Nat} (F : Nat) (hc : c < 2 ^ F) (h : m * 2 ^ x = n * c * 2 ^ y) (hm : m ≠ 0) : n ∣ m * 2 ^ (F + 1 + n.log2 - m.log2) := by
  by_cases hxy : x ≤ y
  · have : m = n * c * 2 ^ (y - x) := by
      refine Nat.eq_of_mul_eq_mul_right (Nat.two_pow_pos x) ?_
      rw [h, Nat.mul_assoc (n * c), ← Nat.pow_add]; congr 2; omega
    generalize F + 1 + n.log2 - m.log2 = k
    rw [this, Nat.mul_assoc, Nat.mul_assoc]
    exact Nat.dvd_mul_right _ _
  · have h2 : m * 2 ^ (x - y) = n * c := by
      refine Nat.eq_of_mul_eq_mul_right (Nat.two_pow_pos y) ?_
      rw [← h, Nat.mul_assoc, ← Nat.pow_add]; congr 2; omega
    have h3 : n.log2 < n.log2 + 1 := by omega
    have h4 : 2 ^ m.log2 ≤ m := Nat.log2_self_le hm
    have h5 : n < 2 ^ (n.log2 + 1) := Nat.lt_log2_self
    have h6 : 2 ^ (m.log2 + (x - y)) < 2 ^ (n.log2 + 1 + F) := by
      calc 2 ^ (m.log2 + (x - y)) = 2 ^ m.log2 * 2 ^ (x - y) := Nat.pow_add ..
        _ ≤ m * 2 ^ (x - y) := Nat.mul_le_mul_right _ h4
        _ = n * c := h2
        _ < 2 ^ (n.log2 + 1) * 2 ^ F := Nat.mul_lt_mul_of_lt_of_le h5 (Nat.le_of_lt hc) (Nat.two_pow_pos _)
        _ = _ := (Nat.pow_add ..).symm
    have h7 : m.log2 + (x - y) < n.log2 + 1 + F := (Nat.pow_lt_pow_iff_right (by omega)).1 h6
    have h8 : m * 2 ^ (F + 1 + n.log2 - m.log2) = n * c * 2 ^ (F + 1 + n.log2 - m.log2 - (x - y)) := by
      rw [← h2, Nat.mul_assoc, ← Nat.pow_add]; congr 2; omega
    rw [h8, Nat.mul_assoc]
    exact Nat.dvd_mul_right _ _

theorem pow_cancel {a b x y z : Nat} (h : a * 2 ^ (x + z) = b * 2 ^ (y + z)) : a * 2 ^ x = b * 2 ^ y := by
  refine Nat.eq_of_mul_eq_mul_right (Nat.two_pow_pos z) ?_
  rw [Nat.mul_assoc, Nat.mul_assoc, ← Nat.pow_add, ← Nat.pow_add]; exact h

theorem div_exact {f : Format} {x y r : Nat} (hx : isFin f x) (hy : isFin f y) (hL : f.leastPlace ≤ 0) (hr : r ≤ f.infRung) (hy0 : val f (rung f y) ≠ 0)
    (hv : val f (rung f x) * 2 ^ (-f.leastPlace).toNat = val f r * val f (rung f y)) :
    f.div x y = some (f.word (sgn f x ^^ sgn f y) r) := by
  obtain ⟨m, p, hrx, hp, hvx⟩ := read_fin hx
  obtain ⟨n, q, hry, hq, hvy⟩ := read_fin hy
  have hn : n ≠ 0 := by rintro rfl; apply hy0; rw [← hvy, Nat.zero_mul]
  unfold Format.div
  rw [hrx, hry]
  unfold Datum.quotient
  simp only [if_neg hn, Option.map_some]
  congr 1
  unfold Format.write
  simp only
  -- the quotient is exact
  obtain ⟨c, e, hc, hce⟩ : ∃ c e, c < 2 ^ (f.fractionBits + 1) ∧ val f r = c * 2 ^ e := by
    by_cases h : r < f.binade
    · exact ⟨r, 0, by unfold Format.binade at h; rw [Nat.pow_succ]; omega, by rw [val_lo (by omega)]; simp⟩
    · obtain ⟨e, c, _, h1, h2, h3⟩ := rung_split f (r := r) (by omega)
      exact ⟨c, e, by unfold Format.binade at h2; rw [Nat.pow_succ]; omega, h3⟩
  rw [← hvx, ← hvy, hce] at hv
  have hv2 : m * 2 ^ ((p - f.leastPlace).toNat + (-f.leastPlace).toNat) = n * c * 2 ^ (e + (q - f.leastPlace).toNat) := by
    rw [Nat.pow_add, ← Nat.mul_assoc, hv, Nat.pow_add]; 
    rw [Nat.mul_comm n c, Nat.mul_assoc, Nat.mul_assoc, Nat.mul_left_comm (2 ^ e)]
  by_cases hm : m = 0
  · subst hm
    have hz : r = 0 := by
      have : n * c * 2 ^ (e + (q - f.leastPlace).toNat) = 0 := by rw [← hv2, Nat.zero_mul]
      have h2 := Nat.two_pow_pos (e + (q - f.leastPlace).toNat)
      have h3 : c = 0 := by
        rcases Nat.mul_eq_zero.1 this with h | h
        · rcases Nat.mul_eq_zero.1 h with h | h
          · exact absurd h hn
          · exact h
        · omega
      rw [h3, Nat.zero_mul] at hce
      exact val_inj (by rw [hce, val_zero])
    subst hz
    simp [Format.nearest]
  · have hd := div_dvd (f.fractionBits + 1) hc hv2 hm
    rw [show f.fractionBits + 2 = f.fractionBits + 1 + 1 by omega]
    generalize f.fractionBits + 1 + 1 + n.log2 - m.log2 = k at hd
    rw [Nat.shiftLeft_eq]
    have h0 : (m * 2 ^ k) % n = 0 := Nat.mod_eq_zero_of_dvd hd
    obtain ⟨z, hz⟩ := hd
    rw [h0, hz, Nat.mul_div_cancel_left _ (by omega)]
    simp only [bne_self_eq_false, Bool.toNat_false, Nat.add_zero]
    refine nearest_exact f _ hr ?_
    rw [hce]
    -- z = m * 2^k / n
    have key : z * 2 ^ ((p - f.leastPlace).toNat + (-f.leastPlace).toNat) = c * 2 ^ (e + (q - f.leastPlace).toNat + k) := by
      refine Nat.eq_of_mul_eq_mul_left (show 0 < n by omega) ?_
      rw [← Nat.mul_assoc, ← hz, Nat.mul_assoc, Nat.mul_comm (2 ^ k), ← Nat.mul_assoc, hv2, Nat.pow_add 2 _ k, ← Nat.mul_assoc, ← Nat.mul_assoc]
    rw [Nat.mul_assoc c, ← Nat.pow_add, Nat.mul_comm 2 z, Nat.mul_assoc, ← Nat.pow_succ']
    by_cases hb : p - q - k - 1 ≤ f.leastPlace
    · rw [show min (p - q - k - 1) f.leastPlace = p - q - k - 1 by omega]
      refine pow_cancel (z := (p - f.leastPlace).toNat + (-f.leastPlace).toNat) ?_
      have : z * 2 ^ (((p - q - k - 1) - (p - q - k - 1)).toNat + 1 + ((p - f.leastPlace).toNat + (-f.leastPlace).toNat)) = z * 2 ^ ((p - f.leastPlace).toNat + (-f.leastPlace).toNat) * 2 := by
        rw [Int.sub_self, Nat.mul_assoc, ← Nat.pow_succ]; congr 2; simp; omega
      rw [this, key, Nat.mul_assoc, ← Nat.pow_succ]; congr 2; omega
    · rw [show min (p - q - k - 1) f.leastPlace = f.leastPlace by omega]
      refine pow_cancel (z := (q - f.leastPlace).toNat + k) ?_
      have : z * 2 ^ ((p - q - k - 1 - f.leastPlace).toNat + 1 + ((q - f.leastPlace).toNat + k)) = z * 2 ^ ((p - f.leastPlace).toNat + (-f.leastPlace).toNat) := by
        congr 2; omega
      rw [this, key]; congr 2; omega

/-! ## Whole parts -/

theorem cut_zero (neg : Bool) (n d : Nat) : Toward.zero.cut neg n d = n / 2 ^ d := by
  have hl : n < 2 ^ (n.log2 + 1) := Nat.lt_log2_self
  unfold Toward.cut
  simp only [Nat.one_shiftLeft, Bool.toNat_false, Nat.add_zero]
  by_cases hd : d ≤ n.log2 + 2
  · rw [Nat.min_eq_left hd]
  · rw [Nat.min_eq_right (by omega)]
    have h4 : 2 ^ (n.log2 + 2) = 2 * 2 ^ (n.log2 + 1) := by rw [Nat.pow_succ 2 (n.log2 + 1), Nat.mul_comm]
    have h5 : 2 ^ (n.log2 + 2) ≤ 2 ^ d := Nat.pow_le_pow_right (by omega) (by omega)
    rw [Nat.div_eq_of_lt (by omega), Nat.div_eq_of_lt (by omega)]

theorem cut_down (neg : Bool) (n d : Nat) : Toward.down.cut neg n d = n / 2 ^ d + (neg && n % 2 ^ d != 0).toNat := by
  have hl : n < 2 ^ (n.log2 + 1) := Nat.lt_log2_self
  unfold Toward.cut
  simp only [Nat.one_shiftLeft]
  by_cases hd : d ≤ n.log2 + 2
  · rw [Nat.min_eq_left hd]
  · rw [Nat.min_eq_right (by omega)]
    have h4 : 2 ^ (n.log2 + 2) = 2 * 2 ^ (n.log2 + 1) := by rw [Nat.pow_succ 2 (n.log2 + 1), Nat.mul_comm]
    have h5 : 2 ^ (n.log2 + 2) ≤ 2 ^ d := Nat.pow_le_pow_right (by omega) (by omega)
    rw [Nat.div_eq_of_lt (by omega), Nat.div_eq_of_lt (by omega), Nat.mod_eq_of_lt (by omega), Nat.mod_eq_of_lt (by omega)]

/-- the whole number that is not above -/
theorem sg_cut_down (s : Bool) (n d : Nat) : sg s (Toward.down.cut s n d) = sg s n / (2 ^ d : Nat) := by
  rw [cut_down]
  have h1 := Nat.div_add_mod n (2 ^ d)
  have h2 := Nat.mod_lt n (Nat.two_pow_pos d)
  have h3 := Nat.two_pow_pos d
  generalize 2 ^ d = g at *
  cases s
  · simp [sg]
  · simp only [sg, if_true, Bool.true_and]
    generalize n / g = q at *
    generalize n % g = r at *
    subst h1
    by_cases hr : r = 0
    · subst hr
      simp only [bne_self_eq_false, Bool.toNat_false, Nat.add_zero]
      rw [Int.natCast_mul, ← Int.mul_neg, Int.mul_ediv_cancel_left _ (by omega)]
    · have hb : (r != 0) = true := by simpa using hr
      rw [hb]
      simp only [Bool.toNat_true]
      symm
      rw [Int.ediv_eq_iff_of_pos (by omega)]
      have e1 : ((g * q + r : Nat) : Int) = (g : Int) * q + r := by push_cast; rfl
      have e2 : ((q + 1 : Nat) : Int) * g = (g : Int) * q + g := by push_cast; rw [Int.add_mul, Int.mul_comm (q : Int), Int.one_mul]
      constructor
      · rw [Int.neg_mul, e1, e2]; omega
      · rw [Int.neg_mul, e1, e2]; omega
end Fl
namespace Fl
open Ieee

abbrev D : Format := Ieee.double
/-- one, in units of a double's last place -/
def E : Nat := 1074
theorem E_eq : E = 1074 := rfl
def U : Nat := 2 ^ E
/-- the exponent that is too great -/
def M : Nat := 1024
theorem M_eq : M = 1024 := rfl

theorem U_pos : 0 < U := Nat.two_pow_pos _
theorem D_least : D.leastPlace = -(E : Int) := by decide
theorem D_binade : D.binade = 4503599627370496 := by decide
theorem D_sign : D.signWeight = 9223372036854775808 := by decide
theorem D_inf : D.infRung = 9218868437227405312 := by decide
theorem D_le : D.binade ≤ D.infRung := by decide
theorem D_lt : D.infRung < D.signWeight := by decide

theorem val_D_inf : val D D.infRung = 2 ^ M * U := by
  have h3 : D.infRung = (M + E - 52) * D.binade + D.binade := by rw [D_inf, D_binade, M_eq, E_eq]
  rw [h3, val_hi D (M + E - 52) D.binade (by omega) (by have := binade_pos D; omega)]
  unfold U Format.binade
  rw [← Nat.pow_add, ← Nat.pow_add]
  congr 1

theorem read_fin_D {x : Nat} (h : isFin D x) :
    ∃ m p, D.read x = .number (sgn D x) m p ∧ -(E : Int) ≤ p ∧ m * 2 ^ (p + E).toNat = val D (rung D x) := by
  obtain ⟨m, p, h1, h2, h3⟩ := read_fin h
  rw [D_least] at h2 h3
  exact ⟨m, p, h1, h2, by rw [← h3]; congr 2⟩

theorem sv_read {x m : Nat} {p : Int} (h : m * 2 ^ (p + E).toNat = val D (rung D x)) : sv D x = sg (sgn D x) (m * 2 ^ (p + E).toNat) := by
  unfold sv; rw [h]

/-- The greatest whole number that is not above. -/
def flr (x : Nat) : Int := sv D x / (U : Int)

theorem shift_ediv (a : Int) {p : Int} (hp : -(E : Int) ≤ p) :
    a * (2 ^ p.toNat : Nat) / (2 ^ (-p).toNat : Nat) = a * (2 ^ (p + E).toNat : Nat) / (2 ^ E : Nat) := by
  by_cases h : 0 ≤ p
  · rw [show (-p).toNat = 0 by omega, show (p + E).toNat = p.toNat + E by omega, Nat.pow_add]
    rw [Nat.pow_zero]
    push_cast
    rw [Int.ediv_one, ← Int.mul_assoc, Int.mul_ediv_cancel]
    exact Int.ne_of_gt (Int.pow_pos (by omega))
  · rw [show p.toNat = 0 by omega]
    have e : (2 ^ E : Nat) = 2 ^ (-p).toNat * 2 ^ (p + E).toNat := by rw [← Nat.pow_add]; congr 1; omega
    rw [e, Nat.pow_zero]
    push_cast
    rw [Int.mul_one, Int.mul_ediv_mul_of_pos_left _ _ (Int.pow_pos (by omega))]

theorem shift_tdiv (a : Int) {p : Int} (hp : -(E : Int) ≤ p) :
    (a * (2 ^ p.toNat : Nat)).tdiv (2 ^ (-p).toNat : Nat) = (a * (2 ^ (p + E).toNat : Nat)).tdiv (2 ^ E : Nat) := by
  by_cases h : 0 ≤ p
  · rw [show (-p).toNat = 0 by omega, show (p + E).toNat = p.toNat + E by omega, Nat.pow_add]
    rw [Nat.pow_zero]
    push_cast
    rw [Int.tdiv_one, ← Int.mul_assoc, Int.mul_tdiv_cancel]
    exact Int.ne_of_gt (Int.pow_pos (by omega))
  · rw [show p.toNat = 0 by omega]
    have e : (2 ^ E : Nat) = 2 ^ (-p).toNat * 2 ^ (p + E).toNat := by rw [← Nat.pow_add]; congr 1; omega
    rw [e, Nat.pow_zero]
    push_cast
    rw [Int.mul_one, Int.mul_tdiv_mul_of_pos_left _ _ (Int.pow_pos (by omega))]

theorem integral_down {x : Nat} (h : isFin D x) : ∃ k, (D.read x).integral .down = .number (sgn D x) k 0 ∧ sg (sgn D x) k = flr x := by
  obtain ⟨m, p, hr, hp, hv⟩ := read_fin_D h
  refine ⟨_, by rw [hr]; rfl, ?_⟩
  rw [sg_cut_down, Nat.shiftLeft_eq, sg_mul, shift_ediv _ hp, ← sg_mul, ← sv_read hv]
  rfl

theorem sg_tdiv (s : Bool) (n d : Nat) : sg s (n / d) = (sg s n).tdiv d := by
  cases s
  · simp [sg]
  · simp [sg, Int.neg_tdiv]

/-- The whole part. -/
def trc (x : Nat) : Int := (sv D x).tdiv (U : Int)

theorem toInt_zero {x : Nat} (h : isFin D x) : (D.read x).toInt .zero = some (trc x) := by
  obtain ⟨m, p, hr, hp, hv⟩ := read_fin_D h
  rw [hr]
  unfold Datum.toInt Datum.integral
  simp only [cut_zero, signed_eq, Nat.pow_zero, Nat.mul_one]
  rw [sg_tdiv, Nat.shiftLeft_eq, sg_mul, shift_tdiv _ hp, ← sg_mul, ← sv_read hv]
  rfl

/-- a rung is a whole number of ones, or few -/
theorem val_whole (r : Nat) : U ∣ val D r ∨ val D r < 4503599627370496 * U := by
  have hU := U_pos
  have hb := D_binade
  by_cases h : r < D.binade
  · right; rw [val_lo (by omega)]
    generalize U = u at *
    omega
  · obtain ⟨e, m, _, h1, h2, h3⟩ := rung_split D (r := r) (by omega)
    rw [h3]
    by_cases he : E ≤ e
    · left
      have : 2 ^ e = U * 2 ^ (e - E) := by unfold U; rw [← Nat.pow_add, show E + (e - E) = e by omega]
      rw [this, Nat.mul_left_comm]
      exact Nat.dvd_mul_right _ _
    · right
      have hE := E_eq
      have e1 : U = 2 * 2 ^ (E - 1) := by unfold U; rw [← Nat.pow_succ', show (E - 1).succ = E by omega]
      have e2 : m * 2 ^ e ≤ m * 2 ^ (E - 1) := Nat.mul_le_mul_left _ (Nat.pow_le_pow_right (by omega) (by omega))
      have e3 : m * 2 ^ (E - 1) < 9007199254740992 * 2 ^ (E - 1) := Nat.mul_lt_mul_of_pos_right (by omega) (Nat.two_pow_pos _)
      rw [e1]
      generalize 2 ^ (E - 1) = g at *
      omega

theorem fin_of_val {r k : Nat} (h : val D r = k * U) (hk : k < 2 ^ M) : r < D.infRung := by
  rw [← val_lt_iff (f := D), h, val_D_inf]
  exact Nat.mul_lt_mul_of_pos_right hk U_pos

/-- Small whole numbers are doubles. -/
theorem small_lt {k : Nat} (h : k ≤ 9007199254740992) : k < 2 ^ M := by
  have h1 : (2 : Nat) ^ 54 ≤ 2 ^ M := Nat.pow_le_pow_right (by omega) (by rw [M_eq]; omega)
  generalize 2 ^ M = g at *
  omega

theorem rung_of_whole {k : Nat} (h : k ≤ 9007199254740992) : ∃ r, r < D.infRung ∧ val D r = k * U := by
  have hb := D_binade
  by_cases h1 : k = 9007199254740992
  · obtain ⟨r, hr⟩ := rung_of D 4503599627370496 (E + 1) (by rw [hb]; omega)
    have e : 4503599627370496 * 2 ^ (E + 1) = 9007199254740992 * U := by unfold U; rw [Nat.pow_succ]; generalize 2 ^ E = g; omega
    rw [e] at hr
    subst h1
    exact ⟨r, fin_of_val hr (small_lt h), hr⟩
  · obtain ⟨r, hr⟩ := rung_of D k E (by rw [hb]; omega)
    exact ⟨r, fin_of_val hr (small_lt h), hr⟩

theorem nearest_whole (s : Bool) {k r : Nat} (hr : r ≤ D.infRung) (h : val D r = k * U) : D.nearest s k 0 = D.word s r := by
  refine nearest_exact' D s hr (by rw [D_least]; omega) ?_
  rw [D_least, h, show (0 - -(E : Int)).toNat = E by omega]
  unfold U; rfl

/-- The floor of a double is a double. -/
theorem floor_word {x : Nat} (h : isFin D x) : ∃ r, r < D.infRung ∧ D.write ((D.read x).integral .down) = D.word (sgn D x) r ∧ sg (sgn D x) (val D r) = flr x * U := by
  obtain ⟨k, hk, hf⟩ := integral_down h
  obtain ⟨r, hr, hv⟩ : ∃ r, r < D.infRung ∧ val D r = k * U := by
    rcases val_whole (rung D x) with hd | hl
    · refine ⟨rung D x, h, ?_⟩
      have h1 : sg (sgn D x) (k * U) = sv D x := by
        rw [sg_mul, hf]; unfold flr
        refine Int.ediv_mul_cancel ?_
        unfold sv sg
        split
        · exact Int.dvd_neg.2 (Int.ofNat_dvd.2 hd)
        · exact Int.ofNat_dvd.2 hd
      have h2 : (sg (sgn D x) (k * U)).natAbs = (sv D x).natAbs := by rw [h1]
      rw [natAbs_sg] at h2
      unfold sv at h2; rw [natAbs_sg] at h2
      exact h2.symm
    · refine rung_of_whole ?_
      have h1 : k = (flr x).natAbs := by rw [← hf, natAbs_sg]
      have hU := U_pos
      have h2 : -4503599627370496 * (U : Int) ≤ sv D x ∧ sv D x ≤ 4503599627370496 * (U : Int) := by
        generalize U = u at *
        unfold sv sg; split <;> omega
      have h3 : flr x ≤ 4503599627370496 := by
        unfold flr
        exact Int.ediv_le_of_le_mul (by omega) h2.2
      have h4 : -4503599627370496 ≤ flr x := by
        unfold flr
        exact Int.le_ediv_of_mul_le (by omega) h2.1
      rw [h1]; omega
  refine ⟨r, hr, ?_, ?_⟩
  · rw [hk]; unfold Format.write; exact nearest_whole _ (Nat.le_of_lt hr) hv
  · rw [hv, sg_mul, hf]

/-! ## The operations, as the program has them -/

def canon : Nat := 9221120237041090560
/-- a result, or the one NaN -/
def cb (o : Option Nat) : Nat := o.getD canon
def dadd (x y : Nat) : Nat := cb (D.add x y)
def dsub (x y : Nat) : Nat := cb (D.sub x y)
def dmul (x y : Nat) : Nat := cb (D.mul x y)
def ddiv (x y : Nat) : Nat := cb (D.div x y)
def isNumB (x : Nat) : Bool := decide (rung D x ≤ D.infRung)
def dfloor (x : Nat) : Nat := if isNumB x then D.write ((D.read x).integral .down) else canon
def dneg (x : Nat) : Nat := if isNumB x then (if 9223372036854775808 ≤ x then x - 9223372036854775808 else x + 9223372036854775808) else canon
def dint (i : Int) : Nat := D.nearest (i < 0) i.natAbs 0

theorem isNumB_iff {x : Nat} : isNumB x = true ↔ isNum D x := by unfold isNumB isNum; exact decide_eq_true_iff
theorem canon_lt : canon < 2 ^ 64 := by decide
theorem canon_nan : ¬ isNum D canon := by unfold isNum rung canon; rw [D_inf, D_sign]; decide

theorem word_lt64 {s : Bool} {r : Nat} (h : r < D.signWeight) : D.word s r < 2 ^ 64 := D.word_lt s h
theorem write_lt64 (d : Datum) : D.write d < 2 ^ 64 := D.write_lt d
theorem cb_lt {d : Option Datum} : cb (d.map D.write) < 2 ^ 64 := by
  cases d with
  | none => exact canon_lt
  | some d => exact write_lt64 d
theorem dadd_lt (x y : Nat) : dadd x y < 2 ^ 64 := cb_lt
theorem dsub_lt (x y : Nat) : dsub x y < 2 ^ 64 := cb_lt
theorem dmul_lt (x y : Nat) : dmul x y < 2 ^ 64 := cb_lt
theorem ddiv_lt (x y : Nat) : ddiv x y < 2 ^ 64 := cb_lt
theorem dint_lt (i : Int) : dint i < 2 ^ 64 := D.nearest_lt _ _ _
theorem dfloor_lt (x : Nat) : dfloor x < 2 ^ 64 := by unfold dfloor; split; exact write_lt64 _; exact canon_lt
theorem dneg_lt {x : Nat} (h : x < 2 ^ 64) : dneg x < 2 ^ 64 := by
  unfold dneg; split
  · split <;> omega
  · exact canon_lt

theorem nearest_num (f : Format) (s : Bool) (m : Nat) (p : Int) : isNum f (f.nearest s m p) := by
  have h0 : 0 < f.signWeight := Nat.two_pow_pos _
  unfold isNum Format.nearest
  dsimp only
  split
  · rw [rung_word h0]; omega
  · rw [rung_word (Nat.lt_of_le_of_lt (Nat.min_le_right ..) f.infRung_lt)]; exact Nat.min_le_right ..
theorem inf_num (f : Format) (s : Bool) : isNum f (f.word s f.infRung) := by
  unfold isNum; rw [rung_word f.infRung_lt]; omega
end Fl

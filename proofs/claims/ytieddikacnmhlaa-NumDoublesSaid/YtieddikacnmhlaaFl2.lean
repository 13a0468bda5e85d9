/- Plain theory of doubles, second part: order, signs, whole numbers, numbers of 32 bits. -/
import Derived.Test.YtieddikacnmhlaaFl1
import Derived.Laws.FloatArith
namespace Fl
open Ieee

def dless (x y : Nat) : Bool := D.order x y == some .lt
def dleq (x y : Nat) : Bool := D.order x y == some .lt || D.order x y == some .eq
def deq (x y : Nat) : Bool := D.order x y == some .eq

theorem compare_lt_iff (a b : Int) : (some (compare a b) == some Ordering.lt) = decide (a < b) := by
  by_cases h : a < b
  · simp [compare, compareOfLessAndEq, h]
  · by_cases h2 : a = b
    · simp [compare, compareOfLessAndEq, h2]
    · simp [compare, compareOfLessAndEq, h, h2]
theorem compare_eq_iff (a b : Int) : (some (compare a b) == some Ordering.eq) = decide (a = b) := by
  by_cases h : a < b
  · have : a ≠ b := by omega
    simp [compare, compareOfLessAndEq, h, this]
  · by_cases h2 : a = b
    · simp [compare, compareOfLessAndEq, h2]
    · simp [compare, compareOfLessAndEq, h, h2]

theorem dless_num {x y : Nat} (hx : isNum D x) (hy : isNum D y) : dless x y = decide (sv D x < sv D y) := by
  unfold dless; rw [order_num hx hy D_le, compare_lt_iff]
theorem deq_num {x y : Nat} (hx : isNum D x) (hy : isNum D y) : deq x y = decide (sv D x = sv D y) := by
  unfold deq; rw [order_num hx hy D_le, compare_eq_iff]
theorem dleq_or (x y : Nat) : dleq x y = (dless x y || deq x y) := rfl
theorem dleq_num {x y : Nat} (hx : isNum D x) (hy : isNum D y) : dleq x y = decide (sv D x ≤ sv D y) := by
  rw [dleq_or, dless_num hx hy, deq_num hx hy, Bool.eq_iff_iff]; simp; omega
theorem dless_nan {x y : Nat} (h : ¬ isNum D x ∨ ¬ isNum D y) : dless x y = false := by
  unfold dless; rcases h with h | h
  · rw [order_nan_left h D_le]; rfl
  · rw [order_nan_right h D_le]; rfl
theorem deq_nan {x y : Nat} (h : ¬ isNum D x ∨ ¬ isNum D y) : deq x y = false := by
  unfold deq; rcases h with h | h
  · rw [order_nan_left h D_le]; rfl
  · rw [order_nan_right h D_le]; rfl
theorem dleq_nan {x y : Nat} (h : ¬ isNum D x ∨ ¬ isNum D y) : dleq x y = false := by
  rw [dleq_or, dless_nan h, deq_nan h]; rfl
theorem deq_self (x : Nat) : deq x x = isNumB x := by
  by_cases h : isNum D x
  · rw [deq_num h h, isNumB_iff.2 h]; simp
  · rw [deq_nan (.inl h)]; symm; rw [← Bool.not_eq_true, isNumB_iff]; exact h

/-! ## Commuting -/

theorem sum_comm (a b : Datum) : a.sum b = b.sum a := by
  cases a <;> cases b <;> simp only [Datum.sum]
  · rename_i s m i t n j
    rw [Int.min_comm, Int.add_comm, Bool.and_comm]
  · rename_i s t
    by_cases h : s = t
    · subst h; rfl
    · rw [if_neg h, if_neg (fun e => h e.symm)]
theorem product_comm (a b : Datum) : a.product b = b.product a := by
  cases a <;> cases b <;> simp only [Datum.product]
  · rw [Nat.mul_comm, Int.add_comm, Bool.xor_comm]
  · rw [Bool.xor_comm]
theorem dadd_comm (x y : Nat) : dadd x y = dadd y x := by unfold dadd Format.add; rw [sum_comm]
theorem dmul_comm (x y : Nat) : dmul x y = dmul y x := by unfold dmul Format.mul; rw [product_comm]

/-! ## The sign turned -/

def flip (y : Nat) : Nat := if 9223372036854775808 ≤ y then y - 9223372036854775808 else y + 9223372036854775808

theorem flip_lt {y : Nat} (h : y < 2 ^ 64) : flip y < 2 ^ 64 := by unfold flip; split <;> omega
theorem flip_flip {y : Nat} (h : y < 2 ^ 64) : flip (flip y) = y := by
  unfold flip
  by_cases h1 : 9223372036854775808 ≤ y
  · rw [if_pos h1, if_neg (by omega)]; omega
  · rw [if_neg h1, if_pos (by omega)]; omega
theorem rung_flip {y : Nat} (h : y < 2 ^ 64) : rung D (flip y) = rung D y := by
  unfold rung flip; rw [D_sign]; split <;> omega
theorem sgn_flip {y : Nat} (h : y < 2 ^ 64) : sgn D (flip y) = !sgn D y := by
  unfold sgn flip; rw [D_sign]; split
  · rw [show (y - 9223372036854775808) / 9223372036854775808 = 0 by omega, show y / 9223372036854775808 = 1 by omega]; rfl
  · rw [show (y + 9223372036854775808) / 9223372036854775808 = 1 by omega, show y / 9223372036854775808 = 0 by omega]; rfl
theorem read_flip {y : Nat} (h : y < 2 ^ 64) : D.read (flip y) = (D.read y).opposite := by
  have h1 := rung_flip h
  have h2 := sgn_flip h
  unfold rung at h1
  unfold sgn at h2
  unfold Format.read
  simp only [h1, h2]
  split
  · rfl
  · split
    · rfl
    · split <;> rfl
theorem isNum_flip {y : Nat} (h : y < 2 ^ 64) : isNum D (flip y) ↔ isNum D y := by unfold isNum; rw [rung_flip h]
theorem dneg_num {y : Nat} (h : isNum D y) : dneg y = flip y := by unfold dneg; rw [if_pos (isNumB_iff.2 h)]; rfl
theorem dneg_nan {y : Nat} (h : ¬ isNum D y) : dneg y = canon := by
  unfold dneg; rw [if_neg (fun e => h (isNumB_iff.1 e))]
theorem sv_flip {y : Nat} (h : y < 2 ^ 64) : sv D (flip y) = -sv D y := by
  unfold sv; rw [rung_flip h, sgn_flip h]; cases sgn D y <;> simp [sg]
theorem dneg_dneg {y : Nat} (h : y < 2 ^ 64) (hn : isNum D y) : dneg (dneg y) = y := by
  rw [dneg_num hn, dneg_num ((isNum_flip h).2 hn), flip_flip h]

theorem read_of_nan {y : Nat} (h : ¬ isNum D y) : ∃ s t, D.read y = .nan s t := ⟨_, _, read_nan h D_le⟩
theorem sum_nan (a : Datum) (s : Bool) (t : Nat) : a.sum (.nan s t) = none := by cases a <;> rfl
theorem product_nan (a : Datum) (s : Bool) (t : Nat) : a.product (.nan s t) = none := by cases a <;> rfl
theorem quotient_nan (k : Nat) (a : Datum) (s : Bool) (t : Nat) : a.quotient k (.nan s t) = none := by cases a <;> rfl
theorem dadd_nan {x y : Nat} (h : ¬ isNum D y) : dadd x y = canon := by
  obtain ⟨s, t, e⟩ := read_of_nan h
  unfold dadd Format.add; rw [e, sum_nan]; rfl
theorem dadd_nan' {x y : Nat} (h : ¬ isNum D x) : dadd x y = canon := by rw [dadd_comm, dadd_nan h]
theorem dmul_nan {x y : Nat} (h : ¬ isNum D y) : dmul x y = canon := by
  obtain ⟨s, t, e⟩ := read_of_nan h
  unfold dmul Format.mul; rw [e, product_nan]; rfl
theorem dmul_nan' {x y : Nat} (h : ¬ isNum D x) : dmul x y = canon := by rw [dmul_comm, dmul_nan h]
theorem ddiv_nan {x y : Nat} (h : ¬ isNum D y) : ddiv x y = canon := by
  obtain ⟨s, t, e⟩ := read_of_nan h
  unfold ddiv Format.div; rw [e, quotient_nan]; rfl
theorem ddiv_nan' {x y : Nat} (h : ¬ isNum D x) : ddiv x y = canon := by
  obtain ⟨s, t, e⟩ := read_of_nan h
  unfold ddiv Format.div; rw [e]; rfl

theorem dsub_eq {x y : Nat} (h : y < 2 ^ 64) : dsub x y = dadd x (dneg y) := by
  by_cases hn : isNum D y
  · rw [dneg_num hn]; unfold dsub dadd Format.sub Format.add; rw [read_flip h]
  · rw [dneg_nan hn, dadd_nan canon_nan]
    obtain ⟨s, t, e⟩ := read_of_nan hn
    unfold dsub Format.sub; rw [e]; simp [Datum.opposite, sum_nan, cb]
theorem dsub_nan' {x y : Nat} (h : ¬ isNum D x) : dsub x y = canon := by
  obtain ⟨s, t, e⟩ := read_of_nan h
  unfold dsub Format.sub; rw [e]; rfl

/-! ## No NaN but the one -/

def clean (w : Nat) : Prop := isNum D w ∨ w = canon

theorem sum_clean {a b d : Datum} (h : a.sum b = some d) : ∀ s t, d ≠ .nan s t := by
  intro s t e; subst e
  cases a <;> cases b <;> simp only [Datum.sum] at h <;> first | (cases h; done) | skip
  split at h <;> cases h
theorem product_clean {a b d : Datum} (h : a.product b = some d) : ∀ s t, d ≠ .nan s t := by
  intro s t e; subst e
  cases a <;> cases b <;> simp only [Datum.product] at h <;> first | (cases h; done) | skip
  all_goals split at h <;> cases h
theorem quotient_clean {k : Nat} {a b d : Datum} (h : a.quotient k b = some d) : ∀ s t, d ≠ .nan s t := by
  intro s t e; subst e
  cases a <;> cases b <;> simp only [Datum.quotient] at h <;> first | (cases h; done) | skip
  split at h
  · split at h <;> cases h
  · cases h
theorem write_num {d : Datum} (h : ∀ s t, d ≠ .nan s t) : isNum D (D.write d) := by
  cases d with
  | number s m p => exact nearest_num D s m p
  | infinity s => exact inf_num D s
  | nan s t => exact absurd rfl (h s t)
theorem cb_clean {o : Option Datum} (h : ∀ d, o = some d → ∀ s t, d ≠ .nan s t) : clean (cb (o.map D.write)) := by
  cases o with
  | none => exact .inr rfl
  | some d => exact .inl (write_num (h d rfl))
theorem dadd_clean (x y : Nat) : clean (dadd x y) := cb_clean fun _ h => sum_clean h
theorem dsub_clean (x y : Nat) : clean (dsub x y) := cb_clean fun _ h => sum_clean h
theorem dmul_clean (x y : Nat) : clean (dmul x y) := cb_clean fun _ h => product_clean h
theorem ddiv_clean (x y : Nat) : clean (ddiv x y) := cb_clean fun _ h => quotient_clean h
theorem dint_num (i : Int) : isNum D (dint i) := nearest_num D _ _ _
theorem dneg_clean {x : Nat} (h : x < 2 ^ 64) : clean (dneg x) := by
  by_cases hn : isNum D x
  · rw [dneg_num hn]; exact .inl ((isNum_flip h).2 hn)
  · exact .inr (dneg_nan hn)

theorem num_cases {x : Nat} (h : isNum D x) : isFin D x ∨ rung D x = D.infRung := by unfold isNum at h; unfold isFin; omega
theorem dfloor_inf {x : Nat} (h : rung D x = D.infRung) (hl : x < 2 ^ 64) : dfloor x = x := by
  have hn : isNum D x := by unfold isNum; omega
  unfold dfloor; rw [if_pos (isNumB_iff.2 hn), read_inf h D_le]
  show D.word (sgn D x) D.infRung = x
  rw [← h]; exact word_self (by rw [D_sign]; omega)
theorem dfloor_fin {x : Nat} (h : isFin D x) : isFin D (dfloor x) ∧ sv D (dfloor x) = flr x * U ∧ sgn D (dfloor x) = sgn D x := by
  obtain ⟨r, hr, hw, hv⟩ := floor_word h
  have hr2 : r < D.signWeight := Nat.lt_trans hr D_lt
  have e : dfloor x = D.word (sgn D x) r := by unfold dfloor; rw [if_pos (isNumB_iff.2 h.num), hw]
  rw [e]
  exact ⟨by unfold isFin; rw [rung_word hr2]; exact hr, by rw [sv_word hr2, hv], sgn_word hr2⟩
theorem dfloor_nan {x : Nat} (h : ¬ isNum D x) : dfloor x = canon := by unfold dfloor; rw [if_neg (fun e => h (isNumB_iff.1 e))]
theorem dfloor_clean {x : Nat} (hl : x < 2 ^ 64) : clean (dfloor x) := by
  by_cases h : isNum D x
  · rcases num_cases h with h1 | h1
    · exact .inl (dfloor_fin h1).1.num
    · rw [dfloor_inf h1 hl]; exact .inl h
  · exact .inr (dfloor_nan h)

/-- a word is told by its number, zeros aside -/
theorem word_of_sv {x y : Nat} (hx : x < 2 ^ 64) (hy : y < 2 ^ 64) (h : sv D x = sv D y) (hs : sgn D x = sgn D y) : x = y := by
  have h1 : (sv D x).natAbs = (sv D y).natAbs := by rw [h]
  unfold sv at h1; rw [natAbs_sg, natAbs_sg] at h1
  have h2 := val_inj h1
  have e1 := word_self (f := D) (w := x) (by rw [D_sign]; omega)
  have e2 := word_self (f := D) (w := y) (by rw [D_sign]; omega)
  rw [← e1, ← e2, h2, hs]

theorem dfloor_idem {x : Nat} (hl : x < 2 ^ 64) : dfloor (dfloor x) = dfloor x := by
  by_cases h : isNum D x
  · rcases num_cases h with h1 | h1
    · obtain ⟨a, b, c⟩ := dfloor_fin h1
      obtain ⟨a', b', c'⟩ := dfloor_fin a
      refine word_of_sv (dfloor_lt _) (dfloor_lt _) ?_ c'
      rw [b']; unfold flr; rw [b, Int.mul_ediv_cancel _ (by have := U_pos; omega)]
    · rw [dfloor_inf h1 hl, dfloor_inf h1 hl]
  · rw [dfloor_nan h, dfloor_nan canon_nan]
theorem dfloor_le {x : Nat} (hl : x < 2 ^ 64) (h : isNum D x) : dleq (dfloor x) x = true := by
  rcases num_cases h with h1 | h1
  · obtain ⟨a, b, c⟩ := dfloor_fin h1
    rw [dleq_num a.num h, b]
    unfold flr
    have := Int.ediv_mul_le (sv D x) (b := (U : Int)) (by have := U_pos; omega)
    exact decide_eq_true this
  · rw [dfloor_inf h1 hl, dleq_num h h]; simp
end Fl
namespace Fl
open Ieee

def one : Nat := 4607182418800017408
def two : Nat := 4611686018427387904

theorem rung_lo {x : Nat} (h : x < 9223372036854775808) : rung D x = x := by unfold rung; rw [D_sign]; exact Nat.mod_eq_of_lt h
theorem sgn_lo {x : Nat} (h : x < 9223372036854775808) : sgn D x = false := by
  unfold sgn; rw [D_sign, Nat.div_eq_of_lt h]; rfl
theorem sgn_hi {x : Nat} (h : 9223372036854775808 ≤ x) (h2 : x < 2 ^ 64) : sgn D x = true := by
  unfold sgn; rw [D_sign, show x / 9223372036854775808 = 1 by omega]; rfl
theorem sgn_iff {x : Nat} (h : x < 2 ^ 64) : sgn D x = decide (9223372036854775808 ≤ x) := by
  by_cases h1 : 9223372036854775808 ≤ x
  · rw [sgn_hi h1 h, decide_eq_true h1]
  · rw [sgn_lo (by omega), decide_eq_false h1]

theorem val_pow (k : Nat) : val D ((E - 52 + k) * D.binade + D.binade) = 2 ^ k * U := by
  rw [val_hi D (E - 52 + k) D.binade (Nat.le_refl _) (by have := binade_pos D; omega)]
  unfold U Format.binade
  show 2 ^ 52 * 2 ^ (E - 52 + k) = _
  rw [← Nat.pow_add, ← Nat.pow_add]
  have := E_eq
  rw [show 52 + (E - 52 + k) = k + E by omega]

theorem val_one : val D one = U := by
  have e : one = (E - 52 + 0) * D.binade + D.binade := by rw [E_eq, D_binade]; rfl
  rw [e, val_pow 0, Nat.pow_zero, Nat.one_mul]
theorem val_two : val D two = 2 * U := by
  have e : two = (E - 52 + 1) * D.binade + D.binade := by rw [E_eq, D_binade]; rfl
  rw [e, val_pow 1, Nat.pow_one]
theorem one_fin : isFin D one := by unfold isFin; rw [rung_lo (by decide), D_inf]; decide
theorem two_fin : isFin D two := by unfold isFin; rw [rung_lo (by decide), D_inf]; decide
theorem sv_one : sv D one = U := by
  unfold sv; rw [rung_lo (by decide), sgn_lo (by decide), val_one]; rfl
theorem neg_least : (-D.leastPlace).toNat = E := by rw [D_least]; omega
theorem U_eq : 2 ^ E = U := rfl
theorem least_le : D.leastPlace ≤ 0 := by rw [D_least]; omega

theorem fin_or_inf {a : Nat} (h : isNum D a) : isFin D a ∨ D.read a = .infinity (sgn D a) := by
  rcases num_cases h with h | h
  · exact .inl h
  · exact .inr (read_inf h D_le)
theorem write_inf {a : Nat} (hl : a < 2 ^ 64) (h : D.read a = .infinity (sgn D a)) (hn : isNum D a) : D.write (.infinity (sgn D a)) = a := by
  rcases num_cases hn with h1 | h1
  · obtain ⟨m, p, e, _⟩ := read_fin h1; rw [e] at h; cases h
  · show D.word _ D.infRung = a
    rw [← h1]; exact word_self (by rw [D_sign]; omega)
theorem read_one : ∃ n q, D.read one = .number false n q ∧ n ≠ 0 := by
  obtain ⟨m, p, e, _, hv⟩ := read_fin one_fin
  refine ⟨m, p, by rw [e, sgn_lo (by decide)], ?_⟩
  rintro rfl
  rw [rung_lo (by decide), val_one] at hv
  have := U_pos; omega

theorem dmul_one {a : Nat} (hl : a < 2 ^ 64) (h : isNum D a) : dmul a one = a := by
  rcases fin_or_inf h with h1 | h1
  · unfold dmul
    rw [mul_exact h1 one_fin least_le h (by rw [neg_least, U_eq, rung_lo (x := one) (by decide), val_one])]
    rw [sgn_lo (x := one) (by decide), Bool.xor_false]
    exact word_self (by rw [D_sign]; omega)
  · obtain ⟨n, q, e, hn⟩ := read_one
    unfold dmul Format.mul
    rw [h1, e]
    simp only [Datum.product, if_neg hn, Bool.xor_false, Option.map_some]
    exact write_inf hl h1 h
theorem ddiv_one {a : Nat} (hl : a < 2 ^ 64) (h : isNum D a) : ddiv a one = a := by
  rcases fin_or_inf h with h1 | h1
  · unfold ddiv
    rw [div_exact h1 one_fin least_le h (by rw [rung_lo (x := one) (by decide), val_one]; have := U_pos; omega) (by rw [neg_least, U_eq, rung_lo (x := one) (by decide), val_one])]
    rw [sgn_lo (x := one) (by decide), Bool.xor_false]
    exact word_self (by rw [D_sign]; omega)
  · obtain ⟨n, q, e, hn⟩ := read_one
    unfold ddiv Format.div
    rw [h1, e]
    simp only [Datum.quotient, Bool.xor_false, Option.map_some]
    exact write_inf hl h1 h

theorem zero_word (s : Bool) : sv D (D.word s 0) = 0 ∧ isFin D (D.word s 0) := by
  have h0 : 0 < D.signWeight := by rw [D_sign]; decide
  constructor
  · rw [sv_word h0, val_zero]; cases s <;> rfl
  · unfold isFin; rw [rung_word h0, D_inf]; decide
theorem sv_zero : sv D 0 = 0 := by have := (zero_word false).1; exact this
theorem zero_fin : isFin D 0 := (zero_word false).2

theorem dsub_self {a : Nat} (hl : a < 2 ^ 64) (h : isFin D a) : deq (dsub a a) 0 = true := by
  rw [dsub_eq hl, dneg_num h.num]
  have hf : isFin D (flip a) := by unfold isFin; rw [rung_flip hl]; exact h
  unfold dadd
  rw [add_exact (r := 0) h hf (by rw [D_inf]; decide) (by rw [sv_flip hl, val_zero]; omega)]
  unfold cb; simp only [Option.getD_some]
  rw [deq_num (zero_word _).2.num zero_fin.num, (zero_word _).1, sv_zero]; rfl
theorem dsub_self_inf {a : Nat} (h1 : D.read a = .infinity (sgn D a)) : dsub a a = canon := by
  unfold dsub Format.sub
  rw [h1]
  simp [Datum.opposite, Datum.sum, cb]
theorem ddiv_self_inf {a : Nat} (h1 : D.read a = .infinity (sgn D a)) : ddiv a a = canon := by
  unfold ddiv Format.div
  rw [h1]
  simp [Datum.quotient, cb]
theorem ddiv_self {a : Nat} (h : isFin D a) (h0 : rung D a ≠ 0) : ddiv a a = one := by
  have hv : val D (rung D a) ≠ 0 := by
    have := val_lt (f := D) (r := 0) (s := rung D a) (by omega); omega
  unfold ddiv
  rw [div_exact (r := one) h h least_le (by rw [D_inf]; decide) hv (by rw [neg_least, U_eq, val_one, Nat.mul_comm])]
  rw [Bool.xor_self]; rfl
theorem ddiv_self_zero {a : Nat} (h : isFin D a) (h0 : rung D a = 0) : ddiv a a = canon := by
  obtain ⟨m, p, e, _, hv⟩ := read_fin h
  have hm : m = 0 := by
    rw [h0, val_zero] at hv
    rcases Nat.mul_eq_zero.1 hv with h | h
    · exact h
    · have := Nat.two_pow_pos (p - D.leastPlace).toNat; omega
  subst hm
  unfold ddiv Format.div
  rw [e]
  simp [Datum.quotient, cb]

theorem dadd_self {a : Nat} (h : isNum D a) : dadd a a = dmul a two ∧ isNum D (dadd a a) := by
  obtain ⟨n, q, e2, hq, hn⟩ := read_fin_D two_fin
  rw [rung_lo (by decide), val_two] at hn
  rw [sgn_lo (by decide)] at e2
  have hn0 : n ≠ 0 := by rintro rfl; have := U_pos; omega
  rcases fin_or_inf h with h1 | h1
  · obtain ⟨m, p, e, hp, hv⟩ := read_fin_D h1
    have e3 : dadd a a = D.nearest (sgn D a) (2 * m) p := by
      unfold dadd Format.add
      rw [e]
      simp only [Datum.sum, Option.map_some, Int.min_self, Int.sub_self, signed_eq, Int.toNat_zero, Nat.pow_zero, Nat.mul_one]
      show D.nearest _ _ _ = _
      have e4 : sg (sgn D a) m + sg (sgn D a) m = sg (sgn D a) (2 * m) := by cases sgn D a <;> simp [sg] <;> omega
      rw [e4, natAbs_sg]
      by_cases hm : m = 0
      · subst hm; cases sgn D a <;> simp [sg]
      · have e5 : (if sg (sgn D a) (2 * m) = 0 then sgn D a && sgn D a else decide (sg (sgn D a) (2 * m) < 0)) = sgn D a := by
          cases sgn D a
          · simp [sg]; omega
          · simp [sg]; omega
        rw [e5]
    refine ⟨?_, by rw [e3]; exact nearest_num D _ _ _⟩
    rw [e3]
    unfold dmul Format.mul
    rw [e, e2]
    simp only [Datum.product, Option.map_some, Bool.xor_false]
    show _ = D.nearest _ _ _
    refine nearest_same D _ ?_
    by_cases h0 : 0 ≤ q
    · rw [show min p (p + q) = p by omega, Int.sub_self, show p + q - p = q by omega]
      have : n * 2 ^ q.toNat = 2 := by
        refine Nat.eq_of_mul_eq_mul_right U_pos ?_
        rw [← hn, Nat.mul_assoc]; unfold U; rw [← Nat.pow_add, show (q + (E : Int)).toNat = q.toNat + E by omega]
      rw [Nat.mul_assoc m, this, Nat.mul_comm 2]; simp only [Int.toNat_zero, Nat.pow_zero, Nat.mul_one]
    · rw [show min p (p + q) = p + q by omega, Int.sub_self, show p - (p + q) = -q by omega]
      have hE : U = 2 ^ (-q).toNat * 2 ^ (q + E).toNat := by unfold U; rw [← Nat.pow_add, show (-q).toNat + (q + (E : Int)).toNat = E by omega]
      have : n = 2 * 2 ^ (-q).toNat := by
        refine Nat.eq_of_mul_eq_mul_right (Nat.two_pow_pos (q + E).toNat) ?_
        rw [hn, Nat.mul_assoc, ← hE]
      rw [this]; simp only [Int.toNat_zero, Nat.pow_zero, Nat.mul_one]
      rw [Nat.mul_comm 2 m, Nat.mul_assoc]
  · have e3 : dadd a a = D.write (.infinity (sgn D a)) := by
      unfold dadd Format.add; rw [h1]; simp [Datum.sum, cb]
    have e4 : dmul a two = D.write (.infinity (sgn D a)) := by
      unfold dmul Format.mul; rw [h1, e2]; simp [Datum.product, cb, hn0]
    exact ⟨by rw [e3, e4], by rw [e3]; exact inf_num D _⟩

/-! ## Whole numbers as doubles -/

theorem fint {i : Int} (h : i.natAbs ≤ 9007199254740992) : isFin D (dint i) ∧ sv D (dint i) = i * U ∧ sgn D (dint i) = decide (i < 0) := by
  obtain ⟨r, hr, hv⟩ := rung_of_whole h
  have hr2 : r < D.signWeight := Nat.lt_trans hr D_lt
  have e : dint i = D.word (decide (i < 0)) r := by unfold dint; exact nearest_whole _ (Nat.le_of_lt hr) hv
  rw [e]
  refine ⟨by unfold isFin; rw [rung_word hr2]; exact hr, ?_, sgn_word hr2⟩
  rw [sv_word hr2, hv, sg_mul]
  congr 1
  unfold sg
  by_cases hi : i < 0
  · simp [hi]; omega
  · simp [hi]; omega

theorem trc_of {x : Nat} {i : Int} (h : sv D x = i * U) : trc x = i := by
  unfold trc; rw [h, Int.mul_tdiv_cancel _ (by have := U_pos; omega)]

theorem natAbs_sv (x : Nat) : (sv D x).natAbs = val D (rung D x) := by unfold sv; exact natAbs_sg _ _

theorem natAbs_mul_U (i : Int) : (i * (U : Int)).natAbs = i.natAbs * U := by rw [Int.natAbs_mul, Int.natAbs_natCast]

/-- sums of whole numbers -/
theorem dadd_whole {x y : Nat} {i j : Int} (hx : isFin D x) (hy : isFin D y) (h1 : sv D x = i * U) (h2 : sv D y = j * U) (h : (i + j).natAbs ≤ 9007199254740992) :
    isFin D (dadd x y) ∧ sv D (dadd x y) = (i + j) * U := by
  obtain ⟨r, hr, hv⟩ := rung_of_whole h
  have hr2 : r < D.signWeight := Nat.lt_trans hr D_lt
  have hs : sv D x + sv D y = (i + j) * U := by rw [h1, h2, Int.add_mul]
  have e : dadd x y = D.word (if sv D x + sv D y = 0 then sgn D x && sgn D y else decide (sv D x + sv D y < 0)) r := by
    unfold dadd; rw [add_exact hx hy (Nat.le_of_lt hr) (by rw [hs, natAbs_mul_U, hv])]; rfl
  rw [e]
  refine ⟨by unfold isFin; rw [rung_word hr2]; exact hr, ?_⟩
  rw [sv_word hr2, hv, hs]
  have hU := U_pos
  have hpos : (0 : Int) < U := by omega
  have a1 : ((i + j) * (U : Int) < 0) ↔ i + j < 0 := ⟨fun h => by
      by_cases h2 : i + j < 0
      · exact h2
      · have := Int.mul_nonneg (show 0 ≤ i + j by omega) (Int.le_of_lt hpos); omega, fun h => Int.mul_neg_of_neg_of_pos h hpos⟩
  have a2 : ((i + j) * (U : Int) = 0) ↔ i + j = 0 := ⟨fun h => by rcases Int.mul_eq_zero.1 h with h | h <;> omega, fun h => by rw [h, Int.zero_mul]⟩
  simp only [a1, a2]
  rw [sg_mul]
  by_cases hz : i + j = 0
  · rw [hz]; rw [Int.zero_mul]; unfold sg; split <;> simp
  · rw [if_neg hz]
    congr 1
    unfold sg
    by_cases hi : i + j < 0
    · simp [hi]; omega
    · simp [hi]; omega

theorem dsub_whole {x y : Nat} {i j : Int} (hl : y < 2 ^ 64) (hx : isFin D x) (hy : isFin D y) (h1 : sv D x = i * U) (h2 : sv D y = j * U) (h : (i - j).natAbs ≤ 9007199254740992) :
    isFin D (dsub x y) ∧ sv D (dsub x y) = (i - j) * U := by
  rw [dsub_eq hl, dneg_num hy.num, Int.sub_eq_add_neg]
  refine dadd_whole hx (by unfold isFin; rw [rung_flip hl]; exact hy) h1 (by rw [sv_flip hl, h2, Int.neg_mul]) (by rw [← Int.sub_eq_add_neg]; exact h)

theorem val_of_sv {x : Nat} {i : Int} (h : sv D x = i * U) : val D (rung D x) = i.natAbs * U := by rw [← natAbs_sv, h, natAbs_mul_U]

theorem sg_xor {s t : Bool} {m n : Nat} : sg (s ^^ t) (m * n) = sg s m * sg t n := by
  cases s <;> cases t <;> simp [sg, Int.neg_mul, Int.mul_neg]

theorem dmul_whole {x y : Nat} {i j : Int} (hx : isFin D x) (hy : isFin D y) (h1 : sv D x = i * U) (h2 : sv D y = j * U) (h : (i * j).natAbs ≤ 9007199254740992) :
    isFin D (dmul x y) ∧ sv D (dmul x y) = i * j * U := by
  obtain ⟨r, hr, hv⟩ := rung_of_whole h
  have hr2 : r < D.signWeight := Nat.lt_trans hr D_lt
  have e : dmul x y = D.word (sgn D x ^^ sgn D y) r := by
    unfold dmul
    rw [mul_exact hx hy least_le (Nat.le_of_lt hr) (by rw [neg_least, U_eq, hv, val_of_sv h1, val_of_sv h2, Int.natAbs_mul]; simp only [Nat.mul_assoc, Nat.mul_left_comm])]; rfl
  rw [e]
  refine ⟨by unfold isFin; rw [rung_word hr2]; exact hr, ?_⟩
  rw [sv_word hr2]
  have hU := U_pos
  refine Int.eq_of_mul_eq_mul_right (a := (U : Int)) (by omega) ?_
  rw [← sg_mul]
  have : val D r * U = val D (rung D x) * val D (rung D y) := by
    rw [hv, val_of_sv h1, val_of_sv h2, Int.natAbs_mul]; simp only [Nat.mul_assoc, Nat.mul_left_comm]
  rw [this, sg_xor]
  show sv D x * sv D y = _
  rw [h1, h2]; simp only [Int.mul_assoc, Int.mul_left_comm]

theorem ddiv_whole {x y : Nat} {i j : Int} (hx : isFin D x) (hy : isFin D y) (h1 : sv D x = i * j * U) (h2 : sv D y = j * U) (hj : j ≠ 0) (h : i.natAbs ≤ 9007199254740992) :
    isFin D (ddiv x y) ∧ sv D (ddiv x y) = i * U := by
  obtain ⟨r, hr, hv⟩ := rung_of_whole h
  have hr2 : r < D.signWeight := Nat.lt_trans hr D_lt
  have hU := U_pos
  have hy0 : val D (rung D y) ≠ 0 := by
    rw [val_of_sv h2]; exact Nat.mul_ne_zero (by omega) (by omega)
  have hm : val D (rung D x) * U = val D r * val D (rung D y) := by
    rw [hv, val_of_sv h1, val_of_sv h2, Int.natAbs_mul]; simp only [Nat.mul_assoc, Nat.mul_left_comm]
  have e : ddiv x y = D.word (sgn D x ^^ sgn D y) r := by
    unfold ddiv
    rw [div_exact hx hy least_le (Nat.le_of_lt hr) hy0 (by rw [neg_least, U_eq, hm])]; rfl
  rw [e]
  refine ⟨by unfold isFin; rw [rung_word hr2]; exact hr, ?_⟩
  rw [sv_word hr2]
  have hne : sg (sgn D y) (val D (rung D y)) ≠ 0 := by
    intro e0; have := natAbs_sg (sgn D y) (val D (rung D y)); rw [e0] at this; simp at this; omega
  refine Int.eq_of_mul_eq_mul_right hne ?_
  rw [← sg_xor, Bool.xor_assoc, Bool.xor_self, Bool.xor_false, ← hm, sg_mul]
  show sv D x * _ = _ * sv D y
  rw [h1, h2]; simp only [Int.mul_assoc, Int.mul_left_comm, Int.mul_comm]
end Fl
namespace Fl
open Ieee

/-! ## Bounds; what is cut -/

def two63 : Nat := 4890909195324358656
def mtwo63 : Nat := 14114281232179134464
theorem val_two63 : val D two63 = 9223372036854775808 * U := by
  have e : two63 = (E - 52 + 63) * D.binade + D.binade := by rw [E_eq, D_binade]; rfl
  rw [e, val_pow 63]
theorem two63_fin : isFin D two63 := by unfold isFin; rw [rung_lo (by decide), D_inf]; decide
theorem mtwo63_eq : mtwo63 = flip two63 := by decide
theorem mtwo63_fin : isFin D mtwo63 := by
  rw [mtwo63_eq]; unfold isFin; rw [rung_flip (by decide)]; exact two63_fin
theorem sv_two63 : sv D two63 = 9223372036854775808 * U := by
  unfold sv; rw [rung_lo (by decide), sgn_lo (by decide), val_two63]; unfold sg; simp
theorem sv_mtwo63 : sv D mtwo63 = -9223372036854775808 * U := by
  rw [mtwo63_eq, sv_flip (by decide), sv_two63, Int.neg_mul]

/-- does the whole part fit into 64 bits with a sign? -/
def inI64 (x : Nat) : Bool := dleq mtwo63 x && dless x two63
theorem inI64_iff {x : Nat} (h : isNum D x) : inI64 x = true ↔ -9223372036854775808 * (U : Int) ≤ sv D x ∧ sv D x < 9223372036854775808 * U := by
  unfold inI64; rw [dleq_num mtwo63_fin.num h, dless_num h two63_fin.num, sv_mtwo63, sv_two63]; simp
theorem inI64_nan {x : Nat} (h : ¬ isNum D x) : inI64 x = false := by
  unfold inI64; rw [dless_nan (.inl h), Bool.and_false]
theorem sv_inf {x : Nat} (h : rung D x = D.infRung) : (9223372036854775808 : Int) * U < (sv D x).natAbs := by
  rw [natAbs_sv, h, val_D_inf]
  have h1 : (2 : Nat) ^ 64 ≤ 2 ^ M := Nat.pow_le_pow_right (by omega) (by rw [M_eq]; omega)
  have hU := U_pos
  have h2 : 2 ^ 64 * U ≤ 2 ^ M * U := Nat.mul_le_mul_right _ h1
  generalize 2 ^ M * U = g at *
  generalize U = u at *
  omega
theorem inI64_fin {x : Nat} (h : inI64 x = true) : isFin D x := by
  have hn : isNum D x := by
    by_cases hn : isNum D x
    · exact hn
    · rw [inI64_nan hn] at h; cases h
  rcases num_cases hn with h1 | h1
  · exact h1
  · have h2 := sv_inf h1
    have h3 := (inI64_iff hn).1 h
    generalize (U : Int) = u at *
    omega
theorem trc_range {x : Nat} (h : inI64 x = true) : -9223372036854775808 ≤ trc x ∧ trc x ≤ 9223372036854775807 := by
  have hU := U_pos
  obtain ⟨h1, h2⟩ := (inI64_iff (inI64_fin h).num).1 h
  unfold trc
  by_cases hp : 0 ≤ sv D x
  · rw [Int.tdiv_eq_ediv_of_nonneg hp]
    constructor
    · have := Int.ediv_nonneg hp (show (0 : Int) ≤ U by omega); omega
    · have := Int.ediv_lt_of_lt_mul (show (0 : Int) < U by omega) h2; omega
  · have e : (sv D x).tdiv U = -((-sv D x) / U) := by
      rw [← Int.tdiv_eq_ediv_of_nonneg (by omega), Int.neg_tdiv, Int.neg_neg]
    rw [e]
    have a1 := Int.ediv_nonneg (show 0 ≤ -sv D x by omega) (show (0 : Int) ≤ U by omega)
    have a2 : -sv D x / (U : Int) ≤ 9223372036854775808 := Int.ediv_le_of_le_mul (by omega) (by omega)
    omega

/-! ## The floor of a number that is not too great -/

theorem flr_le (x : Nat) : flr x * U ≤ sv D x := Int.ediv_mul_le _ (by have := U_pos; omega)
theorem lt_flr (x : Nat) : sv D x < (flr x + 1) * U := by
  have := Int.lt_ediv_add_one_mul_self (sv D x) (show (0 : Int) < U by have := U_pos; omega)
  exact this
theorem flr_bound {x : Nat} {b : Int} (h1 : -b * (U : Int) ≤ sv D x) (h2 : sv D x ≤ b * U) : -b ≤ flr x ∧ flr x ≤ b := by
  have hU := U_pos
  exact ⟨Int.le_ediv_of_mul_le (by omega) h1, Int.ediv_le_of_le_mul (by omega) h2⟩

theorem trc_floor {x : Nat} (h : isFin D x) : trc (dfloor x) = flr x := trc_of (dfloor_fin h).2.1

theorem deq_floor {x : Nat} (h : isFin D x) : deq (dfloor x) x = decide (flr x * U = sv D x) := by
  rw [deq_num (dfloor_fin h).1.num h.num, (dfloor_fin h).2.1]

theorem trc_eq {x : Nat} : trc x = if sv D x < 0 ∧ flr x * U ≠ sv D x then flr x + 1 else flr x := by
  have hU := U_pos
  by_cases hz : flr x * U = sv D x
  · rw [if_neg (by simp [hz])]
    exact trc_of hz.symm
  · by_cases hp : 0 ≤ sv D x
    · rw [if_neg (by omega)]; unfold trc flr; exact Int.tdiv_eq_ediv_of_nonneg hp
    · rw [if_pos ⟨by omega, hz⟩]
      unfold trc
      have e : (sv D x).tdiv U = -((-sv D x) / U) := by
        rw [← Int.tdiv_eq_ediv_of_nonneg (by omega), Int.neg_tdiv, Int.neg_neg]
      rw [e]
      have h1 := flr_le x
      have h2 := lt_flr x
      have : -sv D x / (U : Int) = -(flr x + 1) := by
        rw [Int.ediv_eq_iff_of_pos (by omega)]
        rw [Int.neg_mul]
        rw [Int.add_mul, Int.one_mul] at *
        omega
      rw [this]; omega

/-- |x| up to 2^51 -/
theorem small_sv {x : Nat} (h : rung D x ≤ 4836865999795912704) : -2251799813685248 * (U : Int) ≤ sv D x ∧ sv D x ≤ 2251799813685248 * U ∧ isFin D x := by
  have hf : isFin D x := by unfold isFin; rw [D_inf]; omega
  have e : 4836865999795912704 = (E - 52 + 51) * D.binade + D.binade := by rw [E_eq, D_binade]
  have hv : val D (rung D x) ≤ 2251799813685248 * U := by
    rw [show (2251799813685248 : Nat) = 2 ^ 51 by decide, ← val_pow 51, ← e]
    by_cases h1 : rung D x = 4836865999795912704
    · rw [h1]; exact Nat.le_refl _
    · exact Nat.le_of_lt (val_lt (by omega))
  refine ⟨?_, ?_, hf⟩
  · unfold sv sg; generalize U = u at *; split <;> omega
  · unfold sv sg; generalize U = u at *; split <;> omega

/-- SoftFloors, as numbers -/
theorem soft_floors {x : Nat} (hl : x < 2 ^ 64) (h : rung D x ≤ 4836865999795912704) :
    inI64 (dfloor x) = true ∧ deq (dint (trc (dfloor x))) (dfloor x) = true ∧ dleq (dfloor x) x = true ∧ dless x (dadd (dfloor x) one) = true ∧ inI64 x = true ∧
    trc x = (if 9223372036854775808 ≤ x ∧ deq (dfloor x) x = false then trc (dfloor x) + 1 else trc (dfloor x)) ∧ -4503599627370496 ≤ trc (dfloor x) ∧ trc (dfloor x) ≤ 4503599627370496 := by
  obtain ⟨h1, h2, hf⟩ := small_sv h
  obtain ⟨b1, b2⟩ := flr_bound h1 h2
  obtain ⟨f1, f2, f3⟩ := dfloor_fin hf
  have hU := U_pos
  have hpos : (0 : Int) < U := by omega
  have c1 : -2251799813685248 * (U : Int) ≤ flr x * U := Int.mul_le_mul_of_nonneg_right b1 (by omega)
  have c2 : flr x * U ≤ 2251799813685248 * (U : Int) := Int.mul_le_mul_of_nonneg_right b2 (by omega)
  obtain ⟨g1, g2, g3⟩ := fint (i := flr x) (by omega)
  have hone : sv D one = 1 * (U : Int) := by rw [sv_one, Int.one_mul]
  obtain ⟨k1, k2⟩ := dadd_whole f1 one_fin f2 hone (by omega)
  rw [trc_floor hf, deq_floor hf]
  refine ⟨?_, ?_, dfloor_le hl hf.num, ?_, ?_, ?_, by omega, by omega⟩
  · rw [inI64_iff f1.num, f2]; generalize (U : Int) = u at *; omega
  · rw [deq_num g1.num f1.num, g2, f2]; simp
  · rw [dless_num hf.num k1.num, k2]; exact decide_eq_true (lt_flr x)
  · rw [inI64_iff hf.num]; generalize (U : Int) = u at *; omega
  · rw [trc_eq]
    have hs := sgn_iff hl
    by_cases hz : flr x * U = sv D x
    · simp [hz]
    · have hneg : (sv D x < 0) ↔ 9223372036854775808 ≤ x := by
        have h0 : val D (rung D x) ≠ 0 := by
          intro e; apply hz
          have : sv D x = 0 := by unfold sv; rw [e]; unfold sg; split <;> rfl
          unfold flr; rw [this]; simp
        by_cases hx : 9223372036854775808 ≤ x
        · have : sv D x < 0 := by unfold sv; rw [hs, decide_eq_true hx]; unfold sg; simp; omega
          simp [this, hx]
        · have : ¬ sv D x < 0 := by unfold sv; rw [hs, decide_eq_false hx]; unfold sg; simp
          simp [this, hx]
      simp [hz, hneg]

/-- SoftWhole, as numbers -/
theorem soft_whole {i j : Int} (hi : i.natAbs ≤ 33554432) (hj : j.natAbs ≤ 33554432) :
    (inI64 (dadd (dint i) (dint j)) = true ∧ trc (dadd (dint i) (dint j)) = i + j) ∧
    (inI64 (dsub (dint i) (dint j)) = true ∧ trc (dsub (dint i) (dint j)) = i - j) ∧
    (inI64 (dmul (dint i) (dint j)) = true ∧ trc (dmul (dint i) (dint j)) = i * j) ∧
    (j ≠ 0 → inI64 (dfloor (ddiv (dint (i * j)) (dint j))) = true ∧ trc (dfloor (ddiv (dint (i * j)) (dint j))) = i) ∧
    dless (dint i) (dint j) = decide (i < j) ∧ deq (dint i) (dint j) = decide (i = j) := by
  have hU := U_pos
  have hpos : (0 : Int) < U := by omega
  obtain ⟨a1, a2, _⟩ := fint (i := i) (by omega)
  obtain ⟨b1, b2, _⟩ := fint (i := j) (by omega)
  have hm : (i * j).natAbs ≤ 1125899906842624 := by
    rw [Int.natAbs_mul]; exact Nat.mul_le_mul hi hj
  have rng : ∀ {x : Nat} {k : Int}, isFin D x → sv D x = k * U → k.natAbs ≤ 9007199254740992 → inI64 x = true := by
    intro x k hf hs hk
    rw [inI64_iff hf.num, hs]
    have c1 : -9007199254740992 * (U : Int) ≤ k * U := Int.mul_le_mul_of_nonneg_right (by omega) (by omega)
    have c2 : k * U ≤ 9007199254740992 * (U : Int) := Int.mul_le_mul_of_nonneg_right (by omega) (by omega)
    generalize (U : Int) = u at *; generalize k * u = z at *; omega
  obtain ⟨s1, s2⟩ := dadd_whole a1 b1 a2 b2 (by omega)
  obtain ⟨d1, d2⟩ := dsub_whole (dint_lt j) a1 b1 a2 b2 (by omega)
  obtain ⟨m1, m2⟩ := dmul_whole a1 b1 a2 b2 (by omega)
  refine ⟨⟨rng s1 s2 (by omega), trc_of s2⟩, ⟨rng d1 d2 (by omega), trc_of d2⟩, ⟨rng m1 m2 (by omega), trc_of m2⟩, ?_, ?_, ?_⟩
  · intro hj0
    obtain ⟨c1, c2, _⟩ := fint (i := i * j) (by omega)
    obtain ⟨q1, q2⟩ := ddiv_whole c1 b1 c2 b2 hj0 (by omega)
    obtain ⟨f1, f2, _⟩ := dfloor_fin q1
    have e : flr (ddiv (dint (i * j)) (dint j)) = i := by unfold flr; rw [q2, Int.mul_ediv_cancel _ (by omega)]
    rw [e] at f2
    exact ⟨rng f1 f2 (by omega), trc_of f2⟩
  · rw [dless_num a1.num b1.num, a2, b2]
    have : (i * (U : Int) < j * U) ↔ i < j := Int.mul_lt_mul_right hpos
    simp only [this]
  · rw [deq_num a1.num b1.num, a2, b2]
    have : (i * (U : Int) = j * U) ↔ i = j := ⟨fun h => Int.eq_of_mul_eq_mul_right (by omega) h, fun h => by rw [h]⟩
    simp only [this]

/-- There and back. -/
theorem soft_int_back {i : Int} (h : i.natAbs ≤ 9007199254740992) : inI64 (dint i) = true ∧ trc (dint i) = i := by
  obtain ⟨a1, a2, _⟩ := fint h
  refine ⟨?_, trc_of a2⟩
  have hU := U_pos
  rw [inI64_iff a1.num, a2]
  have c1 : -9007199254740992 * (U : Int) ≤ i * U := Int.mul_le_mul_of_nonneg_right (by omega) (by omega)
  have c2 : i * U ≤ 9007199254740992 * (U : Int) := Int.mul_le_mul_of_nonneg_right (by omega) (by omega)
  generalize i * (U : Int) = z at *
  generalize U = u at *; omega
end Fl
namespace Fl
open Ieee

/-! ## NaNs, as the reference tells them -/

theorem nan_iff {w : Nat} : (w / 4503599627370496 % 2048 = 2047 ∧ w % 4503599627370496 ≠ 0) ↔ ¬ isNum D w := by
  unfold isNum rung; rw [D_inf, D_sign]; omega
/-- as the program tells them: the sign shifted out -/
theorem nan_shift {w : Nat} : (18437736874454810624 < w * 2 % 18446744073709551616) ↔ ¬ isNum D w := by
  unfold isNum rung; rw [D_inf, D_sign]; omega
theorem inf_mask {w : Nat} : (w % 9223372036854775808 = 9218868437227405312) ↔ rung D w = D.infRung := by
  unfold rung; rw [D_inf, D_sign]

/-! ## Numbers of 32 bits -/

abbrev S : Format := Ieee.single
theorem S_least : S.leastPlace = -149 := by decide
theorem S_binade : S.binade = 8388608 := by decide
theorem S_sign : S.signWeight = 2147483648 := by decide
theorem S_inf : S.infRung = 2139095040 := by decide
theorem S_le : S.binade ≤ S.infRung := by decide
theorem val_S_inf : val S S.infRung = 8388608 * 2 ^ 254 := by
  have h3 : S.infRung = 254 * S.binade + S.binade := by rw [S_inf, S_binade]
  rw [h3, val_hi S 254 S.binade (by omega) (by have := binade_pos S; omega), S_binade]

def dwide (n : Nat) : Nat := D.write (S.read n)

theorem wide_rung {r0 : Nat} (h : r0 < S.infRung) : ∃ r, r < D.infRung ∧ val D r = val S r0 * 2 ^ (E - 149) := by
  have hb := D_binade
  have hs := S_binade
  obtain ⟨r, hr⟩ : ∃ r, val D r = val S r0 * 2 ^ (E - 149) := by
    by_cases h1 : r0 < S.binade
    · rw [val_lo (by omega)]; exact rung_of D r0 _ (by omega)
    · obtain ⟨e, m, _, h2, h3, h4⟩ := rung_split S (r := r0) (by omega)
      rw [h4, Nat.mul_assoc, ← Nat.pow_add]; exact rung_of D m _ (by omega)
  refine ⟨r, ?_, hr⟩
  rw [← val_lt_iff (f := D), hr, val_D_inf]
  have h5 := val_lt (f := S) h
  have hE := E_eq
  have hM := M_eq
  rw [val_S_inf] at h5
  have h6 : U = 2 ^ 149 * 2 ^ (E - 149) := by unfold U; rw [← Nat.pow_add, show 149 + (E - 149) = E by omega]
  rw [h6, ← Nat.mul_assoc]
  refine Nat.mul_lt_mul_of_pos_right (Nat.lt_of_lt_of_le h5 ?_) (Nat.two_pow_pos _)
  have h7 : (2 : Nat) ^ 128 ≤ 2 ^ M := Nat.pow_le_pow_right (by omega) (by omega)
  calc 8388608 * 2 ^ 254 = 2 ^ 128 * 2 ^ 149 := by decide
    _ ≤ _ := Nat.mul_le_mul_right _ h7

theorem wide_fin {n : Nat} (h : isFin S n) : ∃ r, r < D.infRung ∧ dwide n = D.word (sgn S n) r ∧ val D r = val S (rung S n) * 2 ^ (E - 149) := by
  obtain ⟨m, p, e, hp, hv⟩ := read_fin h
  obtain ⟨r, hr, hw⟩ := wide_rung h
  refine ⟨r, hr, ?_, hw⟩
  unfold dwide
  rw [e]
  show D.nearest _ _ _ = _
  rw [S_least] at hp hv
  have hE := E_eq
  refine nearest_exact' D _ (Nat.le_of_lt hr) (by rw [D_least]; omega) ?_
  rw [D_least, hw, ← hv, Nat.mul_assoc, ← Nat.pow_add]
  rw [show (p - -149).toNat + (E - 149) = (p - -(E : Int)).toNat by omega]

theorem wide_inf {n : Nat} (h : rung S n = S.infRung) : dwide n = D.word (sgn S n) D.infRung := by
  unfold dwide; rw [read_inf h S_le]; rfl

theorem dwide_num {n : Nat} (h : isNum S n) : isNum D (dwide n) := by
  unfold dwide
  by_cases h1 : isFin S n
  · obtain ⟨m, p, e, _⟩ := read_fin h1
    rw [e]; exact nearest_num D _ _ _
  · rw [read_inf (by unfold isNum isFin at *; omega) S_le]; exact inf_num D _

theorem read_of_fin_inf {f : Format} {w : Nat} (h : isFin f w) : (f.read w).isInfinity = false := by
  obtain ⟨m, p, e, _⟩ := read_fin h
  rw [e]; rfl

theorem wide_bits {n : Nat} (h : isNum S n) : Go.floatToFloatBits .f32 n .f64 = some (dwide n) := by
  unfold Go.floatToFloatBits
  rw [if_neg (by decide)]
  show (match S.read n with | .nan _ _ => none | .infinity s => some (D.write (.infinity s)) | .number s m e => _) = _
  by_cases h1 : isFin S n
  · obtain ⟨r, hr, hw, hv⟩ := wide_fin h1
    obtain ⟨m, p, e, _⟩ := read_fin h1
    have hw2 : D.write (.number (sgn S n) m p) = D.word (sgn S n) r := by unfold dwide at hw; rw [e] at hw; exact hw
    rw [e]
    show (if (D.read (D.write (.number (sgn S n) m p))).isInfinity then none else some (D.write (.number (sgn S n) m p))) = _
    rw [hw2, read_of_fin_inf (by unfold isFin; rw [rung_word (Nat.lt_trans hr D_lt)]; exact hr), hw]; simp
  · have h2 : rung S n = S.infRung := by unfold isNum isFin at *; omega
    rw [read_inf h2 S_le, wide_inf h2]; rfl

theorem narrow_wide {n : Nat} (hl : n < 2 ^ 32) (h : isNum S n) : Go.floatToFloatBits .f64 (dwide n) .f32 = some n := by
  have hself : S.word (sgn S n) (rung S n) = n := word_self (by rw [S_sign]; omega)
  unfold Go.floatToFloatBits
  rw [if_neg (by decide)]
  show (match D.read (dwide n) with | .nan _ _ => none | .infinity s => some (S.write (.infinity s)) | .number s m e => _) = _
  by_cases h1 : isFin S n
  · obtain ⟨r, hr, hw, hv⟩ := wide_fin h1
    have hr2 := Nat.lt_trans hr D_lt
    have hf : isFin D (dwide n) := by rw [hw]; unfold isFin; rw [rung_word hr2]; exact hr
    obtain ⟨m, p, e, hp, hm⟩ := read_fin_D hf
    rw [hw, rung_word hr2, sgn_word hr2] at *
    rw [e]
    have hE := E_eq
    have hwr : S.write (.number (sgn S n) m p) = n := by
      show S.nearest _ _ _ = _
      rw [nearest_exact S (sgn S n) (r := rung S n) h ?_, hself]
      rw [S_least]
      rw [hv] at hm
      refine pow_cancel (z := E - 149 + (min p (-149) + E).toNat) ?_
      by_cases hc : p ≤ -149
      · rw [show min p (-149) = p by omega, Int.sub_self]
        have e1 : m * 2 ^ ((0 : Int).toNat + (E - 149 + (p + E).toNat)) = m * 2 ^ (p + E).toNat * 2 ^ (E - 149) := by
          rw [Nat.mul_assoc, ← Nat.pow_add, show (0 : Int).toNat + (E - 149 + (p + (E : Int)).toNat) = (p + (E : Int)).toNat + (E - 149) by simp; omega]
        rw [e1, hm, Nat.mul_assoc, ← Nat.pow_add, show (-149 - p).toNat + (E - 149 + (p + (E : Int)).toNat) = E - 149 + (E - 149) by omega]
      · rw [show min p (-149) = -149 by omega, Int.sub_self]
        have e1 : m * 2 ^ ((p - -149).toNat + (E - 149 + (-149 + (E : Int)).toNat)) = m * 2 ^ (p + E).toNat * 2 ^ (E - 149) := by
          rw [Nat.mul_assoc, ← Nat.pow_add, show (p - -149).toNat + (E - 149 + (-149 + (E : Int)).toNat) = (p + (E : Int)).toNat + (E - 149) by omega]
        rw [e1, hm, Nat.mul_assoc, ← Nat.pow_add, show (0 : Int).toNat + (E - 149 + (-149 + (E : Int)).toNat) = E - 149 + (E - 149) by simp; omega]
    show (if (S.read (S.write (.number (sgn S n) m p))).isInfinity then none else some (S.write (.number (sgn S n) m p))) = _
    rw [hwr, read_of_fin_inf h1]; simp
  · have h2 : rung S n = S.infRung := by unfold isNum isFin at *; omega
    rw [wide_inf h2, read_inf (rung_word D_lt) D_le, sgn_word D_lt]
    show some (S.word (sgn S n) S.infRung) = _
    rw [← h2, hself]

/-! ## Whole numbers against doubles -/

/-- less: -1; the same: 0; greater: 1 -/
def cmp3 (a b : Int) : Int := if a < b then -1 else if a = b then 0 else 1

theorem cmp3_neg (a b : Int) : -cmp3 a b = cmp3 b a := by
  unfold cmp3
  by_cases h1 : a < b
  · rw [if_pos h1, if_neg (by omega), if_neg (by omega)]; rfl
  · by_cases h2 : a = b
    · rw [if_neg h1, if_pos h2, if_neg (by omega), if_pos h2.symm]; rfl
    · rw [if_neg h1, if_neg h2, if_pos (by omega)]
theorem cmp3_lt {a b : Int} (h : a < b) : cmp3 a b = -1 := by unfold cmp3; rw [if_pos h]
theorem cmp3_eq {a b : Int} (h : a = b) : cmp3 a b = 0 := by unfold cmp3; rw [if_neg (by omega), if_pos h]
theorem cmp3_gt {a b : Int} (h : b < a) : cmp3 a b = 1 := by unfold cmp3; rw [if_neg (by omega), if_neg (by omega)]
theorem cmp3_mul {a b : Int} : cmp3 (a * U) (b * U) = cmp3 a b := by
  have hU := U_pos
  have hpos : (0 : Int) < U := by omega
  have e1 : (a * (U : Int) < b * U) ↔ a < b := Int.mul_lt_mul_right hpos
  have e2 : (a * (U : Int) = b * U) ↔ a = b := ⟨fun h => Int.eq_of_mul_eq_mul_right (by omega) h, fun h => by rw [h]⟩
  unfold cmp3; simp only [e1, e2]

/-- how the program compares -/
def against (i : Int) (f : Nat) : Int :=
  if dleq two63 f then -1 else if dless f mtwo63 then 1 else
  if cmp3 i (trc (dfloor f)) ≠ 0 ∨ deq f (dfloor f) = true then cmp3 i (trc (dfloor f)) else -1

theorem against_eq {i : Int} {f : Nat} (h : isNum D f) (h1 : -9223372036854775808 ≤ i) (h2 : i ≤ 9223372036854775807) : against i f = cmp3 (i * U) (sv D f) := by
  have hU := U_pos
  have hpos : (0 : Int) < U := by omega
  have c1 : -9223372036854775808 * (U : Int) ≤ i * U := Int.mul_le_mul_of_nonneg_right h1 (by omega)
  have c2 : i * U ≤ 9223372036854775807 * (U : Int) := Int.mul_le_mul_of_nonneg_right h2 (by omega)
  unfold against
  rw [dleq_num two63_fin.num h, dless_num h mtwo63_fin.num, sv_two63, sv_mtwo63]
  by_cases a1 : 9223372036854775808 * (U : Int) ≤ sv D f
  · rw [if_pos (by simpa using a1), cmp3_lt (by generalize (U : Int) = u at *; omega)]
  · rw [if_neg (by simpa using a1)]
    by_cases a2 : sv D f < -9223372036854775808 * (U : Int)
    · rw [if_pos (by simpa using a2), cmp3_gt (by generalize (U : Int) = u at *; omega)]
    · rw [if_neg (by simpa using a2)]
      have hin : inI64 f = true := (inI64_iff h).2 ⟨by omega, by omega⟩
      have hf := inI64_fin hin
      have q1 := flr_le f
      have q2 := lt_flr f
      have hdf := deq_floor hf
      have hdc : deq f (dfloor f) = decide (flr f * U = sv D f) := by
        rw [deq_num hf.num (dfloor_fin hf).1.num, (dfloor_fin hf).2.1]
        by_cases hq : flr f * U = sv D f
        · simp [hq]
        · simp [hq, Ne.symm hq]
      rw [hdc, trc_floor hf]
      by_cases b1 : i < flr f
      · have : (i + 1) * (U : Int) ≤ flr f * U := Int.mul_le_mul_of_nonneg_right (by omega) (by omega)
        rw [Int.add_mul, Int.one_mul] at this
        rw [cmp3_lt b1, if_pos (by simp), cmp3_lt (by omega)]
      · by_cases b2 : flr f < i
        · have : (flr f + 1) * (U : Int) ≤ i * U := Int.mul_le_mul_of_nonneg_right (by omega) (by omega)
          rw [cmp3_gt b2, if_pos (by simp), cmp3_gt (by omega)]
        · have b3 : i = flr f := by omega
          subst b3
          rw [cmp3_eq rfl]
          by_cases b4 : flr f * U = sv D f
          · rw [if_pos (by simp [b4]), cmp3_eq b4]
          · rw [if_neg (by simp [b4]), cmp3_lt (by omega)]

/-- how the reference compares -/
def refAgainst (i : Int) (f : Nat) : Int :=
  if inI64 (dfloor f) then (if trc (dfloor f) < i then 1 else if i < trc (dfloor f) ∨ deq (dfloor f) f = false then -1 else 0)
  else if 9223372036854775808 ≤ f then 1 else -1

theorem refAgainst_eq {i : Int} {f : Nat} (hl : f < 2 ^ 64) (h : isNum D f) (h1 : -9223372036854775808 ≤ i) (h2 : i ≤ 9223372036854775807) : refAgainst i f = cmp3 (i * U) (sv D f) := by
  have hU := U_pos
  have hpos : (0 : Int) < U := by omega
  have c1 : -9223372036854775808 * (U : Int) ≤ i * U := Int.mul_le_mul_of_nonneg_right h1 (by omega)
  have c2 : i * U ≤ 9223372036854775807 * (U : Int) := Int.mul_le_mul_of_nonneg_right h2 (by omega)
  unfold refAgainst
  by_cases hin : inI64 (dfloor f) = true
  · rw [if_pos hin]
    have hf : isFin D f := by
      rcases num_cases h with h3 | h3
      · exact h3
      · rw [dfloor_inf h3 hl] at hin; exact inI64_fin hin
    have q1 := flr_le f
    have q2 := lt_flr f
    rw [deq_floor hf, trc_floor hf]
    by_cases b2 : flr f < i
    · have : (flr f + 1) * (U : Int) ≤ i * U := Int.mul_le_mul_of_nonneg_right (by omega) (by omega)
      rw [if_pos b2, cmp3_gt (by omega)]
    · rw [if_neg b2]
      by_cases b1 : i < flr f
      · have : (i + 1) * (U : Int) ≤ flr f * U := Int.mul_le_mul_of_nonneg_right (by omega) (by omega)
        rw [Int.add_mul, Int.one_mul] at this
        rw [if_pos (.inl b1), cmp3_lt (by omega)]
      · have b3 : i = flr f := by omega
        subst b3
        by_cases b4 : flr f * U = sv D f
        · rw [if_neg (by simp [b4]), cmp3_eq b4]
        · rw [if_pos (by simp [b4]), cmp3_lt (by omega)]
  · rw [if_neg hin]
    have hs := sgn_iff hl
    -- the floor is beyond
    have hbig : 9223372036854775807 * (U : Int) < sv D f ∨ sv D f < -9223372036854775808 * (U : Int) := by
      rcases num_cases h with h3 | h3
      · obtain ⟨f1, f2, f3⟩ := dfloor_fin h3
        rw [inI64_iff f1.num, f2] at hin
        have q1 := flr_le f
        have q2 := lt_flr f
        by_cases b : 9223372036854775808 ≤ flr f
        · left
          have : 9223372036854775808 * (U : Int) ≤ flr f * U := Int.mul_le_mul_of_nonneg_right b (by omega)
          generalize flr f * (U : Int) = z at *
          generalize (U : Int) = u at *
          omega
        · right
          have b2 : flr f < -9223372036854775808 := by
            by_cases b3 : flr f < -9223372036854775808
            · exact b3
            · exfalso; apply hin
              have e1 : -9223372036854775808 * (U : Int) ≤ flr f * U := Int.mul_le_mul_of_nonneg_right (by omega) (by omega)
              have e2 : flr f * U ≤ 9223372036854775807 * (U : Int) := Int.mul_le_mul_of_nonneg_right (by omega) (by omega)
              generalize flr f * (U : Int) = z at *
              generalize (U : Int) = u at *
              omega
          have : (flr f + 1) * (U : Int) ≤ -9223372036854775808 * U := Int.mul_le_mul_of_nonneg_right (by omega) (by omega)
          omega
      · have := sv_inf h3
        generalize (U : Int) = u at *
        omega
    have hsg : (9223372036854775808 ≤ f) ↔ sv D f < 0 := by
      have hv : 0 < (sv D f).natAbs := by generalize (U : Int) = u at *; omega
      rw [natAbs_sv] at hv
      unfold sv; rw [hs]
      by_cases hx : 9223372036854775808 ≤ f
      · simp [hx, sg]; omega
      · simp [hx, sg]
    by_cases hx : 9223372036854775808 ≤ f
    · rw [if_pos hx, cmp3_gt (by have := hsg.1 hx; generalize (U : Int) = u at *; omega)]
    · rw [if_neg hx, cmp3_lt (by have : ¬ sv D f < 0 := fun e => hx (hsg.2 e); generalize (U : Int) = u at *; omega)]
end Fl

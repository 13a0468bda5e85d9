/- What num does to whole numbers: sums, differences, products, quotients rounded down and rests, exact or refused. -/
import Derived.Test.YtieddikacnmhlaaH
namespace Go.Proofs.Ytieddikacnmhlaa
open Go.RowKit

def fits (x : Int) : Prop := -9223372036854775808 ≤ x ∧ x ≤ 9223372036854775807
instance (x : Int) : Decidable (fits x) := inferInstanceAs (Decidable (_ ∧ _))
def exact (x : Int) : Int × Int := if fits x then (x, 0) else (0, 10)
def iAdd (a b : Int) : Int × Int := exact (a + b)
def iSub (a b : Int) : Int × Int := exact (a - b)
def iMul (a b : Int) : Int × Int := exact (a * b)
def iDiv (a b : Int) : Int × Int := if b = 0 then (0, 11) else exact (a.fdiv b)
def iMod (a b : Int) : Int × Int := if b = 0 then (0, 11) else (a.fmod b, 0)

theorem wrap_fits {x : Int} (h : fits x) : wrap64 x = x := by unfold fits at h; unfold wrap64; omega
theorem fits_wrap (x : Int) : fits (wrap64 x) := by unfold fits wrap64; omega

set_option maxHeartbeats 800000 in
theorem addI_calls (a b : Int) (ha : fits a) (hb : fits b) (w : World) : Calls Try.prog 90 #[.int .i64 a, .int .i64 b] w fun e w' => e = .returned (.tuple #[.int .i64 (iAdd a b).1, .int .i64 (iAdd a b).2]) ∧ w = w' := by
  by_cases h : fits (a + b)
  · have e : iAdd a b = (a + b, 0) := by unfold iAdd exact; rw [if_pos h]
    have hw := wrap_fits h
    rw [e]
    by_cases c : 0 < b
    · have t1 : decide (0 < b) = true := decide_eq_true c
      have t2 : decide (a < a + b) = true := decide_eq_true (by omega)
      clear h e ha hb c
      go_enter Try.func90, Try.ntmps90
      go_wp2
      go_ret2
      exact ⟨by simp [hw], rfl⟩
    · have t1 : decide (0 < b) = false := decide_eq_false c
      have t2 : decide (a < a + b) = false := decide_eq_false (by omega)
      clear h e ha hb c
      go_enter Try.func90, Try.ntmps90
      go_wp2
      go_ret2
      exact ⟨by simp [hw], rfl⟩
  · have e : iAdd a b = (0, 10) := by unfold iAdd exact; rw [if_neg h]
    rw [e]
    have hr := fits_wrap (a + b)
    have hwr : wrap64 (a + b) = a + b - 18446744073709551616 ∨ wrap64 (a + b) = a + b + 18446744073709551616 := by unfold wrap64; unfold fits at *; omega
    by_cases c : 0 < b
    · have t1 : decide (0 < b) = true := decide_eq_true c
      have t2 : decide (a < wrap64 (a + b)) = false := decide_eq_false (by unfold fits at *; omega)
      clear h e ha hb c hr hwr
      go_enter Try.func90, Try.ntmps90
      go_wp2
      go_ret2
      exact ⟨rfl, rfl⟩
    · have t1 : decide (0 < b) = false := decide_eq_false c
      have t2 : decide (a < wrap64 (a + b)) = true := decide_eq_true (by unfold fits at *; omega)
      clear h e ha hb c hr hwr
      go_enter Try.func90, Try.ntmps90
      go_wp2
      go_ret2
      exact ⟨rfl, rfl⟩

set_option maxHeartbeats 800000 in
theorem subI_calls (a b : Int) (ha : fits a) (hb : fits b) (w : World) : Calls Try.prog 104 #[.int .i64 a, .int .i64 b] w fun e w' => e = .returned (.tuple #[.int .i64 (iSub a b).1, .int .i64 (iSub a b).2]) ∧ w = w' := by
  by_cases h : fits (a - b)
  · have e : iSub a b = (a - b, 0) := by unfold iSub exact; rw [if_pos h]
    have hw := wrap_fits h
    rw [e]
    by_cases c : 0 < b
    · have t1 : decide (0 < b) = true := decide_eq_true c
      have t2 : decide (a - b < a) = true := decide_eq_true (by omega)
      clear h e ha hb c
      go_enter Try.func104, Try.ntmps104
      go_wp2
      go_ret2
      exact ⟨by simp [hw], rfl⟩
    · have t1 : decide (0 < b) = false := decide_eq_false c
      have t2 : decide (a - b < a) = false := decide_eq_false (by omega)
      clear h e ha hb c
      go_enter Try.func104, Try.ntmps104
      go_wp2
      go_ret2
      exact ⟨by simp [hw], rfl⟩
  · have e : iSub a b = (0, 10) := by unfold iSub exact; rw [if_neg h]
    rw [e]
    have hr := fits_wrap (a - b)
    have hwr : wrap64 (a - b) = a - b - 18446744073709551616 ∨ wrap64 (a - b) = a - b + 18446744073709551616 := by unfold wrap64; unfold fits at *; omega
    by_cases c : 0 < b
    · have t1 : decide (0 < b) = true := decide_eq_true c
      have t2 : decide (wrap64 (a - b) < a) = false := decide_eq_false (by unfold fits at *; omega)
      clear h e ha hb c hr hwr
      go_enter Try.func104, Try.ntmps104
      go_wp2
      go_ret2
      exact ⟨rfl, rfl⟩
    · have t1 : decide (0 < b) = false := decide_eq_false c
      have t2 : decide (wrap64 (a - b) < a) = true := decide_eq_true (by unfold fits at *; omega)
      clear h e ha hb c hr hwr
      go_enter Try.func104, Try.ntmps104
      go_wp2
      go_ret2
      exact ⟨rfl, rfl⟩

/-- where a product does not fit, Go's quotient of it tells so -/
theorem mul_tells {a b : Int} (ha : fits a) (h0 : a ≠ 0) (h : ¬ fits (a * b)) (hs : ¬ (a = -1 ∧ b = -9223372036854775808)) : wrap64 ((wrap64 (a * b)).tdiv a) ≠ b := by
  intro hq
  have hp := fits_wrap (a * b)
  generalize hpe : wrap64 (a * b) = p at *
  obtain ⟨m, hm⟩ : ∃ m : Int, a * b = p + m * 18446744073709551616 := by
    refine ⟨(a * b + 9223372036854775808) / 18446744073709551616, ?_⟩
    rw [← hpe]; unfold wrap64; omega
  by_cases hf : fits (p.tdiv a)
  · rw [wrap_fits hf] at hq
    have h1 := Int.mul_tdiv_add_tmod p a
    rw [hq] at h1
    have h2 : (p.tmod a).natAbs < a.natAbs := by
      rw [Int.natAbs_tmod]; exact Nat.mod_lt _ (by omega)
    have hm0 : m ≠ 0 := by
      rintro rfl; apply h; rw [hm]; rw [Int.zero_mul, Int.add_zero]; exact hp
    unfold fits at *
    omega
  · -- the one quotient that does not fit
    have : a = -1 ∧ p = -9223372036854775808 := by
      have h3 := Int.natAbs_tdiv p a
      by_cases h1 : a = -1
      · refine ⟨h1, ?_⟩
        subst h1
        have : p.tdiv (-1) = -p := by rw [Int.tdiv_neg, Int.tdiv_one]
        rw [this] at hf
        unfold fits at *; omega
      · exfalso; apply hf
        by_cases h2 : a = 1
        · subst h2; rw [Int.tdiv_one]; exact hp
        · have h4 : p.natAbs / a.natAbs ≤ p.natAbs / 2 := Nat.div_le_div_left (by omega) (by omega)
          unfold fits at *
          have h5 : (p.tdiv a).natAbs ≤ p.natAbs / 2 := by rw [h3]; exact h4
          omega
    obtain ⟨rfl, rfl⟩ := this
    apply hs
    refine ⟨rfl, ?_⟩
    rw [show (-9223372036854775808 : Int).tdiv (-1) = 9223372036854775808 by decide] at hq
    rw [← hq]; unfold wrap64; rfl

set_option maxHeartbeats 800000 in
theorem mulI_calls (a b : Int) (ha : fits a) (hb : fits b) (w : World) : Calls Try.prog 91 #[.int .i64 a, .int .i64 b] w fun e w' => e = .returned (.tuple #[.int .i64 (iMul a b).1, .int .i64 (iMul a b).2]) ∧ w = w' := by
  by_cases h0 : a = 0
  · subst h0
    have e : iMul 0 b = (0, 0) := by unfold iMul exact; rw [Int.zero_mul]; decide
    rw [e]
    clear e ha hb
    go_enter Try.func91, Try.ntmps91
    go_wp2
    go_ret2
    exact ⟨rfl, rfl⟩
  · have t0 : (a != 0) = true := by rw [bne_iff_ne]; exact h0
    by_cases h : fits (a * b)
    · have e : iMul a b = (a * b, 0) := by unfold iMul exact; rw [if_pos h]
      rw [e]
      have hw := wrap_fits h
      have hd : (a * b).tdiv a = b := Int.mul_tdiv_cancel_left b h0
      have hwb := wrap_fits hb
      have t1 : (wrap64 ((wrap64 (a * b)).tdiv a) != b) = false := by rw [hw, hd, hwb]; simp
      by_cases c : a = -1
      · have t2 : (b == -9223372036854775808) = false := by
          rw [beq_eq_false_iff_ne]; rintro rfl; subst c; unfold fits at h; omega
        have hw2 : wrap64 (-b) = -b := by rw [c] at hw; rw [← Int.neg_one_mul]; exact hw
        have t3 : (wrap64 (-wrap64 (-b)) != b) = false := by rw [hw2, Int.neg_neg, hwb]; simp
        subst c
        have H2 := Lib.hid hw2
        clear h e ha hb t0 h0 hd hwb t1 hw hw2
        go_enter Try.func91, Try.ntmps91
        go_wp2
        go_ret2
        exact ⟨by simp [H2.out], rfl⟩
      · have t2 : (a == -1) = false := beq_eq_false_iff_ne.2 c
        have H2 := Lib.hid hw
        clear h e ha hb c hd hwb hw
        go_enter Try.func91, Try.ntmps91
        go_wp2
        go_ret2
        exact ⟨by simp [H2.out], rfl⟩
    · have e : iMul a b = (0, 10) := by unfold iMul exact; rw [if_neg h]
      rw [e]
      by_cases hs : a = -1 ∧ b = -9223372036854775808
      · obtain ⟨rfl, rfl⟩ := hs
        have t5 : (wrap64 (-wrap64 9223372036854775808) != -9223372036854775808) = false := by unfold wrap64; rfl
        clear h e ha hb t0 h0
        go_enter Try.func91, Try.ntmps91
        go_wp2
        go_ret2
        exact ⟨rfl, rfl⟩
      · have t1 : (wrap64 ((wrap64 (a * b)).tdiv a) != b) = true := by rw [bne_iff_ne]; exact mul_tells ha h0 h hs
        clear h e ha hb hs
        go_enter Try.func91, Try.ntmps91
        go_wp2
        go_ret2
        exact ⟨rfl, rfl⟩

def lowerB (r b : Int) : Bool := (r != 0) && (decide (r < 0) != decide (b < 0))
set_option maxHeartbeats 800000 in
theorem lower_calls (r b : Int) (w : World) : Calls Try.prog 93 #[.int .i64 r, .int .i64 b] w fun e w' => e = .returned (.bool (lowerB r b)) ∧ w = w' := by
  unfold lowerB
  cases hr : (r != 0) with
  | true =>
    go_enter Try.func93, Try.ntmps93
    go_wp2
    go_ret
    exact ⟨by simp [bne], rfl⟩
  | false =>
    go_enter Try.func93, Try.ntmps93
    go_wp2
    go_ret
    exact ⟨rfl, rfl⟩

theorem fdiv_lower {a b : Int} (hb : b ≠ 0) : a.fdiv b = if lowerB (a.tmod b) b then a.tdiv b - 1 else a.tdiv b := by
  have h1 := Int.mul_tdiv_add_tmod a b
  have h2 : (a.tmod b).natAbs < b.natAbs := by rw [Int.natAbs_tmod]; exact Nat.mod_lt _ (by omega)
  unfold lowerB
  generalize a.tdiv b = q at *
  generalize a.tmod b = r at *
  have key : ∀ c d : Int, b * c + d = a → (0 ≤ d ∧ d < b ∨ b < d ∧ d ≤ 0) → a.fdiv b = c := by
    intro c d hcd hd
    have e1 := Int.mul_fdiv_add_fmod a b
    rcases hd with ⟨d0, d1⟩ | ⟨d0, d1⟩
    · have f0 := Int.fmod_nonneg_of_pos a (show 0 < b by omega)
      have f1 := Int.fmod_lt_of_pos a (show 0 < b by omega)
      generalize a.fmod b = m at *
      generalize a.fdiv b = p at *
      have : b * (p - c) = d - m := by rw [Int.mul_sub]; omega
      have hz : p - c = 0 := by
        by_cases hp : 0 < p - c
        · have := Int.mul_le_mul_of_nonneg_left (show 1 ≤ p - c by omega) (show 0 ≤ b by omega); omega
        · by_cases hn : p - c < 0
          · have := Int.mul_le_mul_of_nonneg_left (show p - c ≤ -1 by omega) (show 0 ≤ b by omega); omega
          · omega
      omega
    · have f0 := Int.fmod_nonneg_of_pos (-a) (show 0 < -b by omega)
      have f1 := Int.fmod_lt_of_pos (-a) (show 0 < -b by omega)
      rw [Int.neg_fmod_neg] at f0 f1
      generalize a.fmod b = m at *
      generalize a.fdiv b = p at *
      have : b * (p - c) = d - m := by rw [Int.mul_sub]; omega
      have hz : p - c = 0 := by
        by_cases hp : 0 < p - c
        · have := Int.mul_le_mul_of_nonpos_left (show b ≤ 0 by omega) (show 1 ≤ p - c by omega); omega
        · by_cases hn : p - c < 0
          · have := Int.mul_le_mul_of_nonpos_left (show b ≤ 0 by omega) (show p - c ≤ -1 by omega); omega
          · omega
      omega
  by_cases hr : r = 0
  · subst hr
    rw [if_neg (by simp)]
    exact key q 0 h1 (by omega)
  · have hr2 : (r != 0) = true := by rw [bne_iff_ne]; exact hr
    rw [hr2, Bool.true_and]
    by_cases s1 : r < 0 <;> by_cases s2 : b < 0
    · rw [decide_eq_true s1, decide_eq_true s2, if_neg (by decide)]
      exact key q r h1 (by omega)
    · rw [decide_eq_true s1, decide_eq_false s2, if_pos (by decide)]
      exact key (q - 1) (r + b) (by rw [Int.mul_sub]; omega) (by omega)
    · rw [decide_eq_false s1, decide_eq_true s2, if_pos (by decide)]
      exact key (q - 1) (r + b) (by rw [Int.mul_sub]; omega) (by omega)
    · rw [decide_eq_false s1, decide_eq_false s2, if_neg (by decide)]
      exact key q r h1 (by omega)
theorem fmod_lower {a b : Int} (hb : b ≠ 0) : a.fmod b = if lowerB (a.tmod b) b then a.tmod b + b else a.tmod b := by
  have h1 := Int.mul_tdiv_add_tmod a b
  have h2 := Int.mul_fdiv_add_fmod a b
  rw [fdiv_lower hb] at h2
  split
  · rename_i h; rw [if_pos h, Int.mul_sub] at h2; omega
  · rename_i h; rw [if_neg h] at h2; omega
end Go.Proofs.Ytieddikacnmhlaa

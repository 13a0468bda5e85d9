/- casketref3's floors and signed, told by Lean's own quotients. -/
import Derived.Test.YtieddikacnmhlaaX
namespace Go.Proofs.Ytieddikacnmhlaa
open Go.RowKit
set_option linter.unusedVariables false

theorem fits_z : fits 0 := by decide
theorem sign_mul (i j : Int) : i * j = if (decide (i < 0) != decide (j < 0)) then -((i.natAbs : Int) * j.natAbs) else (i.natAbs : Int) * j.natAbs := by
  have hi : (i.natAbs : Int) = if i < 0 then -i else i := by split <;> omega
  have hj : (j.natAbs : Int) = if j < 0 then -j else j := by split <;> omega
  rw [hi, hj]
  by_cases h : i < 0 <;> by_cases k : j < 0 <;> simp [h, k, Int.neg_mul, Int.mul_neg]

/-- what signed answers -/
theorem signed_fits (n : Int) (m : Bool) (z : Int) (h0 : 0 ≤ n) (hz : z = if m then -n else n) (hf : fits z) (w : World) : Calls Try.prog 98 #[.int .u64 n, .bool m] w fun e w' => e = .returned (.tuple #[.int .i64 z, .bool true]) ∧ w = w' := by
  subst hz
  cases m
  · simp only [Bool.false_eq_true, if_false] at hf ⊢
    have h := signed_plus n w
    rw [wrap_fits hf, decide_eq_true (by unfold fits at hf; omega)] at h
    exact h
  · simp only [if_true] at hf ⊢
    by_cases c : n = 0
    · subst c; exact signed_zero w
    · exact signed_minus n (by omega) (by unfold fits at hf; omega) w
theorem signed_not (n : Int) (m : Bool) (h0 : 0 ≤ n) (hf : ¬ fits (if m then -n else n)) (w : World) : ∃ z : Int, Calls Try.prog 98 #[.int .u64 n, .bool m] w fun e w' => e = .returned (.tuple #[.int .i64 z, .bool false]) ∧ w = w' := by
  cases m
  · simp only [Bool.false_eq_true, if_false] at hf
    have h := signed_plus n w
    rw [decide_eq_false (by unfold fits at hf; omega)] at h
    exact ⟨_, h⟩
  · simp only [if_true] at hf
    exact ⟨0, signed_over n (decide_eq_true (by unfold fits at hf; omega)) w⟩

theorem floors_calls (a b : Int) (ha : fits a) (hb : fits b) (hb0 : b ≠ 0) (w : World) :
    Calls Try.prog 97 #[.int .i64 a, .int .i64 b] w fun e w' => e = .returned (.tuple #[.int .u64 (a.fdiv b).natAbs, .bool (decide (a < 0) != decide (b < 0)), .int .i64 (a.fmod b)]) ∧ Dr w w' := by
  have hx := size_calls a ha
  have hy := size_calls b hb
  have bx : (a.natAbs : Int) ≤ 9223372036854775808 := by unfold fits at ha; omega
  have by' : (b.natAbs : Int) ≤ 9223372036854775808 := by unfold fits at hb; omega
  have y0 : (1 : Int) ≤ b.natAbs := by omega
  have x0 : (0 : Int) ≤ a.natAbs := by omega
  generalize hX : (a.natAbs : Int) = x at *
  generalize hY : (b.natAbs : Int) = y at *
  have eq : IntKind.u64.wrap (x.tdiv y) = x / y := IntWalk.u64_quo x y ⟨x0, by omega, y0⟩
  have er : x.tmod y = x % y := Int.tmod_eq_emod_of_nonneg x0
  have e0 : x % y + y * (x / y) = x := Int.emod_add_mul_ediv x y
  have r0 : 0 ≤ x % y := Int.emod_nonneg x (by omega)
  have r1 : x % y < y := Int.emod_lt_of_pos x (by omega)
  have q0 : 0 ≤ x / y := Int.ediv_nonneg x0 (by omega)
  have q1 : x / y ≤ x := Int.ediv_le_self y x0
  have t0 : (y == 0) = false := beq_eq_false_iff_ne.2 (by omega)
  by_cases sb : b < 0
  · have eb : b = -y := by omega
    by_cases sa : a < 0
    · have ea : a = -x := by omega
      obtain ⟨u1, u2⟩ := (Int.fdiv_fmod_unique' (a := a) (b := b) (q := x / y) (r := -(x % y)) sb).2 ⟨by rw [eb, ea, Int.neg_mul]; omega, by omega, by omega⟩
      have h := floors_same a b x y (-(x % y)) true true t0 (by omega) w hx hy (decide_eq_true sa) (decide_eq_true sb) (signed_fits _ true _ (by rw [er]; exact r0) (by rw [er]; rfl) (by unfold fits; omega))
      rw [eq] at h
      rw [u1, u2, decide_eq_true sa, decide_eq_true sb, Int.natAbs_of_nonneg q0]
      exact h
    · have ea : a = x := by omega
      by_cases cr : x % y = 0
      · obtain ⟨u1, u2⟩ := (Int.fdiv_fmod_unique' (a := a) (b := b) (q := -(x / y)) (r := 0) sb).2 ⟨by rw [eb, ea, Int.neg_mul_neg]; omega, by omega, by omega⟩
        have h := floors_whole a b x y 0 true true t0 (by omega) (by rw [er, cr]; rfl) w hx hy (decide_eq_false sa) (decide_eq_true sb) (signed_fits _ true _ (by rw [er]; exact r0) (by rw [er, cr]; rfl) fits_z)
        rw [eq] at h
        rw [u1, u2, decide_eq_false sa, decide_eq_true sb, Int.natAbs_neg, Int.natAbs_of_nonneg q0]
        exact h
      · have wr : IntKind.u64.wrap (y - x.tmod y) = y - x % y := by rw [er]; exact IntWalk.u64_in _ (by omega)
        obtain ⟨u1, u2⟩ := (Int.fdiv_fmod_unique' (a := a) (b := b) (q := -(x / y + 1)) (r := -(y - x % y)) sb).2 ⟨by rw [eb, ea, Int.neg_mul_neg, Int.mul_add, Int.mul_one]; omega, by omega, by omega⟩
        have h := floors_rest a b x y (-(y - x % y)) true true t0 (by omega) (by rw [er]; exact bne_iff_ne.2 cr) w hx hy (decide_eq_false sa) (decide_eq_true sb) (by rw [wr]; exact signed_fits _ true _ (by omega) rfl (by unfold fits; omega))
        rw [eq, IntWalk.u64_in _ (by omega)] at h
        rw [u1, u2, decide_eq_false sa, decide_eq_true sb, Int.natAbs_neg, Int.natAbs_of_nonneg (by omega)]
        exact h
  · have eb : b = y := by omega
    have sb' : 0 < b := by omega
    by_cases sa : a < 0
    · have ea : a = -x := by omega
      by_cases cr : x % y = 0
      · obtain ⟨u1, u2⟩ := (Int.fdiv_fmod_unique (a := a) (b := b) (q := -(x / y)) (r := 0) sb').2 ⟨by rw [eb, ea, Int.mul_neg]; omega, by omega, by omega⟩
        have h := floors_whole a b x y 0 false true t0 (by omega) (by rw [er, cr]; rfl) w hx hy (decide_eq_true sa) (decide_eq_false sb) (signed_fits _ false _ (by rw [er]; exact r0) (by rw [er, cr]; rfl) fits_z)
        rw [eq] at h
        rw [u1, u2, decide_eq_true sa, decide_eq_false sb, Int.natAbs_neg, Int.natAbs_of_nonneg q0]
        exact h
      · have wr : IntKind.u64.wrap (y - x.tmod y) = y - x % y := by rw [er]; exact IntWalk.u64_in _ (by omega)
        obtain ⟨u1, u2⟩ := (Int.fdiv_fmod_unique (a := a) (b := b) (q := -(x / y + 1)) (r := y - x % y) sb').2 ⟨by rw [eb, ea, Int.mul_neg, Int.mul_add, Int.mul_one]; omega, by omega, by omega⟩
        have h := floors_rest a b x y (y - x % y) false true t0 (by omega) (by rw [er]; exact bne_iff_ne.2 cr) w hx hy (decide_eq_true sa) (decide_eq_false sb) (by rw [wr]; exact signed_fits _ false _ (by omega) rfl (by unfold fits at hb ⊢; omega))
        rw [eq, IntWalk.u64_in _ (by omega)] at h
        rw [u1, u2, decide_eq_true sa, decide_eq_false sb, Int.natAbs_neg, Int.natAbs_of_nonneg (by omega)]
        exact h
    · have ea : a = x := by omega
      obtain ⟨u1, u2⟩ := (Int.fdiv_fmod_unique (a := a) (b := b) (q := x / y) (r := x % y) sb').2 ⟨by rw [eb, ea]; omega, by omega, by omega⟩
      have h := floors_same a b x y (x % y) false true t0 (by omega) w hx hy (decide_eq_false sa) (decide_eq_false sb) (signed_fits _ false _ (by rw [er]; exact r0) (by rw [er]; rfl) (by unfold fits at hb ⊢; omega))
      rw [eq] at h
      rw [u1, u2, decide_eq_false sa, decide_eq_false sb, Int.natAbs_of_nonneg q0]
      exact h
end Go.Proofs.Ytieddikacnmhlaa

/- The document's Mul of any two numbers answers as num's. -/
import Derived.Test.YtieddikacnmhlaaY
import Derived.Test.YtieddikacnmhlaaXX
import Derived.Test.YtieddikacnmhlaaW
namespace Go.Proofs.Ytieddikacnmhlaa
open Go.RowKit
set_option linter.unusedVariables false

theorem refMulI_calls (i u j v : Int) (hi : fits i) (hj : fits j) (w : World) : Calls Try.prog 77 #[numV true i u, numV true j v] w fun e w' => e = .returned (.tuple #[numV (opN (iMul i j)).b (opN (iMul i j)).x (opN (iMul i j)).y, .int .i64 (opN (iMul i j)).c]) ∧ Below w.heap.size w w' := by
  have hx := size_calls i hi
  have hy := size_calls j hj
  have hs := sign_mul i j
  have bx : (i.natAbs : Int) ≤ 9223372036854775808 := by unfold fits at hi; omega
  have by' : (j.natAbs : Int) ≤ 9223372036854775808 := by unfold fits at hj; omega
  have x0 : (0 : Int) ≤ i.natAbs := by omega
  have y0 : (0 : Int) ≤ j.natAbs := by omega
  generalize (i.natAbs : Int) = x at *
  generalize (j.natAbs : Int) = y at *
  have n0 : 0 ≤ x * y := Int.mul_nonneg x0 y0
  show Calls Try.prog 77 _ w fun e w' => e = .returned (.tuple #[numV (opN (exact (i * j))).b (opN (exact (i * j))).x (opN (exact (i * j))).y, .int .i64 (opN (exact (i * j))).c]) ∧ Below w.heap.size w w'
  have hq : 0 < x → IntKind.u64.wrap (Int.tdiv 18446744073709551615 x) = 18446744073709551615 / x := fun h => IntWalk.u64_quo 18446744073709551615 x ⟨by omega, by omega, by omega⟩
  by_cases big : x * y > 18446744073709551615
  · have hx1 : 0 < x := by
      rcases Int.lt_or_le 0 x with h | h
      · exact h
      · have : x = 0 := by omega
        subst this; rw [Int.zero_mul] at big; omega
    have nf : ¬ fits (i * j) := by rw [hs]; unfold fits; split <;> omega
    rw [op_err nf]
    refine refMul_over i u j v x y hx hy (decide_eq_true hx1) (by omega) ?_ w
    rw [hq hx1]
    exact decide_eq_true ((Int.ediv_lt_iff_lt_mul hx1).2 (by rw [Int.mul_comm]; exact big))
  · have ew : IntKind.u64.wrap (x * y) = x * y := IntWalk.u64_in _ (by omega)
    have t : decide (x > 0) = false ∨ (decide (x > 0) = true ∧ x ≠ 0 ∧ decide (y > IntKind.u64.wrap (Int.tdiv 18446744073709551615 x)) = false) := by
      by_cases h : x > 0
      · refine .inr ⟨decide_eq_true h, by omega, ?_⟩
        rw [hq h]
        refine decide_eq_false (fun hc => big ?_)
        have := (Int.ediv_lt_iff_lt_mul h).1 hc
        rw [Int.mul_comm] at this; exact this
      · exact .inl (decide_eq_false h)
    by_cases f : fits (i * j)
    · rw [op_ok f]
      exact refMul_on i u j v x y _ _ _ rfl rfl hx hy t (fun w => by rw [ew]; exact signed_fits (x * y) _ _ n0 hs f w) w
    · rw [op_err f]
      exact refMul_off i u j v x y _ _ rfl rfl hx hy t (fun w => by rw [ew]; exact signed_not (x * y) _ n0 (by rw [← hs]; exact f) w) w
theorem refMul_num (p q : Bool) (i u j v : Int) (hi : fits i) (hj : fits j) (hu : Rng u) (hv : Rng v) (w : World) :
    Calls Try.prog 77 #[numV p i u, numV q j v] w fun e w' => e = .returned (.tuple #[numV (nMul p q i u j v).b (nMul p q i u j v).x (nMul p q i u j v).y, .int .i64 (nMul p q i u j v).c]) ∧ Below w.heap.size w w' := by
  have ea := like_mul (like_pat p i u hu.1) (like_pat q j v hv.1)
  cases p <;> cases q
  · have h := refMul_dbl_ff i u j v _ _ (refBits_calls false i u hu.1 hu.2) (refBits_calls false j v hv.1 hv.2) w
    rw [ea] at h; exact h
  · have h := refMul_dbl_ft i u j v _ _ (refBits_calls false i u hu.1 hu.2) (refBits_calls true j v hv.1 hv.2) w
    rw [ea] at h; exact h
  · have h := refMul_dbl_tf i u j v _ _ (refBits_calls true i u hu.1 hu.2) (refBits_calls false j v hv.1 hv.2) w
    rw [ea] at h; exact h
  · exact refMulI_calls i u j v hi hj w
end Go.Proofs.Ytieddikacnmhlaa

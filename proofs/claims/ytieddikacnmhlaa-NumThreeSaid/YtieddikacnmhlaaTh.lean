/- What num's comparisons answer, by the exact numbers. -/
import Derived.Test.YtieddikacnmhlaaO
namespace Go.Proofs.Ytieddikacnmhlaa
open Go.RowKit

theorem cmp3_lt_iff (a b : Int) : decide (Fl.cmp3 a b < 0) = decide (a < b) := by
  unfold Fl.cmp3
  by_cases h : a < b
  · rw [if_pos h, decide_eq_true h]; rfl
  · rw [if_neg h, decide_eq_false h]; split <;> rfl
theorem cmp3_le_iff (a b : Int) : decide (Fl.cmp3 a b ≤ 0) = decide (a ≤ b) := by
  unfold Fl.cmp3
  by_cases h : a < b
  · rw [if_pos h, decide_eq_true (show a ≤ b by omega)]; rfl
  · rw [if_neg h]
    by_cases k : a = b
    · rw [if_pos k, decide_eq_true (show a ≤ b by omega)]; rfl
    · rw [if_neg k, decide_eq_false (show ¬ a ≤ b by omega)]; rfl
theorem cmp3_eq_iff (a b : Int) : (Fl.cmp3 a b == 0) = decide (a = b) := by
  unfold Fl.cmp3
  by_cases h : a < b
  · rw [if_pos h, decide_eq_false (show ¬ a = b by omega)]; rfl
  · rw [if_neg h]
    by_cases k : a = b
    · rw [if_pos k, decide_eq_true k]; rfl
    · rw [if_neg k, decide_eq_false k]; rfl
theorem nLess_tell (p : Bool) (i u : Int) (q : Bool) (j v : Int) : nLess p i u q j v = (!(xnan p u || xnan q v) && decide (xval p i u < xval q j v)) := by
  unfold nLess nOrd
  cases h : (xnan p u || xnan q v)
  · rw [if_neg (by simp)]; exact congrArg (true && ·) (cmp3_lt_iff _ _)
  · rw [if_pos rfl]; rfl
theorem nLessEq_tell (p : Bool) (i u : Int) (q : Bool) (j v : Int) : nLessEq p i u q j v = (!(xnan p u || xnan q v) && decide (xval p i u ≤ xval q j v)) := by
  unfold nLessEq nOrd
  cases h : (xnan p u || xnan q v)
  · rw [if_neg (by simp)]; exact congrArg (true && ·) (cmp3_le_iff _ _)
  · rw [if_pos rfl]; rfl
theorem nEqual_tell (p : Bool) (i u : Int) (q : Bool) (j v : Int) : nEqual p i u q j v = (!(xnan p u || xnan q v) && decide (xval p i u = xval q j v)) := by
  unfold nEqual nOrd
  cases h : (xnan p u || xnan q v)
  · rw [if_neg (by simp)]; exact congrArg (true && ·) (cmp3_eq_iff _ _)
  · rw [if_pos rfl]; rfl
end Go.Proofs.Ytieddikacnmhlaa

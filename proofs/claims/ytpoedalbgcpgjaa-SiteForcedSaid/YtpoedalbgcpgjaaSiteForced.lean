/- A form that is forced stays till a guard fails; what is forced changes no count. For every input; no condition. -/
import Derived.Test.YtpoedalbgcpgjaaSF0
import Derived.Test.YtpoedalbgcpgjaaSF1
import Derived.Test.YtpoedalbgcpgjaaSF2
import Derived.Deep.DeepCutAuto
import Derived.Deep.RegionHeld3
namespace Go.Proofs.Ytpoedalbgcpgjaa
open Go.RowKit
set_option linter.unusedVariables false
set_option linter.unusedSimpArgs false
theorem forced_bada (f n p : Int) (f1 : decide (f < 0) = true) (w : World) :
    Calls Try.prog 12 #[.int .i64 f, .int .i64 n, .int .i64 p] w fun e w' => e = .returned (.bool true) ∧ Below w.heap.size w w' := by
  have L := Below.refl w.heap.size w
  go_enter Try.func12, Try.ntmps12
  go_wp2
  go_ret
  exact ⟨rfl, L⟩
theorem forced_badb (f n p : Int) (f1 : decide (f < 0) = false) (f2 : decide (f > 2) = true) (w : World) :
    Calls Try.prog 12 #[.int .i64 f, .int .i64 n, .int .i64 p] w fun e w' => e = .returned (.bool true) ∧ Below w.heap.size w w' := by
  have L := Below.refl w.heap.size w
  go_enter Try.func12, Try.ntmps12
  go_wp2
  go_ret
  exact ⟨rfl, L⟩
theorem forced_badc (f n p : Int) (f1 : decide (f < 0) = false) (f2 : decide (f > 2) = false) (n1 : decide (n < 0) = true) (w : World) :
    Calls Try.prog 12 #[.int .i64 f, .int .i64 n, .int .i64 p] w fun e w' => e = .returned (.bool true) ∧ Below w.heap.size w w' := by
  have L := Below.refl w.heap.size w
  go_enter Try.func12, Try.ntmps12
  go_wp2
  go_ret
  exact ⟨rfl, L⟩
theorem forced_badd (f n p : Int) (f1 : decide (f < 0) = false) (f2 : decide (f > 2) = false) (n1 : decide (n < 0) = false) (n2 : decide (n > 100) = true) (w : World) :
    Calls Try.prog 12 #[.int .i64 f, .int .i64 n, .int .i64 p] w fun e w' => e = .returned (.bool true) ∧ Below w.heap.size w w' := by
  have L := Below.refl w.heap.size w
  go_enter Try.func12, Try.ntmps12
  go_wp2
  go_ret
  exact ⟨rfl, L⟩
theorem siteForced_walk (f n p : Int) (w : World) (_ : (Lit.int .i64 f).wf = true) (_ : (Lit.int .i64 n).wf = true) (_ : (Lit.int .i64 p).wf = true) :
    Calls Try.prog 12 #[.int .i64 f, .int .i64 n, .int .i64 p] w fun e w' => e = .returned (.bool true) ∧ Below w.heap.size w w' := by
  by_cases a1 : f < 0
  · exact forced_bada f n p (decide_eq_true a1) w
  by_cases a2 : f > 2
  · exact forced_badb f n p (decide_eq_false a1) (decide_eq_true a2) w
  by_cases a3 : n < 0
  · exact forced_badc f n p (decide_eq_false a1) (decide_eq_false a2) (decide_eq_true a3) w
  by_cases a4 : n > 100
  · exact forced_badd f n p (decide_eq_false a1) (decide_eq_false a2) (decide_eq_false a3) (decide_eq_true a4) w
  have d1 := decide_eq_false a3
  have d2 := decide_eq_false a4
  have hf : f = 0 ∨ f = 1 ∨ f = 2 := by omega
  rcases hf with rfl | rfl | rfl
  · cases d3 : (p == 0) <;> cases d4 : decide (0 < n)
    · exact forced_zero4 n p d1 d2 d3 d4 w
    · exact forced_zero3 n p d1 d2 d3 d4 w
    · exact forced_zero2 n p d1 d2 d3 d4 w
    · exact forced_zero1 n p d1 d2 d3 d4 w
  · cases d3 : (p == 1)
    · exact forced_1false n p (by omega) (by omega) d1 d2 d3 w
    · exact forced_1true n p (by omega) (by omega) d1 d2 d3 w
  · cases d3 : (p == 2)
    · exact forced_2false n p (by omega) (by omega) d1 d2 d3 w
    · exact forced_2true n p (by omega) (by omega) d1 d2 d3 w
end Go.Proofs.Ytpoedalbgcpgjaa

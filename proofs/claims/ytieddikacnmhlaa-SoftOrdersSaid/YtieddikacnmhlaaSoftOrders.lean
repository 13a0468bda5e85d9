/- Less, LessEq and Equal of soft answer as the document's, of any two patterns. No condition. -/
import Derived.Test.YtieddikacnmhlaaE
namespace Go.Proofs.Ytieddikacnmhlaa
open Go.RowKit

theorem Dr.below {w w' : World} (h : Dr w w') : Below w.heap.size w w' := by
  obtain ⟨n, rfl⟩ := h
  have b := Below.refl w.heap.size w
  exact ⟨b.os, b.tape, b.output, b.size, b.block⟩

set_option maxHeartbeats 1600000 in
theorem softOrders_calls (a b : Int) (w : World) : Calls Try.prog 3 #[.int .u64 a, .int .u64 b] w fun e w' => e = .returned (.bool true) ∧ Dr w w' := by
  go_enter Try.func3, Try.ntmps3
  go_wp2_with (first | (go_at_call 24; refine (softLess_calls _ _ _).mono ?_; rintro e w' ⟨rfl, rfl⟩) | (go_at_call 25; refine (refLess_calls _ _ _).mono ?_; rintro e w' ⟨rfl, rfl⟩) | (go_at_call 26; refine (softLessEq_calls _ _ _).mono ?_; rintro e w' ⟨rfl, rfl⟩) | (go_at_call 27; refine (refLessEq_calls _ _ _).mono ?_; rintro e w' ⟨rfl, rfl⟩) | (go_at_call 28; refine (softEqual_calls _ _ _).mono ?_; rintro e w' ⟨rfl, rfl⟩) | (go_at_call 29; refine (refEqual_calls _ _ _).mono ?_; rintro e w' ⟨rfl, rfl⟩) | (go_at_call 30; refine (awake_calls _).mono ?_; rintro e w' ⟨rfl, n, rfl⟩))
  go_ret
  exact ⟨rfl, ⟨_, rfl⟩⟩
theorem softOrders_walk (a b : Int) (w : World) (_ : (Lit.int .u64 a).wf = true) (_ : (Lit.int .u64 b).wf = true) : Calls Try.prog 3 #[.int .u64 a, .int .u64 b] w fun e w' => e = .returned (.bool true) ∧ Below w.heap.size w w' :=
  (softOrders_calls a b w).mono fun _ _ h => ⟨h.1, h.2.below⟩
end Go.Proofs.Ytieddikacnmhlaa

/- Sums, differences, products, quotients, turned signs and floors of soft are the document's, of any two patterns. No condition. -/
import Derived.Test.YtieddikacnmhlaaF
namespace Go.Proofs.Ytieddikacnmhlaa
open Go.RowKit

set_option maxHeartbeats 1600000 in
theorem softReckons_calls (a b : Int) (h0 : 0 ≤ a) (hx : a < 18446744073709551616) (w : World) : Calls Try.prog 8 #[.int .u64 a, .int .u64 b] w fun e w' => e = .returned (.bool true) ∧ Dr w w' := by
  have c1 := softNeg_calls a h0 hx
  have c2 := refNeg_calls a h0 hx
  have c3 := softFloor_calls a hx
  have c4 := refFloor_calls a hx
  clear h0 hx
  go_enter Try.func8, Try.ntmps8
  go_wp2_with (first | (go_at_call 41; refine (softAdd_calls _ _ _).mono ?_; rintro e w' ⟨rfl, n, rfl⟩) | (go_at_call 45; refine (refAdd_calls _ _ _).mono ?_; rintro e w' ⟨rfl, n, rfl⟩) | (go_at_call 44; refine (softSub_calls _ _ _).mono ?_; rintro e w' ⟨rfl, n, rfl⟩) | (go_at_call 46; refine (refSub_calls _ _ _).mono ?_; rintro e w' ⟨rfl, n, rfl⟩) | (go_at_call 42; refine (softMul_calls _ _ _).mono ?_; rintro e w' ⟨rfl, n, rfl⟩) | (go_at_call 47; refine (refMul_calls _ _ _).mono ?_; rintro e w' ⟨rfl, n, rfl⟩) | (go_at_call 43; refine (softDiv_calls _ _ _).mono ?_; rintro e w' ⟨rfl, n, rfl⟩) | (go_at_call 48; refine (refDiv_calls _ _ _).mono ?_; rintro e w' ⟨rfl, n, rfl⟩) | (go_at_call 30; refine (awake_calls _).mono ?_; rintro e w' ⟨rfl, n, rfl⟩) | (go_at_call 49; refine (c1 _).mono ?_; rintro e w' ⟨rfl, rfl⟩) | (go_at_call 50; refine (c2 _).mono ?_; rintro e w' ⟨rfl, n, rfl⟩) | (go_at_call 40; refine (c3 _).mono ?_; rintro e w' ⟨rfl, n, rfl⟩) | (go_at_call 51; refine (c4 _).mono ?_; rintro e w' ⟨rfl, n, rfl⟩))
  go_ret
  exact ⟨rfl, ⟨_, rfl⟩⟩
theorem softReckons_walk (a b : Int) (w : World) (ha : (Lit.int .u64 a).wf = true) (_ : (Lit.int .u64 b).wf = true) : Calls Try.prog 8 #[.int .u64 a, .int .u64 b] w fun e w' => e = .returned (.bool true) ∧ Below w.heap.size w w' :=
  law_below (softReckons_calls a b (u64_range ha).1 (u64_range ha).2 w)
end Go.Proofs.Ytieddikacnmhlaa

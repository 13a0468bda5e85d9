/- num.done at Add: of two whole numbers, and of numbers one of which is a double. -/
import Derived.Test.YtieddikacnmhlaaL
namespace Go.Proofs.Ytieddikacnmhlaa
open Go.RowKit

set_option maxHeartbeats 1600000 in
theorem doneAdd_ok (i j u v x : Int) (hi : ∀ w, Calls Try.prog 90 #[.int .i64 i, .int .i64 j] w fun e w' => e = .returned (.tuple #[.int .i64 x, .int .i64 0]) ∧ w = w') (w : World) :
    Calls Try.prog 89 #[numV true i u, numV true j v, .func (.func 90) #[] #[], .func (.func 41) #[] #[]] w fun e w' => e = .returned (.tuple #[numV true x 0, .int .i64 0]) ∧ Below w.heap.size w w' := by
  obtain ⟨A, B, C⟩ := boxes3 w true true i u j v
  have L := lay3 w (.cells #[.bool true, .int .i64 i, .int .u64 u] 42) (.cells #[.bool true, .int .i64 j, .int .u64 v] 42) (.cells #[.bool false, .int .i64 0, .int .u64 0] 42)
  go_enter Try.func89, Try.ntmps89
  go_wp2_with (first | (go_at_call 114; refine (both_tt _ _ _ _ _).mono ?_; rintro e w1 ⟨rfl, hb⟩; have A := A.step hb rfl; have B := B.step hb rfl; have C := C.step hb rfl; have L := bnext L hb rfl rfl rfl rfl; obtain ⟨a0, a1, a2, a3, a4, a5⟩ := A.cells; clear a3 a4 a5; obtain ⟨b0, b1, b2, b3, b4, b5⟩ := B.cells; clear b3 b4 b5; obtain ⟨c0, c1, c2, c3, c4, c5⟩ := C.cells; clear hb) | (go_at_call 90; refine (hi _).mono ?_; rintro e w' ⟨rfl, rfl⟩) | (go_at_call 105; refine (numWhole_calls _ _).mono ?_; rintro e w2 ⟨rfl, hb⟩; have C := C.step hb rfl; have L := bnext L hb rfl rfl rfl rfl; obtain ⟨c0, c1, c2, c3, c4, c5⟩ := C.cells; clear hb))
  exact bodyPost_ret (v := .tuple #[numV true x 0, .int .i64 0]) (by simp [results, Try.results89, go_sem, c0, c1, c2]) rfl ⟨rfl, set3 L 2 _ _ _⟩
set_option maxHeartbeats 1600000 in
theorem doneAdd_err' (i j u v x c : Int) (hc : (c != 0) = true) (hi : ∀ w, Calls Try.prog 90 #[.int .i64 i, .int .i64 j] w fun e w' => e = .returned (.tuple #[.int .i64 x, .int .i64 c]) ∧ w = w') (w : World) :
    Calls Try.prog 89 #[numV true i u, numV true j v, .func (.func 90) #[] #[], .func (.func 41) #[] #[]] w fun e w' => e = .returned (.tuple #[numV false 0 0, .int .i64 c]) ∧ Below w.heap.size w w' := by
  obtain ⟨A, B, C⟩ := boxes3 w true true i u j v
  have L := lay3 w (.cells #[.bool true, .int .i64 i, .int .u64 u] 42) (.cells #[.bool true, .int .i64 j, .int .u64 v] 42) (.cells #[.bool false, .int .i64 0, .int .u64 0] 42)
  go_enter Try.func89, Try.ntmps89
  go_wp2_with (first | (go_at_call 114; refine (both_tt _ _ _ _ _).mono ?_; rintro e w1 ⟨rfl, hb⟩; have A := A.step hb rfl; have B := B.step hb rfl; have C := C.step hb rfl; have L := bnext L hb rfl rfl rfl rfl; obtain ⟨a0, a1, a2, a3, a4, a5⟩ := A.cells; clear a3 a4 a5; obtain ⟨b0, b1, b2, b3, b4, b5⟩ := B.cells; clear b3 b4 b5; obtain ⟨c0, c1, c2, c3, c4, c5⟩ := C.cells; clear hb) | (go_at_call 90; refine (hi _).mono ?_; rintro e w' ⟨rfl, rfl⟩))
  exact bodyPost_ret (v := .tuple #[numV false 0 0, .int .i64 c]) (by simp [results, Try.results89, go_sem, c0, c1, c2]) rfl ⟨rfl, set3 L 2 _ _ _⟩

set_option maxHeartbeats 3200000 in
theorem doneAdd_dbl (p q : Bool) (i u j v z : Int) (hpq : (bothI p q == 0) = false) (hd : ∀ w, Calls Try.prog 41 #[.int .u64 (sPat p i u), .int .u64 (sPat q j v)] w fun e w' => e = .returned (.int .u64 z) ∧ Dr w w') (w : World) :
    Calls Try.prog 89 #[numV p i u, numV q j v, .func (.func 90) #[] #[], .func (.func 41) #[] #[]] w fun e w' => e = .returned (.tuple #[numV false 0 z, .int .i64 0]) ∧ Below w.heap.size w w' := by
  obtain ⟨A, B, C⟩ := boxes3 w p q i u j v
  have L := lay3 w (.cells #[.bool p, .int .i64 i, .int .u64 u] 42) (.cells #[.bool q, .int .i64 j, .int .u64 v] 42) (.cells #[.bool false, .int .i64 0, .int .u64 0] 42)
  go_enter Try.func89, Try.ntmps89
  go_wp2_with (go_at_call 114; refine ((both_calls p q i u j v _)).mono ?_; rintro e w1 ⟨rfl, hb⟩; have A := A.step hb rfl; have B := B.step hb rfl; have C := C.step hb rfl; have L := bnext L hb rfl rfl rfl rfl; obtain ⟨a0, a1, a2, a3, a4, a5⟩ := A.cells; clear a3 a4 a5; obtain ⟨b0, b1, b2, b3, b4, b5⟩ := B.cells; clear b3 b4 b5; obtain ⟨c0, c1, c2, c3, c4, c5⟩ := C.cells; clear hb)
  go_region_with (first | (go_at_call 103; refine (numPattern_calls _ _ _ _).mono ?_; rintro e w2 ⟨rfl, hb⟩; have B := B.step hb rfl; have C := C.step hb rfl; have L := bnext L hb rfl rfl rfl rfl; obtain ⟨b0, b1, b2, b3, b4, b5⟩ := B.cells; clear b3 b4 b5; obtain ⟨c0, c1, c2, c3, c4, c5⟩ := C.cells; clear hb) | (go_at_call 41; refine (hd _).mono ?_; rintro e w' ⟨rfl, n, rfl⟩) | (go_at_call 102; refine (numDouble_calls _ _).mono ?_; rintro e w3 ⟨rfl, hb⟩; have C := C.step hb rfl; have L := bnext L hb rfl rfl rfl rfl; obtain ⟨c0, c1, c2, c3, c4, c5⟩ := C.cells; clear hb))
  all_goals
    go_wp2
    exact bodyPost_ret (v := .tuple #[numV false 0 z, .int .i64 0]) (by simp [results, Try.results89, go_sem, c0, c1, c2]) rfl ⟨rfl, set3 L 2 _ _ _⟩
end Go.Proofs.Ytieddikacnmhlaa

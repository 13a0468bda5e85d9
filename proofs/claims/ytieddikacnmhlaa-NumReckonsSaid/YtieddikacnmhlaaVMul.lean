/- The document's Mul of numbers (casketref3): its double side. -/
import Derived.Test.YtieddikacnmhlaaV
namespace Go.Proofs.Ytieddikacnmhlaa
open Go.RowKit
set_option maxHeartbeats 6400000 in
theorem refMul_dbl_ff (i u j v x y : Int) (ha : ∀ w, Calls Try.prog 96 #[numV false i u] w fun e w' => e = .returned (.int .u64 x) ∧ Below w.heap.size w w') (hb96 : ∀ w, Calls Try.prog 96 #[numV false j v] w fun e w' => e = .returned (.int .u64 y) ∧ Below w.heap.size w w') (w : World) :
    Calls Try.prog 77 #[numV false i u, numV false j v] w fun e w' => e = .returned (.tuple #[numV false 0 (sMul x y), .int .i64 0]) ∧ Below w.heap.size w w' := by
  obtain ⟨A, B, C⟩ := boxes3 w false false i u j v
  have L := lay3 w (.cells #[.bool false, .int .i64 i, .int .u64 u] 42) (.cells #[.bool false, .int .i64 j, .int .u64 v] 42) (.cells #[.bool false, .int .i64 0, .int .u64 0] 42)
  obtain ⟨a0, a1, a2, _, _, _⟩ := A.cells
  obtain ⟨b0, b1, b2, _, _, _⟩ := B.cells
  obtain ⟨c0, c1, c2, c3, c4, c5⟩ := C.cells
  go_enter Try.func77, Try.ntmps77
  go_wp2_with fail
  go_region_held3 (fun w' => w'.cell? ⟨w.heap.size, 0, none⟩ = some (.bool false) ∧ w'.cell? ⟨w.heap.size, 1, none⟩ = some (.int .i64 i) ∧ w'.cell? ⟨w.heap.size, 2, none⟩ = some (.int .u64 u) ∧ w'.cell? ⟨w.heap.size + 1, 0, none⟩ = some (.bool false) ∧ w'.cell? ⟨w.heap.size + 1, 1, none⟩ = some (.int .i64 j) ∧ w'.cell? ⟨w.heap.size + 1, 2, none⟩ = some (.int .u64 v)) (first | exact ⟨a0, a1, a2, b0, b1, b2⟩ | exact ⟨a6, a7, a8, b6, b7, b8⟩ | go_keep) (first | (go_at_call 96; (first | (with_reducible refine (ha _).mono ?_) | (with_reducible refine (hb96 _).mono ?_)); rintro e w1 ⟨rfl, hb⟩; have A := A.step hb rfl; have B := B.step hb rfl; have C := C.step hb rfl; have L := bnext L hb rfl rfl rfl rfl; obtain ⟨a0, a1, a2, a3, a4, a5⟩ := A.cells; clear a3 a4 a5; obtain ⟨b0, b1, b2, b3, b4, b5⟩ := B.cells; clear b3 b4 b5; obtain ⟨c0, c1, c2, c3, c4, c5⟩ := C.cells; clear hb) | (go_at_call 47; refine (refMul_calls _ _ _).mono ?_; rintro e w2 ⟨rfl, n, rfl⟩) | (go_at_call 95; refine (refDouble_calls _ _).mono ?_; rintro e w3 ⟨rfl, hb⟩; have A := A.step hb rfl; have B := B.step hb rfl; have C := C.step hb rfl; have L := bnext L hb rfl rfl rfl rfl; obtain ⟨a0, a1, a2, a3, a4, a5⟩ := A.cells; clear a3 a4 a5; obtain ⟨b0, b1, b2, b3, b4, b5⟩ := B.cells; clear b3 b4 b5; obtain ⟨c0, c1, c2, c3, c4, c5⟩ := C.cells; clear hb; have A' := A.putOther (k := w.heap.size + 1 + 1) (by omega) (.bool false) (.int .i64 0) (.int .u64 (sMul x y)); have B' := B.putOther (k := w.heap.size + 1 + 1) (by omega) (.bool false) (.int .i64 0) (.int .u64 (sMul x y)); obtain ⟨a6, a7, a8, _, _, _⟩ := A'.cells; obtain ⟨b6, b7, b8, _, _, _⟩ := B'.cells))
  all_goals
    go_wp2
    exact bodyPost_ret (v := .tuple #[numV false 0 (sMul x y), .int .i64 0]) (by simp [results, Try.results77, go_sem, c0, c1, c2]) rfl ⟨rfl, set3 L 2 _ _ _⟩
set_option maxHeartbeats 6400000 in
theorem refMul_dbl_ft (i u j v x y : Int) (ha : ∀ w, Calls Try.prog 96 #[numV false i u] w fun e w' => e = .returned (.int .u64 x) ∧ Below w.heap.size w w') (hb96 : ∀ w, Calls Try.prog 96 #[numV true j v] w fun e w' => e = .returned (.int .u64 y) ∧ Below w.heap.size w w') (w : World) :
    Calls Try.prog 77 #[numV false i u, numV true j v] w fun e w' => e = .returned (.tuple #[numV false 0 (sMul x y), .int .i64 0]) ∧ Below w.heap.size w w' := by
  obtain ⟨A, B, C⟩ := boxes3 w false true i u j v
  have L := lay3 w (.cells #[.bool false, .int .i64 i, .int .u64 u] 42) (.cells #[.bool true, .int .i64 j, .int .u64 v] 42) (.cells #[.bool false, .int .i64 0, .int .u64 0] 42)
  obtain ⟨a0, a1, a2, _, _, _⟩ := A.cells
  obtain ⟨b0, b1, b2, _, _, _⟩ := B.cells
  obtain ⟨c0, c1, c2, c3, c4, c5⟩ := C.cells
  go_enter Try.func77, Try.ntmps77
  go_wp2_with fail
  go_region_held3 (fun w' => w'.cell? ⟨w.heap.size, 0, none⟩ = some (.bool false) ∧ w'.cell? ⟨w.heap.size, 1, none⟩ = some (.int .i64 i) ∧ w'.cell? ⟨w.heap.size, 2, none⟩ = some (.int .u64 u) ∧ w'.cell? ⟨w.heap.size + 1, 0, none⟩ = some (.bool true) ∧ w'.cell? ⟨w.heap.size + 1, 1, none⟩ = some (.int .i64 j) ∧ w'.cell? ⟨w.heap.size + 1, 2, none⟩ = some (.int .u64 v)) (first | exact ⟨a0, a1, a2, b0, b1, b2⟩ | exact ⟨a6, a7, a8, b6, b7, b8⟩ | go_keep) (first | (go_at_call 96; (first | (with_reducible refine (ha _).mono ?_) | (with_reducible refine (hb96 _).mono ?_)); rintro e w1 ⟨rfl, hb⟩; have A := A.step hb rfl; have B := B.step hb rfl; have C := C.step hb rfl; have L := bnext L hb rfl rfl rfl rfl; obtain ⟨a0, a1, a2, a3, a4, a5⟩ := A.cells; clear a3 a4 a5; obtain ⟨b0, b1, b2, b3, b4, b5⟩ := B.cells; clear b3 b4 b5; obtain ⟨c0, c1, c2, c3, c4, c5⟩ := C.cells; clear hb) | (go_at_call 47; refine (refMul_calls _ _ _).mono ?_; rintro e w2 ⟨rfl, n, rfl⟩) | (go_at_call 95; refine (refDouble_calls _ _).mono ?_; rintro e w3 ⟨rfl, hb⟩; have A := A.step hb rfl; have B := B.step hb rfl; have C := C.step hb rfl; have L := bnext L hb rfl rfl rfl rfl; obtain ⟨a0, a1, a2, a3, a4, a5⟩ := A.cells; clear a3 a4 a5; obtain ⟨b0, b1, b2, b3, b4, b5⟩ := B.cells; clear b3 b4 b5; obtain ⟨c0, c1, c2, c3, c4, c5⟩ := C.cells; clear hb; have A' := A.putOther (k := w.heap.size + 1 + 1) (by omega) (.bool false) (.int .i64 0) (.int .u64 (sMul x y)); have B' := B.putOther (k := w.heap.size + 1 + 1) (by omega) (.bool false) (.int .i64 0) (.int .u64 (sMul x y)); obtain ⟨a6, a7, a8, _, _, _⟩ := A'.cells; obtain ⟨b6, b7, b8, _, _, _⟩ := B'.cells))
  all_goals
    go_wp2
    exact bodyPost_ret (v := .tuple #[numV false 0 (sMul x y), .int .i64 0]) (by simp [results, Try.results77, go_sem, c0, c1, c2]) rfl ⟨rfl, set3 L 2 _ _ _⟩
set_option maxHeartbeats 6400000 in
theorem refMul_dbl_tf (i u j v x y : Int) (ha : ∀ w, Calls Try.prog 96 #[numV true i u] w fun e w' => e = .returned (.int .u64 x) ∧ Below w.heap.size w w') (hb96 : ∀ w, Calls Try.prog 96 #[numV false j v] w fun e w' => e = .returned (.int .u64 y) ∧ Below w.heap.size w w') (w : World) :
    Calls Try.prog 77 #[numV true i u, numV false j v] w fun e w' => e = .returned (.tuple #[numV false 0 (sMul x y), .int .i64 0]) ∧ Below w.heap.size w w' := by
  obtain ⟨A, B, C⟩ := boxes3 w true false i u j v
  have L := lay3 w (.cells #[.bool true, .int .i64 i, .int .u64 u] 42) (.cells #[.bool false, .int .i64 j, .int .u64 v] 42) (.cells #[.bool false, .int .i64 0, .int .u64 0] 42)
  obtain ⟨a0, a1, a2, _, _, _⟩ := A.cells
  obtain ⟨b0, b1, b2, _, _, _⟩ := B.cells
  obtain ⟨c0, c1, c2, c3, c4, c5⟩ := C.cells
  go_enter Try.func77, Try.ntmps77
  go_wp2_with fail
  go_region_held3 (fun w' => w'.cell? ⟨w.heap.size, 0, none⟩ = some (.bool true) ∧ w'.cell? ⟨w.heap.size, 1, none⟩ = some (.int .i64 i) ∧ w'.cell? ⟨w.heap.size, 2, none⟩ = some (.int .u64 u) ∧ w'.cell? ⟨w.heap.size + 1, 0, none⟩ = some (.bool false) ∧ w'.cell? ⟨w.heap.size + 1, 1, none⟩ = some (.int .i64 j) ∧ w'.cell? ⟨w.heap.size + 1, 2, none⟩ = some (.int .u64 v)) (first | exact ⟨a0, a1, a2, b0, b1, b2⟩ | exact ⟨a6, a7, a8, b6, b7, b8⟩ | go_keep) (first | (go_at_call 96; (first | (with_reducible refine (ha _).mono ?_) | (with_reducible refine (hb96 _).mono ?_)); rintro e w1 ⟨rfl, hb⟩; have A := A.step hb rfl; have B := B.step hb rfl; have C := C.step hb rfl; have L := bnext L hb rfl rfl rfl rfl; obtain ⟨a0, a1, a2, a3, a4, a5⟩ := A.cells; clear a3 a4 a5; obtain ⟨b0, b1, b2, b3, b4, b5⟩ := B.cells; clear b3 b4 b5; obtain ⟨c0, c1, c2, c3, c4, c5⟩ := C.cells; clear hb) | (go_at_call 47; refine (refMul_calls _ _ _).mono ?_; rintro e w2 ⟨rfl, n, rfl⟩) | (go_at_call 95; refine (refDouble_calls _ _).mono ?_; rintro e w3 ⟨rfl, hb⟩; have A := A.step hb rfl; have B := B.step hb rfl; have C := C.step hb rfl; have L := bnext L hb rfl rfl rfl rfl; obtain ⟨a0, a1, a2, a3, a4, a5⟩ := A.cells; clear a3 a4 a5; obtain ⟨b0, b1, b2, b3, b4, b5⟩ := B.cells; clear b3 b4 b5; obtain ⟨c0, c1, c2, c3, c4, c5⟩ := C.cells; clear hb; have A' := A.putOther (k := w.heap.size + 1 + 1) (by omega) (.bool false) (.int .i64 0) (.int .u64 (sMul x y)); have B' := B.putOther (k := w.heap.size + 1 + 1) (by omega) (.bool false) (.int .i64 0) (.int .u64 (sMul x y)); obtain ⟨a6, a7, a8, _, _, _⟩ := A'.cells; obtain ⟨b6, b7, b8, _, _, _⟩ := B'.cells))
  all_goals
    go_wp2
    exact bodyPost_ret (v := .tuple #[numV false 0 (sMul x y), .int .i64 0]) (by simp [results, Try.results77, go_sem, c0, c1, c2]) rfl ⟨rfl, set3 L 2 _ _ _⟩
end Go.Proofs.Ytieddikacnmhlaa

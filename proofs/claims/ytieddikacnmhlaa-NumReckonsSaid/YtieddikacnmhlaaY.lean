/- The document's Mul of two whole numbers. -/
import Derived.Test.YtieddikacnmhlaaVMul
import Derived.Test.YtieddikacnmhlaaX
import Derived.Deep.RegionHeld3
namespace Go.Proofs.Ytieddikacnmhlaa
open Go.RowKit
set_option linter.unusedVariables false

set_option maxRecDepth 100000 in
set_option maxHeartbeats 6400000 in
theorem refMul_over (i u j v x y : Int) (hx : ∀ w, Calls Try.prog 106 #[.int .i64 i] w fun e w' => e = .returned (.int .u64 x) ∧ w = w')
    (hy : ∀ w, Calls Try.prog 106 #[.int .i64 j] w fun e w' => e = .returned (.int .u64 y) ∧ w = w')
    (t1 : decide (x > 0) = true) (hx0 : x ≠ 0) (t2 : decide (y > IntKind.u64.wrap (Int.tdiv 18446744073709551615 x)) = true) (w : World) :
    Calls Try.prog 77 #[numV true i u, numV true j v] w fun e w' => e = .returned (.tuple #[numV false 0 0, .int .i64 10]) ∧ Below w.heap.size w w' := by
  obtain ⟨A, B, C⟩ := boxes3 w true true i u j v
  have L := lay3 w (.cells #[.bool true, .int .i64 i, .int .u64 u] 42) (.cells #[.bool true, .int .i64 j, .int .u64 v] 42) (.cells #[.bool false, .int .i64 0, .int .u64 0] 42)
  obtain ⟨a0, a1, a2, _, _, _⟩ := A.cells
  obtain ⟨b0, b1, b2, _, _, _⟩ := B.cells
  obtain ⟨c0, c1, c2, c3, c4, c5⟩ := C.cells
  go_enter Try.func77, Try.ntmps77
  go_wp2_with fail
  go_region_held3 (fun w' => w'.cell? ⟨w.heap.size, 0, none⟩ = some (.bool true) ∧ w'.cell? ⟨w.heap.size, 1, none⟩ = some (.int .i64 i) ∧ w'.cell? ⟨w.heap.size, 2, none⟩ = some (.int .u64 u) ∧ w'.cell? ⟨w.heap.size + 1, 0, none⟩ = some (.bool true) ∧ w'.cell? ⟨w.heap.size + 1, 1, none⟩ = some (.int .i64 j) ∧ w'.cell? ⟨w.heap.size + 1, 2, none⟩ = some (.int .u64 v)) (first | exact ⟨a0, a1, a2, b0, b1, b2⟩ | exact ⟨a6, a7, a8, b6, b7, b8⟩ | go_keep) (first | (go_at_call 106; (first | (with_reducible refine (hx _).mono ?_) | (with_reducible refine (hy _).mono ?_)); rintro e w' ⟨rfl, rfl⟩))
  all_goals
    go_wp2
    exact bodyPost_ret (v := .tuple #[numV false 0 0, .int .i64 10]) (by simp [results, Try.results77, go_sem]) rfl ⟨rfl, by first | exact L | exact bdraw L 1 | exact set3 L 2 _ _ _ | exact set3 (bdraw L 1) 2 _ _ _⟩
set_option maxRecDepth 100000 in
set_option maxHeartbeats 6400000 in
theorem refMul_off (i u j v x y : Int) (da db : Bool) (e1 : decide (i < 0) = da) (e2 : decide (j < 0) = db) (hx : ∀ w, Calls Try.prog 106 #[.int .i64 i] w fun e w' => e = .returned (.int .u64 x) ∧ w = w')
    (hy : ∀ w, Calls Try.prog 106 #[.int .i64 j] w fun e w' => e = .returned (.int .u64 y) ∧ w = w')
    (t : decide (x > 0) = false ∨ (decide (x > 0) = true ∧ x ≠ 0 ∧ decide (y > IntKind.u64.wrap (Int.tdiv 18446744073709551615 x)) = false))
    (h98 : ∀ w, ∃ z : Int, Calls Try.prog 98 #[.int .u64 (IntKind.u64.wrap (x * y)), .bool (da != db)] w fun e w' => e = .returned (.tuple #[.int .i64 z, .bool false]) ∧ w = w') (w : World) :
    Calls Try.prog 77 #[numV true i u, numV true j v] w fun e w' => e = .returned (.tuple #[numV false 0 0, .int .i64 10]) ∧ Below w.heap.size w w' := by
  obtain ⟨A, B, C⟩ := boxes3 w true true i u j v
  have L := lay3 w (.cells #[.bool true, .int .i64 i, .int .u64 u] 42) (.cells #[.bool true, .int .i64 j, .int .u64 v] 42) (.cells #[.bool false, .int .i64 0, .int .u64 0] 42)
  obtain ⟨a0, a1, a2, _, _, _⟩ := A.cells
  obtain ⟨b0, b1, b2, _, _, _⟩ := B.cells
  obtain ⟨c0, c1, c2, c3, c4, c5⟩ := C.cells
  rcases t with t1 | ⟨t1, hx0, t2⟩ <;> cases da <;> cases db
  all_goals
    go_enter Try.func77, Try.ntmps77
    go_wp2_with fail
    go_region_held3 (fun w' => w'.cell? ⟨w.heap.size, 0, none⟩ = some (.bool true) ∧ w'.cell? ⟨w.heap.size, 1, none⟩ = some (.int .i64 i) ∧ w'.cell? ⟨w.heap.size, 2, none⟩ = some (.int .u64 u) ∧ w'.cell? ⟨w.heap.size + 1, 0, none⟩ = some (.bool true) ∧ w'.cell? ⟨w.heap.size + 1, 1, none⟩ = some (.int .i64 j) ∧ w'.cell? ⟨w.heap.size + 1, 2, none⟩ = some (.int .u64 v)) (first | exact ⟨a0, a1, a2, b0, b1, b2⟩ | exact ⟨a6, a7, a8, b6, b7, b8⟩ | go_keep) (first | (go_at_call 106; (first | (with_reducible refine (hx _).mono ?_) | (with_reducible refine (hy _).mono ?_)); rintro e w' ⟨rfl, rfl⟩))
    all_goals
      go_wp2_with (go_at_call 98; obtain ⟨z, hz⟩ := h98 _; refine hz.mono ?_; rintro e w' ⟨rfl, rfl⟩)
      exact bodyPost_ret (v := .tuple #[numV false 0 0, .int .i64 10]) (by simp [results, Try.results77, go_sem]) rfl ⟨rfl, by first | exact L | exact bdraw L 1 | exact set3 L 2 _ _ _ | exact set3 (bdraw L 1) 2 _ _ _⟩
set_option maxRecDepth 100000 in
set_option maxHeartbeats 6400000 in
theorem refMul_on (i u j v x y z : Int) (da db : Bool) (e1 : decide (i < 0) = da) (e2 : decide (j < 0) = db) (hx : ∀ w, Calls Try.prog 106 #[.int .i64 i] w fun e w' => e = .returned (.int .u64 x) ∧ w = w')
    (hy : ∀ w, Calls Try.prog 106 #[.int .i64 j] w fun e w' => e = .returned (.int .u64 y) ∧ w = w')
    (t : decide (x > 0) = false ∨ (decide (x > 0) = true ∧ x ≠ 0 ∧ decide (y > IntKind.u64.wrap (Int.tdiv 18446744073709551615 x)) = false))
    (h98 : ∀ w, Calls Try.prog 98 #[.int .u64 (IntKind.u64.wrap (x * y)), .bool (da != db)] w fun e w' => e = .returned (.tuple #[.int .i64 z, .bool true]) ∧ w = w') (w : World) :
    Calls Try.prog 77 #[numV true i u, numV true j v] w fun e w' => e = .returned (.tuple #[numV true z 0, .int .i64 0]) ∧ Below w.heap.size w w' := by
  obtain ⟨A, B, C⟩ := boxes3 w true true i u j v
  have L := lay3 w (.cells #[.bool true, .int .i64 i, .int .u64 u] 42) (.cells #[.bool true, .int .i64 j, .int .u64 v] 42) (.cells #[.bool false, .int .i64 0, .int .u64 0] 42)
  obtain ⟨a0, a1, a2, _, _, _⟩ := A.cells
  obtain ⟨b0, b1, b2, _, _, _⟩ := B.cells
  obtain ⟨c0, c1, c2, c3, c4, c5⟩ := C.cells
  rcases t with t1 | ⟨t1, hx0, t2⟩ <;> cases da <;> cases db
  all_goals
    go_enter Try.func77, Try.ntmps77
    go_wp2_with fail
    go_region_held3 (fun w' => w'.cell? ⟨w.heap.size, 0, none⟩ = some (.bool true) ∧ w'.cell? ⟨w.heap.size, 1, none⟩ = some (.int .i64 i) ∧ w'.cell? ⟨w.heap.size, 2, none⟩ = some (.int .u64 u) ∧ w'.cell? ⟨w.heap.size + 1, 0, none⟩ = some (.bool true) ∧ w'.cell? ⟨w.heap.size + 1, 1, none⟩ = some (.int .i64 j) ∧ w'.cell? ⟨w.heap.size + 1, 2, none⟩ = some (.int .u64 v)) (first | exact ⟨a0, a1, a2, b0, b1, b2⟩ | exact ⟨a6, a7, a8, b6, b7, b8⟩ | go_keep) (first | (go_at_call 106; (first | (with_reducible refine (hx _).mono ?_) | (with_reducible refine (hy _).mono ?_)); rintro e w' ⟨rfl, rfl⟩))
    all_goals
      go_wp2_with (first | (go_at_call 98; refine (h98 _).mono ?_; rintro e w' ⟨rfl, rfl⟩) | (go_at_call 99; refine (refWhole_calls _ _).mono ?_; rintro e w3 ⟨rfl, hb⟩; have C := C.step hb rfl; have L := bnext L hb rfl rfl rfl rfl; obtain ⟨c0, c1, c2, c3, c4, c5⟩ := C.cells; clear hb))
      exact bodyPost_ret (v := .tuple #[numV true z 0, .int .i64 0]) (by simp [results, Try.results77, go_sem, c0, c1, c2]) rfl ⟨rfl, set3 L 2 _ _ _⟩
end Go.Proofs.Ytieddikacnmhlaa

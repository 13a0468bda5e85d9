/- The document's FloorDiv and Mod of any two numbers answer as num's. -/
import Derived.Test.YtieddikacnmhlaaVFloorDiv
import Derived.Test.YtieddikacnmhlaaXX
import Derived.Test.YtieddikacnmhlaaW
namespace Go.Proofs.Ytieddikacnmhlaa
open Go.RowKit
set_option linter.unusedVariables false


set_option maxHeartbeats 3200000 in
theorem refFloorDiv_zero (i u j v : Int) (h0 : (j == 0) = true) (w : World) : Calls Try.prog 68 #[numV true i u, numV true j v] w fun e w' => e = .returned (.tuple #[numV false 0 0, .int .i64 11]) ∧ Below w.heap.size w w' := by
  obtain ⟨A, B, C⟩ := boxes3 w true true i u j v
  have L := lay3 w (.cells #[.bool true, .int .i64 i, .int .u64 u] 42) (.cells #[.bool true, .int .i64 j, .int .u64 v] 42) (.cells #[.bool false, .int .i64 0, .int .u64 0] 42)
  obtain ⟨a0, a1, a2, _, _, _⟩ := A.cells
  obtain ⟨b0, b1, b2, _, _, _⟩ := B.cells
  obtain ⟨c0, c1, c2, c3, c4, c5⟩ := C.cells
  go_enter Try.func68, Try.ntmps68
  go_wp2
  exact bodyPost_ret (v := .tuple #[numV false 0 0, .int .i64 11]) (by simp [results, Try.results68, go_sem]) rfl ⟨rfl, by first | exact L | exact bdraw L _ | exact set3 L 2 _ _ _ | exact set3 (bdraw L _) 2 _ _ _⟩

set_option maxHeartbeats 3200000 in
theorem refMod_zero (i u j v : Int) (h0 : (j == 0) = true) (w : World) : Calls Try.prog 70 #[numV true i u, numV true j v] w fun e w' => e = .returned (.tuple #[numV false 0 0, .int .i64 11]) ∧ Below w.heap.size w w' := by
  obtain ⟨A, B, C⟩ := boxes3 w true true i u j v
  have L := lay3 w (.cells #[.bool true, .int .i64 i, .int .u64 u] 42) (.cells #[.bool true, .int .i64 j, .int .u64 v] 42) (.cells #[.bool false, .int .i64 0, .int .u64 0] 42)
  obtain ⟨a0, a1, a2, _, _, _⟩ := A.cells
  obtain ⟨b0, b1, b2, _, _, _⟩ := B.cells
  obtain ⟨c0, c1, c2, c3, c4, c5⟩ := C.cells
  go_enter Try.func70, Try.ntmps70
  go_wp2
  exact bodyPost_ret (v := .tuple #[numV false 0 0, .int .i64 11]) (by simp [results, Try.results70, go_sem]) rfl ⟨rfl, by first | exact L | exact bdraw L _ | exact set3 L 2 _ _ _ | exact set3 (bdraw L _) 2 _ _ _⟩

set_option maxRecDepth 100000 in
set_option maxHeartbeats 3200000 in
theorem refFloorDiv_off' (i u j v x r : Int) (m : Bool) (h0 : (j == 0) = false) (h97 : ∀ w, Calls Try.prog 97 #[.int .i64 i, .int .i64 j] w fun e w' => e = .returned (.tuple #[.int .u64 x, .bool m, .int .i64 r]) ∧ Dr w w') (h98 : ∀ w, ∃ z : Int, Calls Try.prog 98 #[.int .u64 x, .bool m] w fun e w' => e = .returned (.tuple #[.int .i64 z, .bool false]) ∧ w = w') (w : World) : Calls Try.prog 68 #[numV true i u, numV true j v] w fun e w' => e = .returned (.tuple #[numV false 0 0, .int .i64 10]) ∧ Below w.heap.size w w' := by
  obtain ⟨A, B, C⟩ := boxes3 w true true i u j v
  have L := lay3 w (.cells #[.bool true, .int .i64 i, .int .u64 u] 42) (.cells #[.bool true, .int .i64 j, .int .u64 v] 42) (.cells #[.bool false, .int .i64 0, .int .u64 0] 42)
  obtain ⟨a0, a1, a2, _, _, _⟩ := A.cells
  obtain ⟨b0, b1, b2, _, _, _⟩ := B.cells
  obtain ⟨c0, c1, c2, c3, c4, c5⟩ := C.cells
  go_enter Try.func68, Try.ntmps68
  go_wp2_with (first | (go_at_call 97; refine (h97 _).mono ?_; rintro e w' ⟨rfl, n, rfl⟩) | (go_at_call 98; obtain ⟨z, hz⟩ := h98 _; refine hz.mono ?_; rintro e w' ⟨rfl, rfl⟩))
  exact bodyPost_ret (v := .tuple #[numV false 0 0, .int .i64 10]) (by simp [results, Try.results68, go_sem]) rfl ⟨rfl, by first | exact L | exact bdraw L _ | exact set3 L 2 _ _ _ | exact set3 (bdraw L _) 2 _ _ _⟩
set_option maxRecDepth 100000 in
set_option maxHeartbeats 3200000 in
theorem refFloorDiv_on (i u j v x z r : Int) (m : Bool) (h0 : (j == 0) = false) (h97 : ∀ w, Calls Try.prog 97 #[.int .i64 i, .int .i64 j] w fun e w' => e = .returned (.tuple #[.int .u64 x, .bool m, .int .i64 r]) ∧ Dr w w') (h98 : ∀ w, Calls Try.prog 98 #[.int .u64 x, .bool m] w fun e w' => e = .returned (.tuple #[.int .i64 z, .bool true]) ∧ w = w') (w : World) : Calls Try.prog 68 #[numV true i u, numV true j v] w fun e w' => e = .returned (.tuple #[numV true z 0, .int .i64 0]) ∧ Below w.heap.size w w' := by
  obtain ⟨A, B, C⟩ := boxes3 w true true i u j v
  have L := lay3 w (.cells #[.bool true, .int .i64 i, .int .u64 u] 42) (.cells #[.bool true, .int .i64 j, .int .u64 v] 42) (.cells #[.bool false, .int .i64 0, .int .u64 0] 42)
  obtain ⟨a0, a1, a2, _, _, _⟩ := A.cells
  obtain ⟨b0, b1, b2, _, _, _⟩ := B.cells
  obtain ⟨c0, c1, c2, c3, c4, c5⟩ := C.cells
  go_enter Try.func68, Try.ntmps68
  go_wp2_with (first | (go_at_call 97; refine (h97 _).mono ?_; rintro e w' ⟨rfl, n, rfl⟩) | (go_at_call 98; refine (h98 _).mono ?_; rintro e w' ⟨rfl, rfl⟩) | (go_at_call 99; refine (refWhole_calls _ _).mono ?_; rintro e w3 ⟨rfl, hb⟩; have C := C.step hb rfl; have L := bnext L hb rfl rfl rfl rfl; obtain ⟨c0, c1, c2, c3, c4, c5⟩ := C.cells; clear hb))
  exact bodyPost_ret (v := .tuple #[numV true z 0, .int .i64 0]) (by simp [results, Try.results68, go_sem, c0, c1, c2]) rfl ⟨rfl, by first | exact L | exact bdraw L _ | exact set3 L 2 _ _ _ | exact set3 (bdraw L _) 2 _ _ _⟩
set_option maxRecDepth 100000 in
set_option maxHeartbeats 3200000 in
theorem refMod_on (i u j v x r : Int) (m : Bool) (h0 : (j == 0) = false) (h97 : ∀ w, Calls Try.prog 97 #[.int .i64 i, .int .i64 j] w fun e w' => e = .returned (.tuple #[.int .u64 x, .bool m, .int .i64 r]) ∧ Dr w w') (w : World) : Calls Try.prog 70 #[numV true i u, numV true j v] w fun e w' => e = .returned (.tuple #[numV true r 0, .int .i64 0]) ∧ Below w.heap.size w w' := by
  obtain ⟨A, B, C⟩ := boxes3 w true true i u j v
  have L := lay3 w (.cells #[.bool true, .int .i64 i, .int .u64 u] 42) (.cells #[.bool true, .int .i64 j, .int .u64 v] 42) (.cells #[.bool false, .int .i64 0, .int .u64 0] 42)
  obtain ⟨a0, a1, a2, _, _, _⟩ := A.cells
  obtain ⟨b0, b1, b2, _, _, _⟩ := B.cells
  obtain ⟨c0, c1, c2, c3, c4, c5⟩ := C.cells
  go_enter Try.func70, Try.ntmps70
  go_wp2_with (first | (go_at_call 97; refine (h97 _).mono ?_; rintro e w' ⟨rfl, n, rfl⟩) | (go_at_call 99; refine (refWhole_calls _ _).mono ?_; rintro e w3 ⟨rfl, hb⟩; have C := C.step hb rfl; have L := bnext L hb rfl rfl rfl rfl; obtain ⟨c0, c1, c2, c3, c4, c5⟩ := C.cells; clear hb))
  exact bodyPost_ret (v := .tuple #[numV true r 0, .int .i64 0]) (by simp [results, Try.results70, go_sem, c0, c1, c2]) rfl ⟨rfl, by first | exact L | exact bdraw L _ | exact set3 L 2 _ _ _ | exact set3 (bdraw L _) 2 _ _ _⟩

set_option maxRecDepth 100000 in
set_option maxHeartbeats 6400000 in
theorem refMod_dbl_ff (i u j v x y : Int) (ha : ∀ w, Calls Try.prog 96 #[numV false i u] w fun e w' => e = .returned (.int .u64 x) ∧ Below w.heap.size w w') (hb96 : ∀ w, Calls Try.prog 96 #[numV false j v] w fun e w' => e = .returned (.int .u64 y) ∧ Below w.heap.size w w') (h51 : ∀ w, Calls Try.prog 51 #[.int .u64 (sDiv x y)] w fun e w' => e = .returned (.int .u64 (sFloor (sDiv x y))) ∧ Dr w w') (w : World) : Calls Try.prog 70 #[numV false i u, numV false j v] w fun e w' => e = .returned (.tuple #[numV false 0 (sMod x y), .int .i64 0]) ∧ Below w.heap.size w w' := by
  obtain ⟨A, B, C⟩ := boxes3 w false false i u j v
  have L := lay3 w (.cells #[.bool false, .int .i64 i, .int .u64 u] 42) (.cells #[.bool false, .int .i64 j, .int .u64 v] 42) (.cells #[.bool false, .int .i64 0, .int .u64 0] 42)
  obtain ⟨a0, a1, a2, _, _, _⟩ := A.cells
  obtain ⟨b0, b1, b2, _, _, _⟩ := B.cells
  obtain ⟨c0, c1, c2, c3, c4, c5⟩ := C.cells
  go_enter Try.func70, Try.ntmps70
  go_wp2_with fail
  go_region_held3 (fun w' => w'.cell? ⟨w.heap.size, 0, none⟩ = some (.bool false) ∧ w'.cell? ⟨w.heap.size, 1, none⟩ = some (.int .i64 i) ∧ w'.cell? ⟨w.heap.size, 2, none⟩ = some (.int .u64 u) ∧ w'.cell? ⟨w.heap.size + 1, 0, none⟩ = some (.bool false) ∧ w'.cell? ⟨w.heap.size + 1, 1, none⟩ = some (.int .i64 j) ∧ w'.cell? ⟨w.heap.size + 1, 2, none⟩ = some (.int .u64 v)) (first | exact ⟨a0, a1, a2, b0, b1, b2⟩ | exact ⟨a6, a7, a8, b6, b7, b8⟩ | go_keep) (first | (go_at_call 96; (first | (with_reducible refine (ha _).mono ?_) | (with_reducible refine (hb96 _).mono ?_)); rintro e w1 ⟨rfl, hb⟩; have A := A.step hb rfl; have B := B.step hb rfl; have C := C.step hb rfl; have L := bnext L hb rfl rfl rfl rfl; obtain ⟨a0, a1, a2, a3, a4, a5⟩ := A.cells; clear a3 a4 a5; obtain ⟨b0, b1, b2, b3, b4, b5⟩ := B.cells; clear b3 b4 b5; obtain ⟨c0, c1, c2, c3, c4, c5⟩ := C.cells; clear hb))
  all_goals
    go_wp2_with (first | (go_at_call 48; refine (refDiv_calls _ _ _).mono ?_; rintro e w2 ⟨rfl, n, rfl⟩) | (go_at_call 51; refine (h51 _).mono ?_; rintro e w2 ⟨rfl, n, rfl⟩) | (go_at_call 47; refine (refMul_calls _ _ _).mono ?_; rintro e w2 ⟨rfl, n, rfl⟩) | (go_at_call 46; refine (refSub_calls _ _ _).mono ?_; rintro e w2 ⟨rfl, n, rfl⟩) | (go_at_call 95; refine (refDouble_calls _ _).mono ?_; rintro e w3 ⟨rfl, hb⟩; have C := C.step hb rfl; have L := bnext L hb rfl rfl rfl rfl; obtain ⟨c0, c1, c2, c3, c4, c5⟩ := C.cells; clear hb))
    exact bodyPost_ret (v := .tuple #[numV false 0 (sMod x y), .int .i64 0]) (by simp [results, Try.results70, go_sem, c0, c1, c2, sMod]) rfl ⟨rfl, by first | exact L | exact bdraw L _ | exact set3 L 2 _ _ _ | exact set3 (bdraw L _) 2 _ _ _⟩

set_option maxRecDepth 100000 in
set_option maxHeartbeats 6400000 in
theorem refMod_dbl_ft (i u j v x y : Int) (ha : ∀ w, Calls Try.prog 96 #[numV false i u] w fun e w' => e = .returned (.int .u64 x) ∧ Below w.heap.size w w') (hb96 : ∀ w, Calls Try.prog 96 #[numV true j v] w fun e w' => e = .returned (.int .u64 y) ∧ Below w.heap.size w w') (h51 : ∀ w, Calls Try.prog 51 #[.int .u64 (sDiv x y)] w fun e w' => e = .returned (.int .u64 (sFloor (sDiv x y))) ∧ Dr w w') (w : World) : Calls Try.prog 70 #[numV false i u, numV true j v] w fun e w' => e = .returned (.tuple #[numV false 0 (sMod x y), .int .i64 0]) ∧ Below w.heap.size w w' := by
  obtain ⟨A, B, C⟩ := boxes3 w false true i u j v
  have L := lay3 w (.cells #[.bool false, .int .i64 i, .int .u64 u] 42) (.cells #[.bool true, .int .i64 j, .int .u64 v] 42) (.cells #[.bool false, .int .i64 0, .int .u64 0] 42)
  obtain ⟨a0, a1, a2, _, _, _⟩ := A.cells
  obtain ⟨b0, b1, b2, _, _, _⟩ := B.cells
  obtain ⟨c0, c1, c2, c3, c4, c5⟩ := C.cells
  go_enter Try.func70, Try.ntmps70
  go_wp2_with fail
  go_region_held3 (fun w' => w'.cell? ⟨w.heap.size, 0, none⟩ = some (.bool false) ∧ w'.cell? ⟨w.heap.size, 1, none⟩ = some (.int .i64 i) ∧ w'.cell? ⟨w.heap.size, 2, none⟩ = some (.int .u64 u) ∧ w'.cell? ⟨w.heap.size + 1, 0, none⟩ = some (.bool true) ∧ w'.cell? ⟨w.heap.size + 1, 1, none⟩ = some (.int .i64 j) ∧ w'.cell? ⟨w.heap.size + 1, 2, none⟩ = some (.int .u64 v)) (first | exact ⟨a0, a1, a2, b0, b1, b2⟩ | exact ⟨a6, a7, a8, b6, b7, b8⟩ | go_keep) (first | (go_at_call 96; (first | (with_reducible refine (ha _).mono ?_) | (with_reducible refine (hb96 _).mono ?_)); rintro e w1 ⟨rfl, hb⟩; have A := A.step hb rfl; have B := B.step hb rfl; have C := C.step hb rfl; have L := bnext L hb rfl rfl rfl rfl; obtain ⟨a0, a1, a2, a3, a4, a5⟩ := A.cells; clear a3 a4 a5; obtain ⟨b0, b1, b2, b3, b4, b5⟩ := B.cells; clear b3 b4 b5; obtain ⟨c0, c1, c2, c3, c4, c5⟩ := C.cells; clear hb))
  all_goals
    go_wp2_with (first | (go_at_call 48; refine (refDiv_calls _ _ _).mono ?_; rintro e w2 ⟨rfl, n, rfl⟩) | (go_at_call 51; refine (h51 _).mono ?_; rintro e w2 ⟨rfl, n, rfl⟩) | (go_at_call 47; refine (refMul_calls _ _ _).mono ?_; rintro e w2 ⟨rfl, n, rfl⟩) | (go_at_call 46; refine (refSub_calls _ _ _).mono ?_; rintro e w2 ⟨rfl, n, rfl⟩) | (go_at_call 95; refine (refDouble_calls _ _).mono ?_; rintro e w3 ⟨rfl, hb⟩; have C := C.step hb rfl; have L := bnext L hb rfl rfl rfl rfl; obtain ⟨c0, c1, c2, c3, c4, c5⟩ := C.cells; clear hb))
    exact bodyPost_ret (v := .tuple #[numV false 0 (sMod x y), .int .i64 0]) (by simp [results, Try.results70, go_sem, c0, c1, c2, sMod]) rfl ⟨rfl, by first | exact L | exact bdraw L _ | exact set3 L 2 _ _ _ | exact set3 (bdraw L _) 2 _ _ _⟩

set_option maxRecDepth 100000 in
set_option maxHeartbeats 6400000 in
theorem refMod_dbl_tf (i u j v x y : Int) (ha : ∀ w, Calls Try.prog 96 #[numV true i u] w fun e w' => e = .returned (.int .u64 x) ∧ Below w.heap.size w w') (hb96 : ∀ w, Calls Try.prog 96 #[numV false j v] w fun e w' => e = .returned (.int .u64 y) ∧ Below w.heap.size w w') (h51 : ∀ w, Calls Try.prog 51 #[.int .u64 (sDiv x y)] w fun e w' => e = .returned (.int .u64 (sFloor (sDiv x y))) ∧ Dr w w') (w : World) : Calls Try.prog 70 #[numV true i u, numV false j v] w fun e w' => e = .returned (.tuple #[numV false 0 (sMod x y), .int .i64 0]) ∧ Below w.heap.size w w' := by
  obtain ⟨A, B, C⟩ := boxes3 w true false i u j v
  have L := lay3 w (.cells #[.bool true, .int .i64 i, .int .u64 u] 42) (.cells #[.bool false, .int .i64 j, .int .u64 v] 42) (.cells #[.bool false, .int .i64 0, .int .u64 0] 42)
  obtain ⟨a0, a1, a2, _, _, _⟩ := A.cells
  obtain ⟨b0, b1, b2, _, _, _⟩ := B.cells
  obtain ⟨c0, c1, c2, c3, c4, c5⟩ := C.cells
  go_enter Try.func70, Try.ntmps70
  go_wp2_with fail
  go_region_held3 (fun w' => w'.cell? ⟨w.heap.size, 0, none⟩ = some (.bool true) ∧ w'.cell? ⟨w.heap.size, 1, none⟩ = some (.int .i64 i) ∧ w'.cell? ⟨w.heap.size, 2, none⟩ = some (.int .u64 u) ∧ w'.cell? ⟨w.heap.size + 1, 0, none⟩ = some (.bool false) ∧ w'.cell? ⟨w.heap.size + 1, 1, none⟩ = some (.int .i64 j) ∧ w'.cell? ⟨w.heap.size + 1, 2, none⟩ = some (.int .u64 v)) (first | exact ⟨a0, a1, a2, b0, b1, b2⟩ | exact ⟨a6, a7, a8, b6, b7, b8⟩ | go_keep) (first | (go_at_call 96; (first | (with_reducible refine (ha _).mono ?_) | (with_reducible refine (hb96 _).mono ?_)); rintro e w1 ⟨rfl, hb⟩; have A := A.step hb rfl; have B := B.step hb rfl; have C := C.step hb rfl; have L := bnext L hb rfl rfl rfl rfl; obtain ⟨a0, a1, a2, a3, a4, a5⟩ := A.cells; clear a3 a4 a5; obtain ⟨b0, b1, b2, b3, b4, b5⟩ := B.cells; clear b3 b4 b5; obtain ⟨c0, c1, c2, c3, c4, c5⟩ := C.cells; clear hb))
  all_goals
    go_wp2_with (first | (go_at_call 48; refine (refDiv_calls _ _ _).mono ?_; rintro e w2 ⟨rfl, n, rfl⟩) | (go_at_call 51; refine (h51 _).mono ?_; rintro e w2 ⟨rfl, n, rfl⟩) | (go_at_call 47; refine (refMul_calls _ _ _).mono ?_; rintro e w2 ⟨rfl, n, rfl⟩) | (go_at_call 46; refine (refSub_calls _ _ _).mono ?_; rintro e w2 ⟨rfl, n, rfl⟩) | (go_at_call 95; refine (refDouble_calls _ _).mono ?_; rintro e w3 ⟨rfl, hb⟩; have C := C.step hb rfl; have L := bnext L hb rfl rfl rfl rfl; obtain ⟨c0, c1, c2, c3, c4, c5⟩ := C.cells; clear hb))
    exact bodyPost_ret (v := .tuple #[numV false 0 (sMod x y), .int .i64 0]) (by simp [results, Try.results70, go_sem, c0, c1, c2, sMod]) rfl ⟨rfl, by first | exact L | exact bdraw L _ | exact set3 L 2 _ _ _ | exact set3 (bdraw L _) 2 _ _ _⟩

theorem floor_ends (x y : Int) (w : World) : Calls Try.prog 51 #[.int .u64 (sDiv x y)] w fun e w' => e = .returned (.int .u64 (sFloor (sDiv x y))) ∧ Dr w w' :=
  refFloor_calls (sDiv x y) (by
    have : Fl.ddiv x.toNat y.toNat < 2 ^ 64 := Fl.cb_lt
    unfold sDiv; omega) w
theorem sign_fdiv (i j : Int) (h0 : j ≠ 0) : i.fdiv j = if (decide (i < 0) != decide (j < 0)) then -((i.fdiv j).natAbs : Int) else ((i.fdiv j).natAbs : Int) := by
  have e := Int.fdiv_mul_add_fmod i j
  by_cases sj : j < 0
  · obtain ⟨_, k1, k2⟩ := (Int.fdiv_fmod_unique' (a := i) (b := j) (q := i.fdiv j) (r := i.fmod j) sj).1 ⟨rfl, rfl⟩
    by_cases si : i < 0
    · have : 0 ≤ i.fdiv j := by
        rcases Int.lt_or_le (i.fdiv j) 0 with c | c
        · have : 0 ≤ (i.fdiv j + 1) * j := Int.mul_nonneg_of_nonpos_of_nonpos (by omega) (by omega)
          rw [Int.add_mul, Int.one_mul] at this; omega
        · exact c
      rw [decide_eq_true sj, decide_eq_true si]; simp; omega
    · have : i.fdiv j ≤ 0 := by
        rcases Int.lt_or_le 0 (i.fdiv j) with c | c
        · have : (i.fdiv j - 1) * j ≤ 0 := Int.mul_nonpos_of_nonneg_of_nonpos (by omega) (by omega)
          rw [Int.sub_mul, Int.one_mul] at this; omega
        · exact c
      rw [decide_eq_true sj, decide_eq_false si]; simp; omega
  · have sj' : 0 < j := by omega
    obtain ⟨_, k1, k2⟩ := (Int.fdiv_fmod_unique (a := i) (b := j) (q := i.fdiv j) (r := i.fmod j) sj').1 ⟨rfl, rfl⟩
    by_cases si : i < 0
    · have : i.fdiv j ≤ 0 := by
        rcases Int.lt_or_le 0 (i.fdiv j) with c | c
        · have : 0 ≤ (i.fdiv j - 1) * j := Int.mul_nonneg (by omega) (by omega)
          rw [Int.sub_mul, Int.one_mul] at this; omega
        · exact c
      rw [decide_eq_false sj, decide_eq_true si]; simp; omega
    · have : 0 ≤ i.fdiv j := by
        rcases Int.lt_or_le (i.fdiv j) 0 with c | c
        · have : (i.fdiv j + 1) * j ≤ 0 := Int.mul_nonpos_of_nonpos_of_nonneg (by omega) (by omega)
          rw [Int.add_mul, Int.one_mul] at this; omega
        · exact c
      rw [decide_eq_false sj, decide_eq_false si]; simp; omega

theorem refFloorDivI_calls (i u j v : Int) (hi : fits i) (hj : fits j) (w : World) : Calls Try.prog 68 #[numV true i u, numV true j v] w fun e w' => e = .returned (.tuple #[numV (opN (iDiv i j)).b (opN (iDiv i j)).x (opN (iDiv i j)).y, .int .i64 (opN (iDiv i j)).c]) ∧ Below w.heap.size w w' := by
  by_cases h0 : j = 0
  · subst h0; exact refFloorDiv_zero i u 0 v rfl w
  · have b0 : (j == 0) = false := beq_eq_false_iff_ne.2 h0
    have h97 := floors_calls i j hi hj h0
    have hs := sign_fdiv i j h0
    have e : iDiv i j = exact (i.fdiv j) := by unfold iDiv; rw [if_neg h0]
    rw [e]
    by_cases f : fits (i.fdiv j)
    · rw [op_ok f]
      exact refFloorDiv_on i u j v _ _ _ _ b0 h97 (signed_fits _ _ _ (by omega) hs f) w
    · rw [op_err f]
      have h98 := fun w => signed_not ((i.fdiv j).natAbs : Int) (decide (i < 0) != decide (j < 0)) (by omega) (by rw [← hs]; exact f) w
      exact refFloorDiv_off' i u j v _ _ _ b0 h97 h98 w
theorem refModI_calls (i u j v : Int) (hi : fits i) (hj : fits j) (w : World) : Calls Try.prog 70 #[numV true i u, numV true j v] w fun e w' => e = .returned (.tuple #[numV (opN (iMod i j)).b (opN (iMod i j)).x (opN (iMod i j)).y, .int .i64 (opN (iMod i j)).c]) ∧ Below w.heap.size w w' := by
  by_cases h0 : j = 0
  · subst h0; exact refMod_zero i u 0 v rfl w
  · have b0 : (j == 0) = false := beq_eq_false_iff_ne.2 h0
    have h97 := floors_calls i j hi hj h0
    have e : opN (iMod i j) = ⟨true, i.fmod j, 0, 0⟩ := by unfold iMod; rw [if_neg h0]; rfl
    rw [e]
    exact refMod_on i u j v _ _ _ b0 h97 w

theorem refFloorDiv_num (p q : Bool) (i u j v : Int) (hi : fits i) (hj : fits j) (hu : Rng u) (hv : Rng v) (w : World) :
    Calls Try.prog 68 #[numV p i u, numV q j v] w fun e w' => e = .returned (.tuple #[numV (nFloorDiv p q i u j v).b (nFloorDiv p q i u j v).x (nFloorDiv p q i u j v).y, .int .i64 (nFloorDiv p q i u j v).c]) ∧ Below w.heap.size w w' := by
  have ed := like_div (like_pat p i u hu.1) (like_pat q j v hv.1)
  have ea : sFloorDiv (rPat p i u) (rPat q j v) = sFloorDiv (sPat p i u) (sPat q j v) := by unfold sFloorDiv; rw [ed]
  cases p <;> cases q
  · have h := refFloorDiv_dbl_ff i u j v _ _ (refBits_calls false i u hu.1 hu.2) (refBits_calls false j v hv.1 hv.2) (floor_ends _ _) w
    rw [ea] at h; exact h
  · have h := refFloorDiv_dbl_ft i u j v _ _ (refBits_calls false i u hu.1 hu.2) (refBits_calls true j v hv.1 hv.2) (floor_ends _ _) w
    rw [ea] at h; exact h
  · have h := refFloorDiv_dbl_tf i u j v _ _ (refBits_calls true i u hu.1 hu.2) (refBits_calls false j v hv.1 hv.2) (floor_ends _ _) w
    rw [ea] at h; exact h
  · exact refFloorDivI_calls i u j v hi hj w

theorem refMod_num (p q : Bool) (i u j v : Int) (hi : fits i) (hj : fits j) (hu : Rng u) (hv : Rng v) (w : World) :
    Calls Try.prog 70 #[numV p i u, numV q j v] w fun e w' => e = .returned (.tuple #[numV (nMod p q i u j v).b (nMod p q i u j v).x (nMod p q i u j v).y, .int .i64 (nMod p q i u j v).c]) ∧ Below w.heap.size w w' := by
  have ed := like_div (like_pat p i u hu.1) (like_pat q j v hv.1)
  have ea : sMod (rPat p i u) (rPat q j v) = sMod (sPat p i u) (sPat q j v) := by unfold sMod; rw [ed]; exact like_sub (like_pat p i u hu.1) (.inl (like_mul (like_pat q j v hv.1) (.inl rfl)))
  cases p <;> cases q
  · have h := refMod_dbl_ff i u j v _ _ (refBits_calls false i u hu.1 hu.2) (refBits_calls false j v hv.1 hv.2) (floor_ends _ _) w
    rw [ea] at h; exact h
  · have h := refMod_dbl_ft i u j v _ _ (refBits_calls false i u hu.1 hu.2) (refBits_calls true j v hv.1 hv.2) (floor_ends _ _) w
    rw [ea] at h; exact h
  · have h := refMod_dbl_tf i u j v _ _ (refBits_calls true i u hu.1 hu.2) (refBits_calls false j v hv.1 hv.2) (floor_ends _ _) w
    rw [ea] at h; exact h
  · exact refModI_calls i u j v hi hj w

end Go.Proofs.Ytieddikacnmhlaa


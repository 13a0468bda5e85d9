/- NumThree where a is the same as b. -/
import Derived.Test.YtieddikacnmhlaaThree
import Derived.LoopTactic
namespace Go.Proofs.Ytieddikacnmhlaa
open Go.RowKit
set_option linter.unusedVariables false
set_option linter.unusedSimpArgs false

set_option maxRecDepth 100000 in
set_option maxHeartbeats 12800000 in
theorem numThree_s1 (p q r tac ebc eac : Bool) (i u j v k x : Int) (w : World)
    (hl : ∀ w, Calls Try.prog 52 #[numV p i u, numV q j v] w fun e w' => e = .returned (.bool false) ∧ Below w.heap.size w w')
    (hs : ∀ w, Calls Try.prog 56 #[numV p i u, numV q j v] w fun e w' => e = .returned (.bool true) ∧ Below w.heap.size w w')
    (hm : ∀ w, Calls Try.prog 52 #[numV q j v, numV p i u] w fun e w' => e = .returned (.bool false) ∧ Below w.heap.size w w')
    (hna : ∀ w, Calls Try.prog 59 #[numV p i u] w fun e w' => e = .returned (.bool false) ∧ Below w.heap.size w w')
    (hnb : ∀ w, Calls Try.prog 59 #[numV q j v] w fun e w' => e = .returned (.bool false) ∧ Below w.heap.size w w')
    (h54 : ∀ w, Calls Try.prog 54 #[numV p i u, numV q j v] w fun e w' => e = .returned (.bool true) ∧ Below w.heap.size w w')
    (h45 : ∀ w, Calls Try.prog 54 #[numV q j v, numV p i u] w fun e w' => e = .returned (.bool true) ∧ Below w.heap.size w w')
    (h65 : ∀ w, Calls Try.prog 56 #[numV q j v, numV p i u] w fun e w' => e = .returned (.bool true) ∧ Below w.heap.size w w')
    (h4bc : ∀ w, Calls Try.prog 54 #[numV q j v, numV r k x] w fun e w' => e = .returned (.bool true) ∧ Below w.heap.size w w')
    (h4ac : ∀ w, Calls Try.prog 54 #[numV p i u, numV r k x] w fun e w' => e = .returned (.bool true) ∧ Below w.heap.size w w')
    (h2ac : ∀ w, Calls Try.prog 52 #[numV p i u, numV r k x] w fun e w' => e = .returned (.bool tac) ∧ Below w.heap.size w w')
    (h6bc : ∀ w, Calls Try.prog 56 #[numV q j v, numV r k x] w fun e w' => e = .returned (.bool ebc) ∧ Below w.heap.size w w')
    (h6ac : ∀ w, Calls Try.prog 56 #[numV p i u, numV r k x] w fun e w' => e = .returned (.bool eac) ∧ Below w.heap.size w w')
    (h6aa : ∀ w, Calls Try.prog 56 #[numV p i u, numV p i u] w fun e w' => e = .returned (.bool true) ∧ Below w.heap.size w w')
    (hne : (ebc != eac) = false) :
    Calls Try.prog 13 #[numV p i u, numV q j v, numV r k x] w fun e w' => e = .returned (.bool true) ∧ Below w.heap.size w w' := by
  obtain ⟨A, B, C⟩ := boxesABC w p q r i u j v k x
  have L := lay3 w (.cells #[.bool p, .int .i64 i, .int .u64 u] 42) (.cells #[.bool q, .int .i64 j, .int .u64 v] 42) (.cells #[.bool r, .int .i64 k, .int .u64 x] 42)
  obtain ⟨a0, a1, a2, _, _, _⟩ := A.cells
  obtain ⟨b0, b1, b2, _, _, _⟩ := B.cells
  obtain ⟨c0, c1, c2, _, _, _⟩ := C.cells
  go_enter Try.func13, Try.ntmps13
  go_upto_region 1 with fail
  go_cut [7, 8, 9] (fun s7 s8 s9 wx => s7 = .bool false ∧ s8 = .bool true ∧ s9 = .bool false ∧ Box wx w.heap.size p i u ∧ Box wx (w.heap.size + 1) q j v ∧ Box wx (w.heap.size + 2) r k x ∧ Below w.heap.size w wx)
  case first =>
    go_region_held3 (fun w' => w'.cell? ⟨w.heap.size, 0, none⟩ = some (.bool p) ∧ w'.cell? ⟨w.heap.size, 1, none⟩ = some (.int .i64 i) ∧ w'.cell? ⟨w.heap.size, 2, none⟩ = some (.int .u64 u) ∧ w'.cell? ⟨w.heap.size + 1, 0, none⟩ = some (.bool q) ∧ w'.cell? ⟨w.heap.size + 1, 1, none⟩ = some (.int .i64 j) ∧ w'.cell? ⟨w.heap.size + 1, 2, none⟩ = some (.int .u64 v) ∧ w'.cell? ⟨w.heap.size + 2, 0, none⟩ = some (.bool r) ∧ w'.cell? ⟨w.heap.size + 2, 1, none⟩ = some (.int .i64 k) ∧ w'.cell? ⟨w.heap.size + 2, 2, none⟩ = some (.int .u64 x)) (first | exact ⟨a0, a1, a2, b0, b1, b2, c0, c1, c2⟩ | go_keep) (first | (go_at_call 52; (first | (with_reducible refine (hl _).mono ?_) | (with_reducible refine (hm _).mono ?_)); rintro e w1 ⟨rfl, hb⟩; have A := A.step hb rfl; have B := B.step hb rfl; have C := C.step hb rfl; have L := bnext L hb rfl rfl rfl rfl; obtain ⟨a0, a1, a2, _, _, _⟩ := A.cells; obtain ⟨b0, b1, b2, _, _, _⟩ := B.cells; obtain ⟨c0, c1, c2, _, _, _⟩ := C.cells; clear hb) | (go_at_call 56; (first | (with_reducible refine (hs _).mono ?_)); rintro e w1 ⟨rfl, hb⟩; have A := A.step hb rfl; have B := B.step hb rfl; have C := C.step hb rfl; have L := bnext L hb rfl rfl rfl rfl; obtain ⟨a0, a1, a2, _, _, _⟩ := A.cells; obtain ⟨b0, b1, b2, _, _, _⟩ := B.cells; obtain ⟨c0, c1, c2, _, _, _⟩ := C.cells; clear hb))
    all_goals (go_wp2_with fail; go_meet; exact ⟨rfl, rfl, rfl, A, B, C, L⟩)
  case rest =>
    obtain ⟨rfl, rfl, rfl, A, B, C, L⟩ := hcut
    obtain ⟨a0, a1, a2, _, _, _⟩ := A.cells
    obtain ⟨b0, b1, b2, _, _, _⟩ := B.cells
    obtain ⟨c0, c1, c2, _, _, _⟩ := C.cells
    go_wp2_with fail
    refine (hna _).mono ?_
    rintro e wn ⟨rfl, hb⟩
    have L := bnext L hb rfl rfl rfl rfl
    have A := A.step hb rfl
    have B := B.step hb rfl
    have C := C.step hb rfl
    clear hb
    obtain ⟨a0, a1, a2, _, _, _⟩ := A.cells
    obtain ⟨b0, b1, b2, _, _, _⟩ := B.cells
    obtain ⟨c0, c1, c2, _, _, _⟩ := C.cells
    go_wp2_with fail
    refine (hnb _).mono ?_
    rintro e wn ⟨rfl, hb⟩
    have L := bnext L hb rfl rfl rfl rfl
    have A := A.step hb rfl
    have B := B.step hb rfl
    have C := C.step hb rfl
    clear hb
    obtain ⟨a0, a1, a2, _, _, _⟩ := A.cells
    obtain ⟨b0, b1, b2, _, _, _⟩ := B.cells
    obtain ⟨c0, c1, c2, _, _, _⟩ := C.cells
    go_wp2_with fail
    have L := balloc L L.size (.cells #[.bool false, .bool true, .bool false] 4)
    have A := A.alloc (.cells #[.bool false, .bool true, .bool false] 4)
    have B := B.alloc (.cells #[.bool false, .bool true, .bool false] 4)
    have C := C.alloc (.cells #[.bool false, .bool true, .bool false] 4)
    have d0 : (wn.alloc (.cells #[.bool false, .bool true, .bool false] 4)).cell? ⟨wn.heap.size, 0, none⟩ = some (.bool false) := by simp [World.cell?_alloc_new]
    have d1 : (wn.alloc (.cells #[.bool false, .bool true, .bool false] 4)).cell? ⟨wn.heap.size, 1, none⟩ = some (.bool true) := by simp [World.cell?_alloc_new]
    have d2 : (wn.alloc (.cells #[.bool false, .bool true, .bool false] 4)).cell? ⟨wn.heap.size, 2, none⟩ = some (.bool false) := by simp [World.cell?_alloc_new]
    go_loop [10, 12, 58] (fun t _ n => (n = .int .i64 0 ∧ t = .int .i64 0) ∨ (n = .int .i64 1 ∧ t = .int .i64 0) ∨ (n = .int .i64 2 ∧ t = .int .i64 1) ∨ (n = .int .i64 3 ∧ t = .int .i64 1)) (fun _ _ n => 3 - (intOf n).toNat)
    case atStart => exact .inl ⟨rfl, rfl⟩
    case round =>
      rcases hrel with ⟨rfl, rfl⟩ | ⟨rfl, rfl⟩ | ⟨rfl, rfl⟩ | ⟨rfl, rfl⟩
      · go_wp2
        go_round
        case rel => exact .inr (.inl ⟨rfl, rfl⟩)
        case measure => simp [intOf]
      · go_wp2
        go_round
        case rel => exact .inr (.inr (.inl ⟨rfl, rfl⟩))
        case measure => simp [intOf]
      · go_wp2
        go_round
        case rel => exact .inr (.inr (.inr ⟨rfl, rfl⟩))
        case measure => simp [intOf]
      · skip
        obtain ⟨a0, a1, a2, _, _, _⟩ := A.cells
        obtain ⟨b0, b1, b2, _, _, _⟩ := B.cells
        obtain ⟨c0, c1, c2, _, _, _⟩ := C.cells
        go_wp2_with fail
        refine (h54 _).mono ?_
        rintro e wn ⟨rfl, hb⟩
        have L := bnext L hb rfl rfl rfl rfl
        have A := A.step hb rfl
        have B := B.step hb rfl
        have C := C.step hb rfl
        clear hb
        obtain ⟨a0, a1, a2, _, _, _⟩ := A.cells
        obtain ⟨b0, b1, b2, _, _, _⟩ := B.cells
        obtain ⟨c0, c1, c2, _, _, _⟩ := C.cells
        go_wp2_with fail
        refine (h45 _).mono ?_
        rintro e wn ⟨rfl, hb⟩
        have L := bnext L hb rfl rfl rfl rfl
        have A := A.step hb rfl
        have B := B.step hb rfl
        have C := C.step hb rfl
        clear hb
        obtain ⟨a0, a1, a2, _, _, _⟩ := A.cells
        obtain ⟨b0, b1, b2, _, _, _⟩ := B.cells
        obtain ⟨c0, c1, c2, _, _, _⟩ := C.cells
        go_wp2_with fail
        refine (h65 _).mono ?_
        rintro e wn ⟨rfl, hb⟩
        have L := bnext L hb rfl rfl rfl rfl
        have A := A.step hb rfl
        have B := B.step hb rfl
        have C := C.step hb rfl
        clear hb
        obtain ⟨a0, a1, a2, _, _, _⟩ := A.cells
        obtain ⟨b0, b1, b2, _, _, _⟩ := B.cells
        obtain ⟨c0, c1, c2, _, _, _⟩ := C.cells
        go_upto_region 13 with fail
        go_cut [128] (fun s1 wx => s1 = .bool false ∧ Box wx w.heap.size p i u ∧ Box wx (w.heap.size + 1) q j v ∧ Box wx (w.heap.size + 2) r k x ∧ Below w.heap.size w wx)
        case first =>
          refine wp_region_held_drew (S := (fun w' => w'.cell? ⟨w.heap.size, 0, none⟩ = some (.bool p) ∧ w'.cell? ⟨w.heap.size, 1, none⟩ = some (.int .i64 i) ∧ w'.cell? ⟨w.heap.size, 2, none⟩ = some (.int .u64 u) ∧ w'.cell? ⟨w.heap.size + 1, 0, none⟩ = some (.bool q) ∧ w'.cell? ⟨w.heap.size + 1, 1, none⟩ = some (.int .i64 j) ∧ w'.cell? ⟨w.heap.size + 1, 2, none⟩ = some (.int .u64 v) ∧ w'.cell? ⟨w.heap.size + 2, 0, none⟩ = some (.bool r) ∧ w'.cell? ⟨w.heap.size + 2, 1, none⟩ = some (.int .i64 k) ∧ w'.cell? ⟨w.heap.size + 2, 2, none⟩ = some (.int .u64 x))) (by kernel_rfl) ?_ (fun hHeld0 => ?_)
          · (first | exact ⟨a0, a1, a2, b0, b1, b2, c0, c1, c2⟩ | go_keep)
          refine wpAnyH_take (i := 0) (v := ?_) rfl (by kernel_rfl) (by kernel_rfl) (by kernel_rfl) (fun _ _ _ h => h) (Or.inl ⟨by rfl, ?_⟩) (by assumption) ?_
          rotate_left
          · (intro w hSw; (try dsimp only at hSw); go_simp; first | done | with_reducible rfl)
          try simp only [Act.put, List.getElem_toArray, List.getElem_cons_succ, List.getElem_cons_zero, List.setIfInBounds_toArray, List.set_cons_zero, List.set_cons_succ]
          refine wpAnyH_take (i := 1) (v := ?_) rfl (by kernel_rfl) (by kernel_rfl) (by kernel_rfl) (fun _ _ _ h => h) (Or.inl ⟨by rfl, ?_⟩) (by assumption) ?_
          rotate_left
          · (intro w hSw; (try dsimp only at hSw); go_simp; first | done | with_reducible rfl)
          try simp only [Act.put, List.getElem_toArray, List.getElem_cons_succ, List.getElem_cons_zero, List.setIfInBounds_toArray, List.set_cons_zero, List.set_cons_succ]
          refine wpAnyH_ready (rs := [2]) (by kernel_rfl) (by simp) ?_
          refine AllReadyH.cons rfl (fun K hK => ?_) AllReadyH.nil
          simp only [List.getElem_toArray, List.getElem_cons_succ, List.getElem_cons_zero]
          first | (go_at_call 54; (first | (with_reducible refine (h54 _).mono ?_)); rintro e w1 ⟨rfl, hb⟩; have A := A.step hb rfl; have B := B.step hb rfl; have C := C.step hb rfl; have L := bnext L hb rfl rfl rfl rfl; obtain ⟨a0, a1, a2, _, _, _⟩ := A.cells; obtain ⟨b0, b1, b2, _, _, _⟩ := B.cells; obtain ⟨c0, c1, c2, _, _, _⟩ := C.cells; clear hb) | (go_simp; (go_at_call 54; (first | (with_reducible refine (h54 _).mono ?_)); rintro e w1 ⟨rfl, hb⟩; have A := A.step hb rfl; have B := B.step hb rfl; have C := C.step hb rfl; have L := bnext L hb rfl rfl rfl rfl; obtain ⟨a0, a1, a2, _, _, _⟩ := A.cells; obtain ⟨b0, b1, b2, _, _, _⟩ := B.cells; obtain ⟨c0, c1, c2, _, _, _⟩ := C.cells; clear hb))
          try go_wp2_with fail
          refine hK.out _ _ ?_ (fun hHeld1 => ?_)
          · (try dsimp only); (first | exact ⟨a0, a1, a2, b0, b1, b2, c0, c1, c2⟩ | go_keep)
          clear hK K hHeld0
          try simp only [Act.put, List.getElem_toArray, List.getElem_cons_succ, List.getElem_cons_zero, List.setIfInBounds_toArray, List.set_cons_zero, List.set_cons_succ]
          refine wpAnyH_take (i := 3) (v := ?_) rfl (by kernel_rfl) (by kernel_rfl) (by kernel_rfl) (fun _ _ _ h => h) (Or.inl ⟨by rfl, ?_⟩) (by assumption) ?_
          rotate_left
          · (intro w hSw; (try dsimp only at hSw); go_simp; first | done | with_reducible rfl)
          try simp only [Act.put, List.getElem_toArray, List.getElem_cons_succ, List.getElem_cons_zero, List.setIfInBounds_toArray, List.set_cons_zero, List.set_cons_succ]
          refine wpAnyH_take (i := 4) (v := ?_) rfl (by kernel_rfl) (by kernel_rfl) (by kernel_rfl) (fun _ _ _ h => h) (Or.inl ⟨by rfl, ?_⟩) (by assumption) ?_
          rotate_left
          · (intro w hSw; (try dsimp only at hSw); go_simp; first | done | with_reducible rfl)
          try simp only [Act.put, List.getElem_toArray, List.getElem_cons_succ, List.getElem_cons_zero, List.setIfInBounds_toArray, List.set_cons_zero, List.set_cons_succ]
          refine wpAnyH_take (i := 5) (v := ?_) rfl (by kernel_rfl) (by kernel_rfl) (by kernel_rfl) (fun _ _ _ h => h) (Or.inl ⟨by rfl, ?_⟩) (by assumption) ?_
          rotate_left
          · (intro w hSw; (try dsimp only at hSw); go_simp; first | done | with_reducible rfl)
          try simp only [Act.put, List.getElem_toArray, List.getElem_cons_succ, List.getElem_cons_zero, List.setIfInBounds_toArray, List.set_cons_zero, List.set_cons_succ]
          refine wpAnyH_ready (rs := [6]) (by kernel_rfl) (by simp) ?_
          refine AllReadyH.cons rfl (fun K hK => ?_) AllReadyH.nil
          simp only [List.getElem_toArray, List.getElem_cons_succ, List.getElem_cons_zero]
          first | (go_at_call 54; (first | (with_reducible refine (h4bc _).mono ?_)); rintro e w1 ⟨rfl, hb⟩; have A := A.step hb rfl; have B := B.step hb rfl; have C := C.step hb rfl; have L := bnext L hb rfl rfl rfl rfl; obtain ⟨a0, a1, a2, _, _, _⟩ := A.cells; obtain ⟨b0, b1, b2, _, _, _⟩ := B.cells; obtain ⟨c0, c1, c2, _, _, _⟩ := C.cells; clear hb) | (go_simp; (go_at_call 54; (first | (with_reducible refine (h4bc _).mono ?_)); rintro e w1 ⟨rfl, hb⟩; have A := A.step hb rfl; have B := B.step hb rfl; have C := C.step hb rfl; have L := bnext L hb rfl rfl rfl rfl; obtain ⟨a0, a1, a2, _, _, _⟩ := A.cells; obtain ⟨b0, b1, b2, _, _, _⟩ := B.cells; obtain ⟨c0, c1, c2, _, _, _⟩ := C.cells; clear hb))
          try go_wp2_with fail
          refine hK.out _ _ ?_ (fun hHeld2 => ?_)
          · (try dsimp only); (first | exact ⟨a0, a1, a2, b0, b1, b2, c0, c1, c2⟩ | go_keep)
          clear hK K hHeld1
          try simp only [Act.put, List.getElem_toArray, List.getElem_cons_succ, List.getElem_cons_zero, List.setIfInBounds_toArray, List.set_cons_zero, List.set_cons_succ]
          refine wpAnyH_take (i := 7) (v := ?_) rfl (by kernel_rfl) (by kernel_rfl) (by kernel_rfl) (fun _ _ _ h => h) (Or.inl ⟨by rfl, ?_⟩) (by assumption) ?_
          rotate_left
          · (intro w hSw; (try dsimp only at hSw); go_simp; first | done | with_reducible rfl)
          try simp only [Act.put, List.getElem_toArray, List.getElem_cons_succ, List.getElem_cons_zero, List.setIfInBounds_toArray, List.set_cons_zero, List.set_cons_succ]
          refine wpAnyH_take (i := 8) (v := ?_) rfl (by kernel_rfl) (by kernel_rfl) (by kernel_rfl) (fun _ _ _ h => h) (Or.inl ⟨by rfl, ?_⟩) (by assumption) ?_
          rotate_left
          · (intro w hSw; (try dsimp only at hSw); go_simp; first | done | with_reducible rfl)
          try simp only [Act.put, List.getElem_toArray, List.getElem_cons_succ, List.getElem_cons_zero, List.setIfInBounds_toArray, List.set_cons_zero, List.set_cons_succ]
          refine wpAnyH_take (i := 9) (v := ?_) rfl (by kernel_rfl) (by kernel_rfl) (by kernel_rfl) (fun _ _ _ h => h) (Or.inl ⟨by rfl, ?_⟩) (by assumption) ?_
          rotate_left
          · (intro w hSw; (try dsimp only at hSw); go_simp; first | done | with_reducible rfl)
          try simp only [Act.put, List.getElem_toArray, List.getElem_cons_succ, List.getElem_cons_zero, List.setIfInBounds_toArray, List.set_cons_zero, List.set_cons_succ]
          refine wpAnyH_take (i := 10) (v := ?_) rfl (by kernel_rfl) (by kernel_rfl) (by kernel_rfl) (fun _ _ _ h => h) (Or.inl ⟨by rfl, ?_⟩) (by assumption) ?_
          rotate_left
          · (intro w hSw; (try dsimp only at hSw); go_simp; first | done | with_reducible rfl)
          try simp only [Act.put, List.getElem_toArray, List.getElem_cons_succ, List.getElem_cons_zero, List.setIfInBounds_toArray, List.set_cons_zero, List.set_cons_succ]
          refine wpAnyH_ready (rs := [11]) (by kernel_rfl) (by simp) ?_
          refine AllReadyH.cons rfl (fun K hK => ?_) AllReadyH.nil
          simp only [List.getElem_toArray, List.getElem_cons_succ, List.getElem_cons_zero]
          first | (go_at_call 54; (first | (with_reducible refine (h4ac _).mono ?_)); rintro e w1 ⟨rfl, hb⟩; have A := A.step hb rfl; have B := B.step hb rfl; have C := C.step hb rfl; have L := bnext L hb rfl rfl rfl rfl; obtain ⟨a0, a1, a2, _, _, _⟩ := A.cells; obtain ⟨b0, b1, b2, _, _, _⟩ := B.cells; obtain ⟨c0, c1, c2, _, _, _⟩ := C.cells; clear hb) | (go_simp; (go_at_call 54; (first | (with_reducible refine (h4ac _).mono ?_)); rintro e w1 ⟨rfl, hb⟩; have A := A.step hb rfl; have B := B.step hb rfl; have C := C.step hb rfl; have L := bnext L hb rfl rfl rfl rfl; obtain ⟨a0, a1, a2, _, _, _⟩ := A.cells; obtain ⟨b0, b1, b2, _, _, _⟩ := B.cells; obtain ⟨c0, c1, c2, _, _, _⟩ := C.cells; clear hb))
          try go_wp2_with fail
          refine hK.out _ _ ?_ (fun hHeld3 => ?_)
          · (try dsimp only); (first | exact ⟨a0, a1, a2, b0, b1, b2, c0, c1, c2⟩ | go_keep)
          clear hK K hHeld2
          try simp only [Act.put, List.getElem_toArray, List.getElem_cons_succ, List.getElem_cons_zero, List.setIfInBounds_toArray, List.set_cons_zero, List.set_cons_succ]
          refine wpAnyH_take (i := 12) (v := ?_) rfl (by kernel_rfl) (by kernel_rfl) (by kernel_rfl) (fun _ _ _ h => h) (Or.inl ⟨by rfl, ?_⟩) (by assumption) ?_
          rotate_left
          · (intro w hSw; (try dsimp only at hSw); go_simp; first | done | with_reducible rfl)
          try simp only [Act.put, List.getElem_toArray, List.getElem_cons_succ, List.getElem_cons_zero, List.setIfInBounds_toArray, List.set_cons_zero, List.set_cons_succ]
          refine wpAnyH_take (i := 13) (v := ?_) rfl (by kernel_rfl) (by kernel_rfl) (by kernel_rfl) (fun _ _ _ h => h) (Or.inl ⟨by rfl, ?_⟩) (by assumption) ?_
          rotate_left
          · (intro w hSw; (try dsimp only at hSw); go_simp; first | done | with_reducible rfl)
          try simp only [Act.put, List.getElem_toArray, List.getElem_cons_succ, List.getElem_cons_zero, List.setIfInBounds_toArray, List.set_cons_zero, List.set_cons_succ]
          refine wpAnyH_take (i := 14) (v := ?_) rfl (by kernel_rfl) (by kernel_rfl) (by kernel_rfl) (fun _ _ _ h => h) (Or.inl ⟨by rfl, ?_⟩) (by assumption) ?_
          rotate_left
          · (intro w hSw; (try dsimp only at hSw); go_simp; first | done | with_reducible rfl)
          try simp only [Act.put, List.getElem_toArray, List.getElem_cons_succ, List.getElem_cons_zero, List.setIfInBounds_toArray, List.set_cons_zero, List.set_cons_succ]
          refine wpAnyH_take (i := 15) (v := ?_) rfl (by kernel_rfl) (by kernel_rfl) (by kernel_rfl) (fun _ _ _ h => h) (Or.inl ⟨by rfl, ?_⟩) (by assumption) ?_
          rotate_left
          · (intro w hSw; (try dsimp only at hSw); go_simp; first | done | with_reducible rfl)
          try simp only [Act.put, List.getElem_toArray, List.getElem_cons_succ, List.getElem_cons_zero, List.setIfInBounds_toArray, List.set_cons_zero, List.set_cons_succ]
          refine wpAnyH_take (i := 16) (v := ?_) rfl (by kernel_rfl) (by kernel_rfl) (by kernel_rfl) (fun _ _ _ h => h) (Or.inl ⟨by rfl, ?_⟩) (by assumption) ?_
          rotate_left
          · (intro w hSw; (try dsimp only at hSw); go_simp; first | done | with_reducible rfl)
          try simp only [Act.put, List.getElem_toArray, List.getElem_cons_succ, List.getElem_cons_zero, List.setIfInBounds_toArray, List.set_cons_zero, List.set_cons_succ]
          refine wpAnyH_take (i := 17) (v := undef) rfl (by kernel_rfl) (by kernel_rfl) (by kernel_rfl) (fun _ _ _ h => h) (Or.inr ⟨by rfl, rfl⟩) (by assumption) ?_
          try simp only [Act.put, List.getElem_toArray, List.getElem_cons_succ, List.getElem_cons_zero, List.setIfInBounds_toArray, List.set_cons_zero, List.set_cons_succ]
          refine wpAnyH_take (i := 18) (v := undef) rfl (by kernel_rfl) (by kernel_rfl) (by kernel_rfl) (fun _ _ _ h => h) (Or.inr ⟨by rfl, rfl⟩) (by assumption) ?_
          try simp only [Act.put, List.getElem_toArray, List.getElem_cons_succ, List.getElem_cons_zero, List.setIfInBounds_toArray, List.set_cons_zero, List.set_cons_succ]
          refine wpAnyH_take (i := 19) (v := undef) rfl (by kernel_rfl) (by kernel_rfl) (by kernel_rfl) (fun _ _ _ h => h) (Or.inr ⟨by rfl, rfl⟩) (by assumption) ?_
          try simp only [Act.put, List.getElem_toArray, List.getElem_cons_succ, List.getElem_cons_zero, List.setIfInBounds_toArray, List.set_cons_zero, List.set_cons_succ]
          refine wpAnyH_take (i := 20) (v := ?_) rfl (by kernel_rfl) (by kernel_rfl) (by kernel_rfl) (fun _ _ _ h => h) (Or.inl ⟨by rfl, ?_⟩) (by assumption) ?_
          rotate_left
          · (intro w hSw; (try dsimp only at hSw); go_simp; first | done | with_reducible rfl)
          try simp only [Act.put, List.getElem_toArray, List.getElem_cons_succ, List.getElem_cons_zero, List.setIfInBounds_toArray, List.set_cons_zero, List.set_cons_succ]
          refine wpAnyH_take (i := 21) (v := ?_) rfl (by kernel_rfl) (by kernel_rfl) (by kernel_rfl) (fun _ _ _ h => h) (Or.inl ⟨by rfl, ?_⟩) (by assumption) ?_
          rotate_left
          · (intro w hSw; (try dsimp only at hSw); go_simp; first | done | with_reducible rfl)
          try simp only [Act.put, List.getElem_toArray, List.getElem_cons_succ, List.getElem_cons_zero, List.setIfInBounds_toArray, List.set_cons_zero, List.set_cons_succ]
          refine wpAnyH_take (i := 22) (v := undef) rfl (by kernel_rfl) (by kernel_rfl) (by kernel_rfl) (fun _ _ _ h => h) (Or.inr ⟨by rfl, rfl⟩) (by assumption) ?_
          try simp only [Act.put, List.getElem_toArray, List.getElem_cons_succ, List.getElem_cons_zero, List.setIfInBounds_toArray, List.set_cons_zero, List.set_cons_succ]
          refine wpAnyH_take (i := 23) (v := undef) rfl (by kernel_rfl) (by kernel_rfl) (by kernel_rfl) (fun _ _ _ h => h) (Or.inr ⟨by rfl, rfl⟩) (by assumption) ?_
          try simp only [Act.put, List.getElem_toArray, List.getElem_cons_succ, List.getElem_cons_zero, List.setIfInBounds_toArray, List.set_cons_zero, List.set_cons_succ]
          refine wpAnyH_take (i := 24) (v := undef) rfl (by kernel_rfl) (by kernel_rfl) (by kernel_rfl) (fun _ _ _ h => h) (Or.inr ⟨by rfl, rfl⟩) (by assumption) ?_
          try simp only [Act.put, List.getElem_toArray, List.getElem_cons_succ, List.getElem_cons_zero, List.setIfInBounds_toArray, List.set_cons_zero, List.set_cons_succ]
          refine wpAnyH_take (i := 25) (v := undef) rfl (by kernel_rfl) (by kernel_rfl) (by kernel_rfl) (fun _ _ _ h => h) (Or.inr ⟨by rfl, rfl⟩) (by assumption) ?_
          try simp only [Act.put, List.getElem_toArray, List.getElem_cons_succ, List.getElem_cons_zero, List.setIfInBounds_toArray, List.set_cons_zero, List.set_cons_succ]
          refine wpAnyH_take (i := 26) (v := ?_) rfl (by kernel_rfl) (by kernel_rfl) (by kernel_rfl) (fun _ _ _ h => h) (Or.inl ⟨by rfl, ?_⟩) (by assumption) ?_
          rotate_left
          · (intro w hSw; (try dsimp only at hSw); go_simp; first | done | with_reducible rfl)
          try simp only [Act.put, List.getElem_toArray, List.getElem_cons_succ, List.getElem_cons_zero, List.setIfInBounds_toArray, List.set_cons_zero, List.set_cons_succ]
          refine wpAnyH_take (i := 27) (v := ?_) rfl (by kernel_rfl) (by kernel_rfl) (by kernel_rfl) (fun _ _ _ h => h) (Or.inl ⟨by rfl, ?_⟩) (by assumption) ?_
          rotate_left
          · (intro w hSw; (try dsimp only at hSw); go_simp; first | done | with_reducible rfl)
          try simp only [Act.put, List.getElem_toArray, List.getElem_cons_succ, List.getElem_cons_zero, List.setIfInBounds_toArray, List.set_cons_zero, List.set_cons_succ]
          refine wpAnyH_take (i := 28) (v := ?_) rfl (by kernel_rfl) (by kernel_rfl) (by kernel_rfl) (fun _ _ _ h => h) (Or.inl ⟨by rfl, ?_⟩) (by assumption) ?_
          rotate_left
          · (intro w hSw; (try dsimp only at hSw); go_simp; first | done | with_reducible rfl)
          try simp only [Act.put, List.getElem_toArray, List.getElem_cons_succ, List.getElem_cons_zero, List.setIfInBounds_toArray, List.set_cons_zero, List.set_cons_succ]
          refine wpAnyH_take (i := 29) (v := ?_) rfl (by kernel_rfl) (by kernel_rfl) (by kernel_rfl) (fun _ _ _ h => h) (Or.inl ⟨by rfl, ?_⟩) (by assumption) ?_
          rotate_left
          · (intro w hSw; (try dsimp only at hSw); go_simp; first | done | with_reducible rfl)
          try simp only [Act.put, List.getElem_toArray, List.getElem_cons_succ, List.getElem_cons_zero, List.setIfInBounds_toArray, List.set_cons_zero, List.set_cons_succ]
          refine wpAnyH_take (i := 30) (v := ?_) rfl (by kernel_rfl) (by kernel_rfl) (by kernel_rfl) (fun _ _ _ h => h) (Or.inl ⟨by rfl, ?_⟩) (by assumption) ?_
          rotate_left
          · (intro w hSw; (try dsimp only at hSw); go_simp; first | done | with_reducible rfl)
          try simp only [Act.put, List.getElem_toArray, List.getElem_cons_succ, List.getElem_cons_zero, List.setIfInBounds_toArray, List.set_cons_zero, List.set_cons_succ]
          refine wpAnyH_take (i := 31) (v := ?_) rfl (by kernel_rfl) (by kernel_rfl) (by kernel_rfl) (fun _ _ _ h => h) (Or.inl ⟨by rfl, ?_⟩) (by assumption) ?_
          rotate_left
          · (intro w hSw; (try dsimp only at hSw); go_simp; first | done | with_reducible rfl)
          try simp only [Act.put, List.getElem_toArray, List.getElem_cons_succ, List.getElem_cons_zero, List.setIfInBounds_toArray, List.set_cons_zero, List.set_cons_succ]
          refine wpAnyH_take (i := 32) (v := ?_) rfl (by kernel_rfl) (by kernel_rfl) (by kernel_rfl) (fun _ _ _ h => h) (Or.inl ⟨by rfl, ?_⟩) (by assumption) ?_
          rotate_left
          · (intro w hSw; (try dsimp only at hSw); go_simp; first | done | with_reducible rfl)
          try simp only [Act.put, List.getElem_toArray, List.getElem_cons_succ, List.getElem_cons_zero, List.setIfInBounds_toArray, List.set_cons_zero, List.set_cons_succ]
          refine wpAnyH_take (i := 34) (v := ?_) rfl (by kernel_rfl) (by kernel_rfl) (by kernel_rfl) (fun _ _ _ h => h) (Or.inl ⟨by rfl, ?_⟩) (by assumption) ?_
          rotate_left
          · (intro w hSw; (try dsimp only at hSw); go_simp; first | done | with_reducible rfl)
          try simp only [Act.put, List.getElem_toArray, List.getElem_cons_succ, List.getElem_cons_zero, List.setIfInBounds_toArray, List.set_cons_zero, List.set_cons_succ]
          refine wpAnyH_take (i := 35) (v := ?_) rfl (by kernel_rfl) (by kernel_rfl) (by kernel_rfl) (fun _ _ _ h => h) (Or.inl ⟨by rfl, ?_⟩) (by assumption) ?_
          rotate_left
          · (intro w hSw; (try dsimp only at hSw); go_simp; first | done | with_reducible rfl)
          try simp only [Act.put, List.getElem_toArray, List.getElem_cons_succ, List.getElem_cons_zero, List.setIfInBounds_toArray, List.set_cons_zero, List.set_cons_succ]
          refine wpAnyH_ready (rs := [33]) (by kernel_rfl) (by simp) ?_
          refine AllReadyH.cons rfl (fun K hK => ?_) AllReadyH.nil
          simp only [List.getElem_toArray, List.getElem_cons_succ, List.getElem_cons_zero]
          first | (go_at_call 56; (first | (with_reducible refine (h6bc _).mono ?_)); rintro e w1 ⟨rfl, hb⟩; have A := A.step hb rfl; have B := B.step hb rfl; have C := C.step hb rfl; have L := bnext L hb rfl rfl rfl rfl; obtain ⟨a0, a1, a2, _, _, _⟩ := A.cells; obtain ⟨b0, b1, b2, _, _, _⟩ := B.cells; obtain ⟨c0, c1, c2, _, _, _⟩ := C.cells; clear hb) | (go_simp; (go_at_call 56; (first | (with_reducible refine (h6bc _).mono ?_)); rintro e w1 ⟨rfl, hb⟩; have A := A.step hb rfl; have B := B.step hb rfl; have C := C.step hb rfl; have L := bnext L hb rfl rfl rfl rfl; obtain ⟨a0, a1, a2, _, _, _⟩ := A.cells; obtain ⟨b0, b1, b2, _, _, _⟩ := B.cells; obtain ⟨c0, c1, c2, _, _, _⟩ := C.cells; clear hb))
          try go_wp2_with fail
          refine hK.out _ _ ?_ (fun hHeld4 => ?_)
          · (try dsimp only); (first | exact ⟨a0, a1, a2, b0, b1, b2, c0, c1, c2⟩ | go_keep)
          clear hK K hHeld3
          try simp only [Act.put, List.getElem_toArray, List.getElem_cons_succ, List.getElem_cons_zero, List.setIfInBounds_toArray, List.set_cons_zero, List.set_cons_succ]
          refine wpAnyH_ready (rs := [36]) (by kernel_rfl) (by simp) ?_
          refine AllReadyH.cons rfl (fun K hK => ?_) AllReadyH.nil
          simp only [List.getElem_toArray, List.getElem_cons_succ, List.getElem_cons_zero]
          first | (go_at_call 56; (first | (with_reducible refine (h6ac _).mono ?_)); rintro e w1 ⟨rfl, hb⟩; have A := A.step hb rfl; have B := B.step hb rfl; have C := C.step hb rfl; have L := bnext L hb rfl rfl rfl rfl; obtain ⟨a0, a1, a2, _, _, _⟩ := A.cells; obtain ⟨b0, b1, b2, _, _, _⟩ := B.cells; obtain ⟨c0, c1, c2, _, _, _⟩ := C.cells; clear hb) | (go_simp; (go_at_call 56; (first | (with_reducible refine (h6ac _).mono ?_)); rintro e w1 ⟨rfl, hb⟩; have A := A.step hb rfl; have B := B.step hb rfl; have C := C.step hb rfl; have L := bnext L hb rfl rfl rfl rfl; obtain ⟨a0, a1, a2, _, _, _⟩ := A.cells; obtain ⟨b0, b1, b2, _, _, _⟩ := B.cells; obtain ⟨c0, c1, c2, _, _, _⟩ := C.cells; clear hb))
          try go_wp2_with fail
          refine hK.out _ _ ?_ (fun hHeld5 => ?_)
          · (try dsimp only); (first | exact ⟨a0, a1, a2, b0, b1, b2, c0, c1, c2⟩ | go_keep)
          clear hK K hHeld4
          try simp only [Act.put, List.getElem_toArray, List.getElem_cons_succ, List.getElem_cons_zero, List.setIfInBounds_toArray, List.set_cons_zero, List.set_cons_succ]
          refine wpAnyH_take (i := 37) (v := ?_) rfl (by kernel_rfl) (by kernel_rfl) (by kernel_rfl) (fun _ _ _ h => h) (Or.inl ⟨by rfl, ?_⟩) (by assumption) ?_
          rotate_left
          · (intro w hSw; (try dsimp only at hSw); go_simp; first | done | with_reducible rfl)
          try simp only [Act.put, List.getElem_toArray, List.getElem_cons_succ, List.getElem_cons_zero, List.setIfInBounds_toArray, List.set_cons_zero, List.set_cons_succ]
          refine wpAnyH_take (i := 38) (v := ?_) rfl (by kernel_rfl) (by kernel_rfl) (by kernel_rfl) (fun _ _ _ h => h) (Or.inl ⟨by rfl, ?_⟩) (by assumption) ?_
          rotate_left
          · (intro w hSw; (try dsimp only at hSw); go_simp; first | done | with_reducible rfl)
          try simp only [Act.put, List.getElem_toArray, List.getElem_cons_succ, List.getElem_cons_zero, List.setIfInBounds_toArray, List.set_cons_zero, List.set_cons_succ]
          refine wpAnyH_take (i := 39) (v := ?_) rfl (by kernel_rfl) (by kernel_rfl) (by kernel_rfl) (fun _ _ _ h => h) (Or.inl ⟨by rfl, ?_⟩) (by assumption) ?_
          rotate_left
          · (intro w hSw; (try dsimp only at hSw); go_simp; first | done | with_reducible rfl)
          try simp only [Act.put, List.getElem_toArray, List.getElem_cons_succ, List.getElem_cons_zero, List.setIfInBounds_toArray, List.set_cons_zero, List.set_cons_succ]
          refine wpAnyH_done (by kernel_rfl) ?_ _
          go_wp2_with fail
          go_meet
          exact ⟨by first | rfl | (simp; simpa using hne), A, B, C, L⟩
        case rest =>
          obtain ⟨rfl, A, B, C, L⟩ := hcut
          obtain ⟨a0, a1, a2, _, _, _⟩ := A.cells
          obtain ⟨b0, b1, b2, _, _, _⟩ := B.cells
          obtain ⟨c0, c1, c2, _, _, _⟩ := C.cells
          go_wp2_with fail
          refine (h6aa _).mono ?_
          rintro e wn ⟨rfl, hb⟩
          have L := bnext L hb rfl rfl rfl rfl
          have A := A.step hb rfl
          have B := B.step hb rfl
          have C := C.step hb rfl
          clear hb
          obtain ⟨a0, a1, a2, _, _, _⟩ := A.cells
          obtain ⟨b0, b1, b2, _, _, _⟩ := B.cells
          obtain ⟨c0, c1, c2, _, _, _⟩ := C.cells
          go_wp2_with fail
          refine (lawAwake_calls _).mono ?_
          rintro e wn ⟨rfl, hb⟩
          have L := bnext L hb rfl rfl rfl rfl
          have A := A.step hb rfl
          have B := B.step hb rfl
          have C := C.step hb rfl
          clear hb
          obtain ⟨a0, a1, a2, _, _, _⟩ := A.cells
          obtain ⟨b0, b1, b2, _, _, _⟩ := B.cells
          obtain ⟨c0, c1, c2, _, _, _⟩ := C.cells
          go_wp2
          go_ret
          exact ⟨by first | rfl | simp, ⟨L.os, L.tape, L.output, L.size, L.block⟩⟩
end Go.Proofs.Ytieddikacnmhlaa


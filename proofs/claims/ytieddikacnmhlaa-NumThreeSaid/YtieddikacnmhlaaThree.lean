/- Just one of less, the same, greater; less and the same lead on, across whole numbers and doubles. -/
import Derived.Test.YtieddikacnmhlaaT
import Derived.Test.YtieddikacnmhlaaTh
import Derived.Deep.DeepCutAuto
import Derived.Deep.RegionHeld3
namespace Go.Proofs.Ytieddikacnmhlaa
open Go.RowKit
set_option linter.unusedVariables false

theorem boxesABC (w : World) (a b c : Bool) (i u j v k x : Int) :
    Box (((w.alloc (.cells #[.bool a, .int .i64 i, .int .u64 u] 42)).alloc (.cells #[.bool b, .int .i64 j, .int .u64 v] 42)).alloc (.cells #[.bool c, .int .i64 k, .int .u64 x] 42)) w.heap.size a i u ∧
    Box (((w.alloc (.cells #[.bool a, .int .i64 i, .int .u64 u] 42)).alloc (.cells #[.bool b, .int .i64 j, .int .u64 v] 42)).alloc (.cells #[.bool c, .int .i64 k, .int .u64 x] 42)) (w.heap.size + 1) b j v ∧
    Box (((w.alloc (.cells #[.bool a, .int .i64 i, .int .u64 u] 42)).alloc (.cells #[.bool b, .int .i64 j, .int .u64 v] 42)).alloc (.cells #[.bool c, .int .i64 k, .int .u64 x] 42)) (w.heap.size + 2) c k x := by
  obtain ⟨A, B⟩ := boxes2 w a b i u j v
  refine ⟨A.alloc _, B.alloc _, ?_⟩
  have h := Box.new ((w.alloc (.cells #[.bool a, .int .i64 i, .int .u64 u] 42)).alloc (.cells #[.bool b, .int .i64 j, .int .u64 v] 42)) c k x
  rw [alloc_size, alloc_size] at h
  exact h
set_option maxRecDepth 100000 in
set_option maxHeartbeats 6400000 in
theorem numThree_nan1 (p q r : Bool) (i u j v k x : Int) (w : World)
    (hl : ∀ w, Calls Try.prog 52 #[numV p i u, numV q j v] w fun e w' => e = .returned (.bool false) ∧ Below w.heap.size w w')
    (hs : ∀ w, Calls Try.prog 56 #[numV p i u, numV q j v] w fun e w' => e = .returned (.bool false) ∧ Below w.heap.size w w')
    (hm : ∀ w, Calls Try.prog 52 #[numV q j v, numV p i u] w fun e w' => e = .returned (.bool false) ∧ Below w.heap.size w w')
    (h54 : ∀ w, Calls Try.prog 54 #[numV p i u, numV q j v] w fun e w' => e = .returned (.bool false) ∧ Below w.heap.size w w')
    (h45 : ∀ w, Calls Try.prog 54 #[numV q j v, numV p i u] w fun e w' => e = .returned (.bool false) ∧ Below w.heap.size w w')
    (hna : ∀ w, Calls Try.prog 59 #[numV p i u] w fun e w' => e = .returned (.bool true) ∧ Below w.heap.size w w') :
    Calls Try.prog 13 #[numV p i u, numV q j v, numV r k x] w fun e w' => e = .returned (.bool true) ∧ Below w.heap.size w w' := by
  obtain ⟨A, B, C⟩ := boxesABC w p q r i u j v k x
  have L := lay3 w (.cells #[.bool p, .int .i64 i, .int .u64 u] 42) (.cells #[.bool q, .int .i64 j, .int .u64 v] 42) (.cells #[.bool r, .int .i64 k, .int .u64 x] 42)
  obtain ⟨a0, a1, a2, _, _, _⟩ := A.cells
  obtain ⟨b0, b1, b2, _, _, _⟩ := B.cells
  obtain ⟨c0, c1, c2, _, _, _⟩ := C.cells
  go_enter Try.func13, Try.ntmps13
  go_upto_region 1 with fail
  go_cut [7, 8, 9] (fun s7 s8 s9 wx => s7 = .bool false ∧ s8 = .bool false ∧ s9 = .bool false ∧ Box wx w.heap.size p i u ∧ Box wx (w.heap.size + 1) q j v ∧ Box wx (w.heap.size + 2) r k x ∧ Below w.heap.size w wx)
  case first =>
    go_region_held3 (fun w' => w'.cell? ⟨w.heap.size, 0, none⟩ = some (.bool p) ∧ w'.cell? ⟨w.heap.size, 1, none⟩ = some (.int .i64 i) ∧ w'.cell? ⟨w.heap.size, 2, none⟩ = some (.int .u64 u) ∧ w'.cell? ⟨w.heap.size + 1, 0, none⟩ = some (.bool q) ∧ w'.cell? ⟨w.heap.size + 1, 1, none⟩ = some (.int .i64 j) ∧ w'.cell? ⟨w.heap.size + 1, 2, none⟩ = some (.int .u64 v) ∧ w'.cell? ⟨w.heap.size + 2, 0, none⟩ = some (.bool r) ∧ w'.cell? ⟨w.heap.size + 2, 1, none⟩ = some (.int .i64 k) ∧ w'.cell? ⟨w.heap.size + 2, 2, none⟩ = some (.int .u64 x)) (first | exact ⟨a0, a1, a2, b0, b1, b2, c0, c1, c2⟩ | go_keep) (first | (go_at_call 52; (first | (with_reducible refine (hl _).mono ?_) | (with_reducible refine (hm _).mono ?_)); rintro e w1 ⟨rfl, hb⟩; have A := A.step hb rfl; have B := B.step hb rfl; have C := C.step hb rfl; have L := bnext L hb rfl rfl rfl rfl; obtain ⟨a0, a1, a2, _, _, _⟩ := A.cells; obtain ⟨b0, b1, b2, _, _, _⟩ := B.cells; obtain ⟨c0, c1, c2, _, _, _⟩ := C.cells; clear hb) | (go_at_call 56; (first | (with_reducible refine (hs _).mono ?_)); rintro e w1 ⟨rfl, hb⟩; have A := A.step hb rfl; have B := B.step hb rfl; have C := C.step hb rfl; have L := bnext L hb rfl rfl rfl rfl; obtain ⟨a0, a1, a2, _, _, _⟩ := A.cells; obtain ⟨b0, b1, b2, _, _, _⟩ := B.cells; obtain ⟨c0, c1, c2, _, _, _⟩ := C.cells; clear hb))
    all_goals (go_wp2_with fail; go_meet; exact ⟨rfl, rfl, rfl, A, B, C, L⟩)
  case rest =>
    obtain ⟨rfl, rfl, rfl, A, B, C, L⟩ := hcut
    obtain ⟨a0, a1, a2, _, _, _⟩ := A.cells
    obtain ⟨b0, b1, b2, _, _, _⟩ := B.cells
    obtain ⟨c0, c1, c2, _, _, _⟩ := C.cells
    go_wp2_with fail
    refine (hna _).mono ?_
    rintro e wn ⟨rfl, hb⟩
    have L := bnext L hb rfl rfl rfl rfl
    have A := A.step hb rfl
    have B := B.step hb rfl
    have C := C.step hb rfl
    clear hb
    obtain ⟨a0, a1, a2, _, _, _⟩ := A.cells
    obtain ⟨b0, b1, b2, _, _, _⟩ := B.cells
    obtain ⟨c0, c1, c2, _, _, _⟩ := C.cells
    go_wp2_with fail
    refine (h54 _).mono ?_
    rintro e wn ⟨rfl, hb⟩
    have L := bnext L hb rfl rfl rfl rfl
    have A := A.step hb rfl
    have B := B.step hb rfl
    have C := C.step hb rfl
    clear hb
    obtain ⟨a0, a1, a2, _, _, _⟩ := A.cells
    obtain ⟨b0, b1, b2, _, _, _⟩ := B.cells
    obtain ⟨c0, c1, c2, _, _, _⟩ := C.cells
    go_wp2_with fail
    refine (h45 _).mono ?_
    rintro e wn ⟨rfl, hb⟩
    have L := bnext L hb rfl rfl rfl rfl
    have A := A.step hb rfl
    have B := B.step hb rfl
    have C := C.step hb rfl
    clear hb
    obtain ⟨a0, a1, a2, _, _, _⟩ := A.cells
    obtain ⟨b0, b1, b2, _, _, _⟩ := B.cells
    obtain ⟨c0, c1, c2, _, _, _⟩ := C.cells
    go_wp2_with fail
    refine (lawAwake_calls _).mono ?_
    rintro e wn ⟨rfl, hb⟩
    have L := bnext L hb rfl rfl rfl rfl
    have A := A.step hb rfl
    have B := B.step hb rfl
    have C := C.step hb rfl
    clear hb
    obtain ⟨a0, a1, a2, _, _, _⟩ := A.cells
    obtain ⟨b0, b1, b2, _, _, _⟩ := B.cells
    obtain ⟨c0, c1, c2, _, _, _⟩ := C.cells
    go_wp2
    go_ret
    exact ⟨by first | rfl | simp, ⟨L.os, L.tape, L.output, L.size, L.block⟩⟩
set_option maxRecDepth 100000 in
set_option maxHeartbeats 6400000 in
theorem numThree_nan2 (p q r : Bool) (i u j v k x : Int) (w : World)
    (hl : ∀ w, Calls Try.prog 52 #[numV p i u, numV q j v] w fun e w' => e = .returned (.bool false) ∧ Below w.heap.size w w')
    (hs : ∀ w, Calls Try.prog 56 #[numV p i u, numV q j v] w fun e w' => e = .returned (.bool false) ∧ Below w.heap.size w w')
    (hm : ∀ w, Calls Try.prog 52 #[numV q j v, numV p i u] w fun e w' => e = .returned (.bool false) ∧ Below w.heap.size w w')
    (h54 : ∀ w, Calls Try.prog 54 #[numV p i u, numV q j v] w fun e w' => e = .returned (.bool false) ∧ Below w.heap.size w w')
    (h45 : ∀ w, Calls Try.prog 54 #[numV q j v, numV p i u] w fun e w' => e = .returned (.bool false) ∧ Below w.heap.size w w')
    (hna : ∀ w, Calls Try.prog 59 #[numV p i u] w fun e w' => e = .returned (.bool false) ∧ Below w.heap.size w w')
    (hnb : ∀ w, Calls Try.prog 59 #[numV q j v] w fun e w' => e = .returned (.bool true) ∧ Below w.heap.size w w') :
    Calls Try.prog 13 #[numV p i u, numV q j v, numV r k x] w fun e w' => e = .returned (.bool true) ∧ Below w.heap.size w w' := by
  obtain ⟨A, B, C⟩ := boxesABC w p q r i u j v k x
  have L := lay3 w (.cells #[.bool p, .int .i64 i, .int .u64 u] 42) (.cells #[.bool q, .int .i64 j, .int .u64 v] 42) (.cells #[.bool r, .int .i64 k, .int .u64 x] 42)
  obtain ⟨a0, a1, a2, _, _, _⟩ := A.cells
  obtain ⟨b0, b1, b2, _, _, _⟩ := B.cells
  obtain ⟨c0, c1, c2, _, _, _⟩ := C.cells
  go_enter Try.func13, Try.ntmps13
  go_upto_region 1 with fail
  go_cut [7, 8, 9] (fun s7 s8 s9 wx => s7 = .bool false ∧ s8 = .bool false ∧ s9 = .bool false ∧ Box wx w.heap.size p i u ∧ Box wx (w.heap.size + 1) q j v ∧ Box wx (w.heap.size + 2) r k x ∧ Below w.heap.size w wx)
  case first =>
    go_region_held3 (fun w' => w'.cell? ⟨w.heap.size, 0, none⟩ = some (.bool p) ∧ w'.cell? ⟨w.heap.size, 1, none⟩ = some (.int .i64 i) ∧ w'.cell? ⟨w.heap.size, 2, none⟩ = some (.int .u64 u) ∧ w'.cell? ⟨w.heap.size + 1, 0, none⟩ = some (.bool q) ∧ w'.cell? ⟨w.heap.size + 1, 1, none⟩ = some (.int .i64 j) ∧ w'.cell? ⟨w.heap.size + 1, 2, none⟩ = some (.int .u64 v) ∧ w'.cell? ⟨w.heap.size + 2, 0, none⟩ = some (.bool r) ∧ w'.cell? ⟨w.heap.size + 2, 1, none⟩ = some (.int .i64 k) ∧ w'.cell? ⟨w.heap.size + 2, 2, none⟩ = some (.int .u64 x)) (first | exact ⟨a0, a1, a2, b0, b1, b2, c0, c1, c2⟩ | go_keep) (first | (go_at_call 52; (first | (with_reducible refine (hl _).mono ?_) | (with_reducible refine (hm _).mono ?_)); rintro e w1 ⟨rfl, hb⟩; have A := A.step hb rfl; have B := B.step hb rfl; have C := C.step hb rfl; have L := bnext L hb rfl rfl rfl rfl; obtain ⟨a0, a1, a2, _, _, _⟩ := A.cells; obtain ⟨b0, b1, b2, _, _, _⟩ := B.cells; obtain ⟨c0, c1, c2, _, _, _⟩ := C.cells; clear hb) | (go_at_call 56; (first | (with_reducible refine (hs _).mono ?_)); rintro e w1 ⟨rfl, hb⟩; have A := A.step hb rfl; have B := B.step hb rfl; have C := C.step hb rfl; have L := bnext L hb rfl rfl rfl rfl; obtain ⟨a0, a1, a2, _, _, _⟩ := A.cells; obtain ⟨b0, b1, b2, _, _, _⟩ := B.cells; obtain ⟨c0, c1, c2, _, _, _⟩ := C.cells; clear hb))
    all_goals (go_wp2_with fail; go_meet; exact ⟨rfl, rfl, rfl, A, B, C, L⟩)
  case rest =>
    obtain ⟨rfl, rfl, rfl, A, B, C, L⟩ := hcut
    obtain ⟨a0, a1, a2, _, _, _⟩ := A.cells
    obtain ⟨b0, b1, b2, _, _, _⟩ := B.cells
    obtain ⟨c0, c1, c2, _, _, _⟩ := C.cells
    go_wp2_with fail
    refine (hna _).mono ?_
    rintro e wn ⟨rfl, hb⟩
    have L := bnext L hb rfl rfl rfl rfl
    have A := A.step hb rfl
    have B := B.step hb rfl
    have C := C.step hb rfl
    clear hb
    obtain ⟨a0, a1, a2, _, _, _⟩ := A.cells
    obtain ⟨b0, b1, b2, _, _, _⟩ := B.cells
    obtain ⟨c0, c1, c2, _, _, _⟩ := C.cells
    go_wp2_with fail
    refine (hnb _).mono ?_
    rintro e wn ⟨rfl, hb⟩
    have L := bnext L hb rfl rfl rfl rfl
    have A := A.step hb rfl
    have B := B.step hb rfl
    have C := C.step hb rfl
    clear hb
    obtain ⟨a0, a1, a2, _, _, _⟩ := A.cells
    obtain ⟨b0, b1, b2, _, _, _⟩ := B.cells
    obtain ⟨c0, c1, c2, _, _, _⟩ := C.cells
    go_wp2_with fail
    refine (h54 _).mono ?_
    rintro e wn ⟨rfl, hb⟩
    have L := bnext L hb rfl rfl rfl rfl
    have A := A.step hb rfl
    have B := B.step hb rfl
    have C := C.step hb rfl
    clear hb
    obtain ⟨a0, a1, a2, _, _, _⟩ := A.cells
    obtain ⟨b0, b1, b2, _, _, _⟩ := B.cells
    obtain ⟨c0, c1, c2, _, _, _⟩ := C.cells
    go_wp2_with fail
    refine (h45 _).mono ?_
    rintro e wn ⟨rfl, hb⟩
    have L := bnext L hb rfl rfl rfl rfl
    have A := A.step hb rfl
    have B := B.step hb rfl
    have C := C.step hb rfl
    clear hb
    obtain ⟨a0, a1, a2, _, _, _⟩ := A.cells
    obtain ⟨b0, b1, b2, _, _, _⟩ := B.cells
    obtain ⟨c0, c1, c2, _, _, _⟩ := C.cells
    go_wp2_with fail
    refine (lawAwake_calls _).mono ?_
    rintro e wn ⟨rfl, hb⟩
    have L := bnext L hb rfl rfl rfl rfl
    have A := A.step hb rfl
    have B := B.step hb rfl
    have C := C.step hb rfl
    clear hb
    obtain ⟨a0, a1, a2, _, _, _⟩ := A.cells
    obtain ⟨b0, b1, b2, _, _, _⟩ := B.cells
    obtain ⟨c0, c1, c2, _, _, _⟩ := C.cells
    go_wp2
    go_ret
    exact ⟨by first | rfl | simp, ⟨L.os, L.tape, L.output, L.size, L.block⟩⟩
end Go.Proofs.Ytieddikacnmhlaa

/- The order of any two numbers answers as the document says. -/
import Derived.Test.YtieddikacnmhlaaT
import Derived.Test.YtieddikacnmhlaaU
import Derived.Deep.RegionHeld3
namespace Go.Proofs.Ytieddikacnmhlaa
open Go.RowKit

set_option maxRecDepth 100000 in
set_option maxHeartbeats 6400000 in
theorem numOrders_of (p q : Bool) (i u j v : Int) (x y z : Bool) (w : World)
    (h52 : ∀ w, Calls Try.prog 52 #[numV p i u, numV q j v] w fun e w' => e = .returned (.bool x) ∧ Below w.heap.size w w')
    (h53 : ∀ w, Calls Try.prog 53 #[numV p i u, numV q j v] w fun e w' => e = .returned (.bool x) ∧ Below w.heap.size w w')
    (h54 : ∀ w, Calls Try.prog 54 #[numV p i u, numV q j v] w fun e w' => e = .returned (.bool y) ∧ Below w.heap.size w w')
    (h55 : ∀ w, Calls Try.prog 55 #[numV p i u, numV q j v] w fun e w' => e = .returned (.bool y) ∧ Below w.heap.size w w')
    (h56 : ∀ w, Calls Try.prog 56 #[numV p i u, numV q j v] w fun e w' => e = .returned (.bool z) ∧ Below w.heap.size w w')
    (h57 : ∀ w, Calls Try.prog 57 #[numV p i u, numV q j v] w fun e w' => e = .returned (.bool z) ∧ Below w.heap.size w w') :
    Calls Try.prog 12 #[numV p i u, numV q j v] w fun e w' => e = .returned (.bool true) ∧ Below w.heap.size w w' := by
  have ex : (x == x) = true := beq_self_eq_true x
  have ey : (y == y) = true := beq_self_eq_true y
  have ez : (z == z) = true := beq_self_eq_true z
  obtain ⟨A, B⟩ := boxes2 w p q i u j v
  have L := lay2 w (.cells #[.bool p, .int .i64 i, .int .u64 u] 42) (.cells #[.bool q, .int .i64 j, .int .u64 v] 42)
  obtain ⟨a0, a1, a2, _, _, _⟩ := A.cells
  obtain ⟨b0, b1, b2, _, _, _⟩ := B.cells
  go_enter Try.func12, Try.ntmps12
  go_wp2_with fail
  go_region_held3 (fun w' => w'.cell? ⟨w.heap.size, 0, none⟩ = some (.bool p) ∧ w'.cell? ⟨w.heap.size, 1, none⟩ = some (.int .i64 i) ∧ w'.cell? ⟨w.heap.size, 2, none⟩ = some (.int .u64 u) ∧ w'.cell? ⟨w.heap.size + 1, 0, none⟩ = some (.bool q) ∧ w'.cell? ⟨w.heap.size + 1, 1, none⟩ = some (.int .i64 j) ∧ w'.cell? ⟨w.heap.size + 1, 2, none⟩ = some (.int .u64 v)) (first | exact ⟨a0, a1, a2, b0, b1, b2⟩ | go_keep) (first | (go_at_call 52; refine (h52 _).mono ?_; rintro e w1 ⟨rfl, hb⟩; have A := A.step hb rfl; have B := B.step hb rfl; have L := bnext L hb rfl rfl rfl rfl; obtain ⟨a0, a1, a2, _, _, _⟩ := A.cells; obtain ⟨b0, b1, b2, _, _, _⟩ := B.cells; clear hb) | (go_at_call 53; refine (h53 _).mono ?_; rintro e w1 ⟨rfl, hb⟩; have A := A.step hb rfl; have B := B.step hb rfl; have L := bnext L hb rfl rfl rfl rfl; obtain ⟨a0, a1, a2, _, _, _⟩ := A.cells; obtain ⟨b0, b1, b2, _, _, _⟩ := B.cells; clear hb) | (go_at_call 54; refine (h54 _).mono ?_; rintro e w1 ⟨rfl, hb⟩; have A := A.step hb rfl; have B := B.step hb rfl; have L := bnext L hb rfl rfl rfl rfl; obtain ⟨a0, a1, a2, _, _, _⟩ := A.cells; obtain ⟨b0, b1, b2, _, _, _⟩ := B.cells; clear hb) | (go_at_call 55; refine (h55 _).mono ?_; rintro e w1 ⟨rfl, hb⟩; have A := A.step hb rfl; have B := B.step hb rfl; have L := bnext L hb rfl rfl rfl rfl; obtain ⟨a0, a1, a2, _, _, _⟩ := A.cells; obtain ⟨b0, b1, b2, _, _, _⟩ := B.cells; clear hb) | (go_at_call 56; refine (h56 _).mono ?_; rintro e w1 ⟨rfl, hb⟩; have A := A.step hb rfl; have B := B.step hb rfl; have L := bnext L hb rfl rfl rfl rfl; obtain ⟨a0, a1, a2, _, _, _⟩ := A.cells; obtain ⟨b0, b1, b2, _, _, _⟩ := B.cells; clear hb) | (go_at_call 57; refine (h57 _).mono ?_; rintro e w1 ⟨rfl, hb⟩; have A := A.step hb rfl; have B := B.step hb rfl; have L := bnext L hb rfl rfl rfl rfl; obtain ⟨a0, a1, a2, _, _, _⟩ := A.cells; obtain ⟨b0, b1, b2, _, _, _⟩ := B.cells; clear hb) | (go_at_call 58; refine (lawAwake_calls _).mono ?_; rintro e w1 ⟨rfl, hb⟩; have A := A.step hb rfl; have B := B.step hb rfl; have L := bnext L hb rfl rfl rfl rfl; obtain ⟨a0, a1, a2, _, _, _⟩ := A.cells; obtain ⟨b0, b1, b2, _, _, _⟩ := B.cells; clear hb))
  all_goals
    go_wp2
    go_ret
    exact ⟨by first | rfl | simp, ⟨L.os, L.tape, L.output, L.size, L.block⟩⟩
theorem numOrders_walk (p : Bool) (i u : Int) (q : Bool) (j v : Int) (w : World) (wi : (Lit.int .i64 i).wf = true) (wu : (Lit.int .u64 u).wf = true) (wj : (Lit.int .i64 j).wf = true) (wv : (Lit.int .u64 v).wf = true) :
    Calls Try.prog 12 #[numV p i u, numV q j v] w fun e w' => e = .returned (.bool true) ∧ Below w.heap.size w w' := by
  have hi : fits i := i64_range wi
  have hj : fits j := i64_range wj
  exact numOrders_of p q i u j v _ _ _ w (numLess_calls p q i u j v hi hj) (refLess_num p q i u j v hi hj (u64_range wu) (u64_range wv))
    (numLessEq_calls p q i u j v hi hj) (refLessEq_num p q i u j v hi hj (u64_range wu) (u64_range wv))
    (numEqual_calls p q i u j v hi hj) (refEqual_num p q i u j v hi hj (u64_range wu) (u64_range wv))
end Go.Proofs.Ytieddikacnmhlaa

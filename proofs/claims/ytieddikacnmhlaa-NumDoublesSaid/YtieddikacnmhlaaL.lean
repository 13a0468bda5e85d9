/- num.done at each of its operations: of two whole numbers, and of numbers one of which is a double. -/
import Derived.Test.YtieddikacnmhlaaK
namespace Go.Proofs.Ytieddikacnmhlaa
open Go.RowKit

theorem bnext {w V W W' : World} (L : Below w.heap.size w V) (hb : Below W.heap.size W W') (e : V.heap = W.heap) (e2 : V.os = W.os) (e3 : V.tape = W.tape) (e4 : V.output = W.output) : Below w.heap.size w W' := by
  have hs : w.heap.size ≤ W.heap.size := by rw [← e]; exact L.size
  have L2 : Below w.heap.size w W := ⟨e2 ▸ L.os, e3 ▸ L.tape, e4 ▸ L.output, hs, fun k hk => by rw [← e]; exact L.block k hk⟩
  exact L2.trans (hb.mono hs)
theorem both_tt (i u j v : Int) (w : World) : Calls Try.prog 114 #[numV true i u, numV true j v] w fun e w' => e = .returned (.int .i64 0) ∧ Below w.heap.size w w' := both_calls true true i u j v w
theorem both_ff (i u j v : Int) (w : World) : Calls Try.prog 114 #[numV false i u, numV false j v] w fun e w' => e = .returned (.int .i64 1) ∧ Below w.heap.size w w' := both_calls false false i u j v w
theorem both_tf (i u j v : Int) (w : World) : Calls Try.prog 114 #[numV true i u, numV false j v] w fun e w' => e = .returned (.int .i64 2) ∧ Below w.heap.size w w' := both_calls true false i u j v w
theorem both_ft (i u j v : Int) (w : World) : Calls Try.prog 114 #[numV false i u, numV true j v] w fun e w' => e = .returned (.int .i64 2) ∧ Below w.heap.size w w' := both_calls false true i u j v w
theorem lay3 (w : World) (a b c : Obj) : Below w.heap.size w (((w.alloc a).alloc b).alloc c) :=
  ((balloc (balloc (balloc (Below.refl _ w) (Nat.le_refl _) a) (by rw [alloc_size]; omega) b) (by rw [alloc_size, alloc_size]; omega) c))
theorem lay2 (w : World) (a b : Obj) : Below w.heap.size w ((w.alloc a).alloc b) :=
  (balloc (balloc (Below.refl _ w) (Nat.le_refl _) a) (by rw [alloc_size]; omega) b)
theorem lay1 (w : World) (a : Obj) : Below w.heap.size w (w.alloc a) := balloc (Below.refl _ w) (Nat.le_refl _) a
theorem set3 {w W : World} (L : Below w.heap.size w W) (k : Nat) (x y z : Value) :
    Below w.heap.size w (((W.setCell ⟨w.heap.size + k, 0, none⟩ x).setCell ⟨w.heap.size + k, 1, none⟩ y).setCell ⟨w.heap.size + k, 2, none⟩ z) :=
  ((L.setCell (by simp) x).setCell (by simp) y).setCell (by simp) z
end Go.Proofs.Ytieddikacnmhlaa

/- Two numbers that were handed over, and the place of the answer, in memory; what a call leaves of them. -/
import Derived.Test.YtieddikacnmhlaaJ
import Derived.Deep.RegionWith
namespace Go.Proofs.Ytieddikacnmhlaa
open Go.RowKit

/-- Block g of W holds the number b, i, u. -/
def Box (W : World) (g : Nat) (b : Bool) (i u : Int) : Prop := W.heap[g]? = some (.cells #[.bool b, .int .i64 i, .int .u64 u] 42 (0, 0))
theorem Box.lt {W : World} {g : Nat} {b : Bool} {i u : Int} (h : Box W g b i u) : g < W.heap.size := (Array.getElem?_eq_some_iff.1 h).1
theorem Box.below {W W' : World} {g : Nat} {b : Bool} {i u : Int} (h : Box W g b i u) (hb : Below W.heap.size W W') : Box W' g b i u :=
  (hb.block g h.lt).trans h
theorem Box.draw {W : World} {g : Nat} {b : Bool} {i u : Int} (h : Box W g b i u) (n : Nat) : Box (W.drewN n) g b i u := h
theorem Box.drew {W : World} {g : Nat} {b : Bool} {i u : Int} (h : Box W g b i u) : Box W.drew g b i u := h
theorem Box.alloc {W : World} {g : Nat} {b : Bool} {i u : Int} (h : Box W g b i u) (o : Obj) : Box (W.alloc o) g b i u := by
  have hl := h.lt
  unfold Box at *
  rw [← h]
  show (W.heap.push o)[g]? = _
  rw [Array.getElem?_push_lt hl]
  exact (Array.getElem?_eq_getElem hl).symm
theorem Box.new (W : World) (b : Bool) (i u : Int) : Box (W.alloc (.cells #[.bool b, .int .i64 i, .int .u64 u] 42)) W.heap.size b i u := by
  show (W.heap.push _)[W.heap.size]? = _
  rw [Array.getElem?_push_size]
theorem Box.cells {W : World} {g : Nat} {b : Bool} {i u : Int} (h : Box W g b i u) :
    W.cell? ⟨g, 0, none⟩ = some (.bool b) ∧ W.cell? ⟨g, 1, none⟩ = some (.int .i64 i) ∧ W.cell? ⟨g, 2, none⟩ = some (.int .u64 u) ∧
    W.frozen? ⟨g, 0, none⟩ = false ∧ W.frozen? ⟨g, 1, none⟩ = false ∧ W.frozen? ⟨g, 2, none⟩ = false := by
  unfold Box at h
  refine ⟨?_, ?_, ?_, ?_, ?_, ?_⟩
  · exact (cell_of_row W g 0 _ 42 (0, 0) h).trans rfl
  · exact (cell_of_row W g 1 _ 42 (0, 0) h).trans rfl
  · exact (cell_of_row W g 2 _ 42 (0, 0) h).trans rfl
  · simp [World.frozen?, h]
  · simp [World.frozen?, h]
  · simp [World.frozen?, h]
theorem alloc_size (w : World) (o : Obj) : (w.alloc o).heap.size = w.heap.size + 1 := by
  show (w.heap.push o).size = _
  rw [Array.size_push]
theorem Box.step {V W W' : World} {g : Nat} {b : Bool} {i u : Int} (h : Box V g b i u) (hb : Below W.heap.size W W') (e : V.heap = W.heap) : Box W' g b i u :=
  Box.below (W := W) (by unfold Box at *; rw [← e]; exact h) hb
theorem boxes1 (w : World) (a : Bool) (i u : Int) : Box (w.alloc (.cells #[.bool a, .int .i64 i, .int .u64 u] 42)) w.heap.size a i u := Box.new w a i u
theorem boxes2 (w : World) (a b : Bool) (i u j v : Int) :
    Box ((w.alloc (.cells #[.bool a, .int .i64 i, .int .u64 u] 42)).alloc (.cells #[.bool b, .int .i64 j, .int .u64 v] 42)) w.heap.size a i u ∧
    Box ((w.alloc (.cells #[.bool a, .int .i64 i, .int .u64 u] 42)).alloc (.cells #[.bool b, .int .i64 j, .int .u64 v] 42)) (w.heap.size + 1) b j v := by
  refine ⟨(Box.new w a i u).alloc _, ?_⟩
  have := Box.new (w.alloc (.cells #[.bool a, .int .i64 i, .int .u64 u] 42)) b j v
  rw [alloc_size] at this
  exact this
theorem boxes3 (w : World) (a b : Bool) (i u j v : Int) :
    Box (((w.alloc (.cells #[.bool a, .int .i64 i, .int .u64 u] 42)).alloc (.cells #[.bool b, .int .i64 j, .int .u64 v] 42)).alloc (.cells #[.bool false, .int .i64 0, .int .u64 0] 42)) w.heap.size a i u ∧
    Box (((w.alloc (.cells #[.bool a, .int .i64 i, .int .u64 u] 42)).alloc (.cells #[.bool b, .int .i64 j, .int .u64 v] 42)).alloc (.cells #[.bool false, .int .i64 0, .int .u64 0] 42)) (w.heap.size + 1) b j v ∧
    Box (((w.alloc (.cells #[.bool a, .int .i64 i, .int .u64 u] 42)).alloc (.cells #[.bool b, .int .i64 j, .int .u64 v] 42)).alloc (.cells #[.bool false, .int .i64 0, .int .u64 0] 42)) (w.heap.size + 1 + 1) false 0 0 := by
  obtain ⟨h1, h2⟩ := boxes2 w a b i u j v
  refine ⟨h1.alloc _, h2.alloc _, ?_⟩
  have := Box.new ((w.alloc (.cells #[.bool a, .int .i64 i, .int .u64 u] 42)).alloc (.cells #[.bool b, .int .i64 j, .int .u64 v] 42)) false 0 0
  rw [alloc_size, alloc_size] at this
  exact this
end Go.Proofs.Ytieddikacnmhlaa

/- What Tell told, in memory; On and Force in the shapes that the laws want. -/
import Derived.Test.YtpoedalbgcpgjaaSC
import Derived.Test.YtpoedalbgcpgjaaSD
namespace Go.Proofs.Ytpoedalbgcpgjaa
open Go.RowKit
set_option linter.unusedVariables false
set_option linter.unusedSimpArgs false

/-- Block g of W holds what Tell told. -/
def TB (W : World) (g : Nat) (a f e h l : Int) : Prop :=
  W.heap[g]? = some (.cells #[.int .i64 a, .int .i64 f, .int .i64 e, .int .i64 h, .int .i64 l] 44 (0, 0))
theorem TB.lt {W : World} {g : Nat} {a f e h l : Int} (s : TB W g a f e h l) : g < W.heap.size := (Array.getElem?_eq_some_iff.1 s).1
theorem TB.cells {W : World} {g : Nat} {a f e h l : Int} (s : TB W g a f e h l) :
    W.cell? ⟨g, 0, none⟩ = some (.int .i64 a) ∧ W.cell? ⟨g, 1, none⟩ = some (.int .i64 f) ∧ W.cell? ⟨g, 2, none⟩ = some (.int .i64 e) ∧
    W.cell? ⟨g, 3, none⟩ = some (.int .i64 h) ∧ W.cell? ⟨g, 4, none⟩ = some (.int .i64 l) ∧ ∀ i, W.frozen? ⟨g, i, none⟩ = false := by
  unfold TB at s
  refine ⟨?_, ?_, ?_, ?_, ?_, ?_⟩
  · exact (cell_of_row W g 0 _ 44 (0, 0) s).trans rfl
  · exact (cell_of_row W g 1 _ 44 (0, 0) s).trans rfl
  · exact (cell_of_row W g 2 _ 44 (0, 0) s).trans rfl
  · exact (cell_of_row W g 3 _ 44 (0, 0) s).trans rfl
  · exact (cell_of_row W g 4 _ 44 (0, 0) s).trans rfl
  · intro i; simp [World.frozen?, s]
theorem TB.keep {W W' : World} {g n : Nat} {a f e h l : Int} (s : TB W n a f e h l) (hn : n ≠ g) (j : Chg g W W') : TB W' n a f e h l :=
  (j.block n s.lt hn).trans s
theorem TB.step {V W W' : World} {g : Nat} {a f e h l : Int} (s : TB V g a f e h l) (hb : Below W.heap.size W W') (q : V.heap = W.heap) : TB W' g a f e h l :=
  (hb.block g (by rw [← q]; exact s.lt)).trans (by unfold TB at s; rw [← q]; exact s)
theorem TB.new (W : World) (a f e h l : Int) : TB (W.alloc (.cells #[.int .i64 a, .int .i64 f, .int .i64 e, .int .i64 h, .int .i64 l] 44)) W.heap.size a f e h l := by
  show (W.heap.push _)[W.heap.size]? = _
  rw [Array.getElem?_push_size]
theorem TB.alloc {W : World} {g : Nat} {a f e h l : Int} (s : TB W g a f e h l) (o : Obj) : TB (W.alloc o) g a f e h l := by
  have hl := s.lt
  unfold TB at *
  rw [← s]
  show (W.heap.push o)[g]? = _
  rw [Array.getElem?_push_lt hl]
  exact (Array.getElem?_eq_getElem hl).symm
/-- A store of what Tell told. -/
def puts (W : World) (g : Nat) (a f e h l : Int) : World :=
  ((((W.setCell ⟨g, 0, none⟩ (.int .i64 a)).setCell ⟨g, 1, none⟩ (.int .i64 f)).setCell ⟨g, 2, none⟩ (.int .i64 e)).setCell ⟨g, 3, none⟩ (.int .i64 h)).setCell ⟨g, 4, none⟩ (.int .i64 l)
theorem TB.put {W : World} {g : Nat} {a f e h l : Int} (s : TB W g a f e h l) (a' f' e' h' l' : Int) : TB (puts W g a' f' e' h' l') g a' f' e' h' l' :=
  heap_set (heap_set (heap_set (heap_set (heap_set s _) _) _) _) _
theorem puts_chg (W : World) (g : Nat) (a f e h l : Int) : Chg g W (puts W g a f e h l) :=
  (((((Chg.refl g W).set _ _).set _ _).set _ _).set _ _).set _ _
theorem balloc {B : Nat} {w W : World} (h : Below B w W) (hB : B ≤ W.heap.size) (o : Obj) : Below B w (W.alloc o) := h.alloc hB o

theorem w1 : wrap64 (0 + 1) = 1 := by unfold wrap64; decide
/-- The guard fails. -/
theorem on_fail (g : Nat) (p f a e h l k r : Int) (w : World) (s : SB w g 70 a f e h l k r) (hr : 0 ≤ r ∧ r ≤ 3) (h0 : f ≠ 0) (h1 : f ≠ p) :
    Calls Try.prog 33 #[.pointer (some ⟨g, 0, none⟩), .int .i64 p] w fun x w' => x = .returned (.int .i64 0) ∧ (∃ k' r', SB w' g 70 a 0 (wrap64 (e + 1)) h (wrap64 (l + 1)) k' r') ∧ Chg g w w' := by
  refine (on_calls g p f a e h l k r w s hr).mono ?_
  rintro x w' ⟨rfl, S, C⟩
  unfold onP at S ⊢
  by_cases c : p = 1 ∨ p = 2
  · rw [if_pos c, if_neg h1, if_pos h0] at S ⊢
    exact ⟨rfl, ⟨_, _, S⟩, C⟩
  · rw [if_neg c, if_pos h0] at S ⊢
    exact ⟨rfl, ⟨_, _, S⟩, C⟩
/-- In the generic form, with no row. -/
theorem on_first (g : Nat) (p a e h l k : Int) (w : World) (s : SB w g 70 a 0 e h l k 0) :
    Calls Try.prog 33 #[.pointer (some ⟨g, 0, none⟩), .int .i64 p] w fun x w' => x = .returned (.int .i64 0) ∧ (∃ k' r', SB w' g 70 a 0 (wrap64 (e + 1)) h l k' r') ∧ Chg g w w' := by
  refine (on_calls g p 0 a e h l k 0 w s (by decide)).mono ?_
  rintro x w' ⟨rfl, S, C⟩
  unfold onP at S ⊢
  by_cases c : p = 1 ∨ p = 2
  · rw [if_pos c, if_neg (show ¬ (0 : Int) = p by omega), if_neg (by decide)] at S ⊢
    by_cases d : k = p
    · rw [if_pos d, if_pos rfl] at S ⊢
      exact ⟨rfl, ⟨_, _, S⟩, C⟩
    · rw [if_neg d] at S ⊢
      exact ⟨rfl, ⟨_, _, S⟩, C⟩
  · rw [if_neg c, if_neg (by decide)] at S ⊢
    exact ⟨rfl, ⟨_, _, S⟩, C⟩
end Go.Proofs.Ytpoedalbgcpgjaa

/- Sites in memory: what a block holds, and the calls that give a site a form. -/
import Derived.Test.YtpoedalbgcpgjaaProg
import Derived.WalkKit
import Derived.WalkLawsBesides
import Derived.Laws.Externs
import Derived.KernelRfl
import Derived.Lib.Hide
import Derived.Outline
import Derived.Laws.Rows
namespace Go.Proofs.Ytpoedalbgcpgjaa
open Go.RowKit
set_option linter.unusedVariables false
set_option linter.unusedSimpArgs false

/-- Block g of W holds seven whole numbers, of type t. -/
def SB (W : World) (g : Nat) (t : TypeId) (a f e h l k r : Int) : Prop :=
  W.heap[g]? = some (.cells #[.int .i64 a, .int .i64 f, .int .i64 e, .int .i64 h, .int .i64 l, .int .i64 k, .int .i64 r] t (0, 0))
theorem SB.lt {W : World} {g : Nat} {t : TypeId} {a f e h l k r : Int} (s : SB W g t a f e h l k r) : g < W.heap.size := (Array.getElem?_eq_some_iff.1 s).1
theorem SB.cells {W : World} {g : Nat} {t : TypeId} {a f e h l k r : Int} (s : SB W g t a f e h l k r) :
    W.cell? ⟨g, 0, none⟩ = some (.int .i64 a) ∧ W.cell? ⟨g, 1, none⟩ = some (.int .i64 f) ∧ W.cell? ⟨g, 2, none⟩ = some (.int .i64 e) ∧
    W.cell? ⟨g, 3, none⟩ = some (.int .i64 h) ∧ W.cell? ⟨g, 4, none⟩ = some (.int .i64 l) ∧ W.cell? ⟨g, 5, none⟩ = some (.int .i64 k) ∧
    W.cell? ⟨g, 6, none⟩ = some (.int .i64 r) ∧ ∀ i, W.frozen? ⟨g, i, none⟩ = false := by
  unfold SB at s
  refine ⟨?_, ?_, ?_, ?_, ?_, ?_, ?_, ?_⟩
  · exact (cell_of_row W g 0 _ t (0, 0) s).trans rfl
  · exact (cell_of_row W g 1 _ t (0, 0) s).trans rfl
  · exact (cell_of_row W g 2 _ t (0, 0) s).trans rfl
  · exact (cell_of_row W g 3 _ t (0, 0) s).trans rfl
  · exact (cell_of_row W g 4 _ t (0, 0) s).trans rfl
  · exact (cell_of_row W g 5 _ t (0, 0) s).trans rfl
  · exact (cell_of_row W g 6 _ t (0, 0) s).trans rfl
  · intro i; simp [World.frozen?, s]
theorem heap_set {W : World} {g k : Nat} {xs : Array Value} {t : TypeId} {f : Nat × Nat} (h : W.heap[g]? = some (.cells xs t f)) (v : Value) :
    (W.setCell ⟨g, k, none⟩ v).heap[g]? = some (.cells (xs.setIfInBounds k v) t f) := by
  have hlt := lt_of_block h
  have h' : W.heap[g] = .cells xs t f := by simpa [Array.getElem?_eq_getElem hlt] using h
  show (W.heap.modify g _)[g]? = _
  rw [Array.getElem?_eq_getElem (by simpa using hlt), Array.getElem_modify_self, h']
  rfl
/-- Block g alone has changed. -/
structure Chg (g : Nat) (w w' : World) : Prop where
  os : w'.os = w.os
  tape : w'.tape = w.tape
  output : w'.output = w.output
  size : w.heap.size ≤ w'.heap.size
  block : ∀ k, k < w.heap.size → k ≠ g → w'.heap[k]? = w.heap[k]?
theorem Chg.refl (g : Nat) (w : World) : Chg g w w := ⟨rfl, rfl, rfl, Nat.le_refl _, fun _ _ _ => rfl⟩
theorem Chg.trans {g : Nat} {a b c : World} (h : Chg g a b) (j : Chg g b c) : Chg g a c :=
  ⟨j.os.trans h.os, j.tape.trans h.tape, j.output.trans h.output, Nat.le_trans h.size j.size, fun k hk hn => (j.block k (Nat.lt_of_lt_of_le hk h.size) hn).trans (h.block k hk hn)⟩
theorem setCell_size (W : World) (p : Addr) (v : Value) : (W.setCell p v).heap.size = W.heap.size := by
  show (W.heap.modify _ _).size = _
  simp
theorem Chg.set {g : Nat} {w W : World} (h : Chg g w W) (i : Nat) (v : Value) : Chg g w (W.setCell ⟨g, i, none⟩ v) :=
  ⟨h.os, h.tape, h.output, by rw [setCell_size]; exact h.size, fun k hk hn => (Below.heap_setCell _ _ _ _ hn).trans (h.block k hk hn)⟩
theorem Chg.below {B g : Nat} {w W W' : World} (h : Below B w W) (hB : B ≤ g) (hs : B ≤ W.heap.size) (j : Chg g W W') : Below B w W' :=
  ⟨j.os.trans h.os, j.tape.trans h.tape, j.output.trans h.output, Nat.le_trans h.size j.size, fun k hk => (j.block k (Nat.lt_of_lt_of_le hk hs) (by omega)).trans (h.block k hk)⟩
theorem SB.keep {W W' : World} {g n : Nat} {t : TypeId} {a f e h l k r : Int} (s : SB W n t a f e h l k r) (hn : n ≠ g) (j : Chg g W W') : SB W' n t a f e h l k r :=
  (j.block n s.lt hn).trans s
theorem SB.below {W W' : World} {g : Nat} {t : TypeId} {a f e h l k r : Int} (s : SB W g t a f e h l k r) (hb : Below W.heap.size W W') : SB W' g t a f e h l k r :=
  (hb.block g s.lt).trans s
theorem bnext {w V W W' : World} (L : Below w.heap.size w V) (hb : Below W.heap.size W W') (e : V.heap = W.heap) (e2 : V.os = W.os) (e3 : V.tape = W.tape) (e4 : V.output = W.output) : Below w.heap.size w W' := by
  have hs : w.heap.size ≤ W.heap.size := by rw [← e]; exact L.size
  have L2 : Below w.heap.size w W := ⟨e2 ▸ L.os, e3 ▸ L.tape, e4 ▸ L.output, hs, fun k hk => by rw [← e]; exact L.block k hk⟩
  exact L2.trans (hb.mono hs)
theorem SB.step {V W W' : World} {g : Nat} {t : TypeId} {a f e h l k r : Int} (s : SB V g t a f e h l k r) (hb : Below W.heap.size W W') (q : V.heap = W.heap) : SB W' g t a f e h l k r :=
  SB.below (W := W) (by unfold SB at *; rw [← q]; exact s) hb
theorem SB.new (W : World) (t : TypeId) (a f e h l k r : Int) : SB (W.alloc (.cells #[.int .i64 a, .int .i64 f, .int .i64 e, .int .i64 h, .int .i64 l, .int .i64 k, .int .i64 r] t)) W.heap.size t a f e h l k r := by
  show (W.heap.push _)[W.heap.size]? = _
  rw [Array.getElem?_push_size]
theorem SB.alloc {W : World} {g : Nat} {t : TypeId} {a f e h l k r : Int} (s : SB W g t a f e h l k r) (o : Obj) : SB (W.alloc o) g t a f e h l k r := by
  have hl := s.lt
  unfold SB at *
  rw [← s]
  show (W.heap.push o)[g]? = _
  rw [Array.getElem?_push_lt hl]
  exact (Array.getElem?_eq_getElem hl).symm
theorem alloc_size (w : World) (o : Obj) : (w.alloc o).heap.size = w.heap.size + 1 := by
  show (w.heap.push o).size = _
  rw [Array.size_push]

theorem SB.set0 {W : World} {g : Nat} {t : TypeId} {a f e h l k r x : Int} (s : SB W g t a f e h l k r) : SB (W.setCell ⟨g, 0, none⟩ (.int .i64 x)) g t x f e h l k r := heap_set s _
theorem SB.set1 {W : World} {g : Nat} {t : TypeId} {a f e h l k r x : Int} (s : SB W g t a f e h l k r) : SB (W.setCell ⟨g, 1, none⟩ (.int .i64 x)) g t a x e h l k r := heap_set s _
theorem SB.set2 {W : World} {g : Nat} {t : TypeId} {a f e h l k r x : Int} (s : SB W g t a f e h l k r) : SB (W.setCell ⟨g, 2, none⟩ (.int .i64 x)) g t a f x h l k r := heap_set s _
theorem SB.set3 {W : World} {g : Nat} {t : TypeId} {a f e h l k r x : Int} (s : SB W g t a f e h l k r) : SB (W.setCell ⟨g, 3, none⟩ (.int .i64 x)) g t a f e x l k r := heap_set s _
theorem SB.set4 {W : World} {g : Nat} {t : TypeId} {a f e h l k r x : Int} (s : SB W g t a f e h l k r) : SB (W.setCell ⟨g, 4, none⟩ (.int .i64 x)) g t a f e h x k r := heap_set s _
theorem SB.set5 {W : World} {g : Nat} {t : TypeId} {a f e h l k r x : Int} (s : SB W g t a f e h l k r) : SB (W.setCell ⟨g, 5, none⟩ (.int .i64 x)) g t a f e h l x r := heap_set s _
theorem SB.set6 {W : World} {g : Nat} {t : TypeId} {a f e h l k r x : Int} (s : SB W g t a f e h l k r) : SB (W.setCell ⟨g, 6, none⟩ (.int .i64 x)) g t a f e h l k x := heap_set s _
/-- What become leaves. -/
theorem become_calls (g : Nat) (f a f0 e h l k r : Int) (w : World) (s : SB w g 70 a f0 e h l k r) :
    Calls Try.prog 51 #[.pointer (some ⟨g, 0, none⟩), .int .i64 f] w fun x w' => x = .returned (.tuple #[]) ∧ SB w' g 70 a f e h l 0 0 ∧ Chg g w w' := by
  obtain ⟨x0, x1, x2, x3, x4, x5, x6, xf⟩ := s.cells
  go_enter Try.func51, Try.ntmps51
  go_wp2
  go_end0
  exact ⟨rfl, SB.set6 (SB.set5 (SB.set1 s)), (((Chg.refl g w).set _ _).set _ _).set _ _⟩
theorem new_calls (a : Int) (w : World) : Calls Try.prog 31 #[.int .i64 a] w fun e w' => e = .returned (.pointer (some ⟨w.heap.size, 0, none⟩)) ∧ w' = w.alloc (.cells #[.int .i64 a, .int .i64 0, .int .i64 0, .int .i64 0, .int .i64 0, .int .i64 0, .int .i64 0] 70) := by
  go_enter Try.func31, Try.ntmps31
  go_wp2
  go_ret
  exact ⟨rfl, rfl⟩
abbrev tellV (a f e h l : Int) : Value := .agg #[.int .i64 a, .int .i64 f, .int .i64 e, .int .i64 h, .int .i64 l]
theorem tell_calls (g : Nat) (a f e h l k r : Int) (w : World) (s : SB w g 70 a f e h l k r) :
    Calls Try.prog 32 #[.pointer (some ⟨g, 0, none⟩)] w fun x w' => x = .returned (tellV a f e h l) ∧ Below w.heap.size w w' := by
  obtain ⟨x0, x1, x2, x3, x4, x5, x6, xf⟩ := (s.alloc (.cells #[.int .i64 0, .int .i64 0, .int .i64 0, .int .i64 0, .int .i64 0] 44)).cells
  go_enter Try.func32, Try.ntmps32
  go_wp2
  (try simp only [Exit.inBlock, Exit.then])
  refine bodyPost_ret (results_cell_row rfl _ _ w.heap.size 44 #[.int .i64 a, .int .i64 f, .int .i64 e, .int .i64 h, .int .i64 l] (0, 0) _ rfl (by show (w.heap.push _)[w.heap.size]? = _; rw [Array.getElem?_push_size]) Try.underlying44 rfl (by kernel_rfl)) rfl ?_
  exact ⟨rfl, (Below.refl w.heap.size w).alloc (Nat.le_refl _) _⟩
end Go.Proofs.Ytpoedalbgcpgjaa

/- A row of bytes in memory: made, written, and read as a string. -/
import Derived.Test.YtpoedalbgcpgjaaSE
import Derived.Deep.LoopGhost
import Derived.Deep.OwnRows
import Derived.Laws.BytesArg
namespace Go.Proofs.Ytpoedalbgcpgjaa
open Go.RowKit
set_option linter.unusedVariables false
set_option linter.unusedSimpArgs false

theorem info5 : (Try.prog.info? 5).map (fun i => (i.zero, i.size, i.bytes)) = some (some (.int .u8 0), 1, 1) := by kernel_rfl
theorem make_run (n : Nat) (hn : n ≤ 5) (W : World) : (Instr.makeSlice 73 (.int .u64 (n : Int)) (.int .u64 (n : Int))).run Try.prog W = .ok (.slice (some ⟨W.heap.size, 0, none⟩) n n) (W.alloc (.cells (madeCells #[.int .u8 0] n) 5)) :=
  run_make_row' 73 5 (.int .u8 0) 1 Try.underlying73 info5 rfl .u64 .u64 n (by omega) (by omega) W
/-- Block g of W holds these bytes. -/
def YB (W : World) (g : Nat) (xs : List Int) : Prop := W.heap[g]? = some (.cells (xs.map (Value.int .u8)).toArray 5 (0, 0))
theorem YB.lt {W : World} {g : Nat} {xs : List Int} (s : YB W g xs) : g < W.heap.size := (Array.getElem?_eq_some_iff.1 s).1
theorem YB.cell {W : World} {g : Nat} {xs : List Int} (s : YB W g xs) (i : Nat) (x : Int) (h : xs[i]? = some x) : W.cell? ⟨g, i, none⟩ = some (.int .u8 x) := by
  refine (cell_of_row W g i _ 5 (0, 0) s).trans ?_
  simp [h]
theorem YB.soft {W : World} {g : Nat} {xs : List Int} (s : YB W g xs) (i : Nat) : W.frozen? ⟨g, i, none⟩ = false := by
  unfold YB at s; simp [World.frozen?, s]
theorem YB.set {W : World} {g : Nat} {xs : List Int} (s : YB W g xs) (i : Nat) (x : Int) : YB (W.setCell ⟨g, i, none⟩ (.int .u8 x)) g (xs.set i x) := by
  have h := heap_set (k := i) s (.int .u8 x)
  unfold YB
  rw [h]
  simp
/-- the string of bytes -/
def strB (xs : List Int) : ByteArray := ⟨(xs.map fun n => UInt8.ofNat n.toNat).toArray⟩
theorem YB.str {W : World} {g : Nat} {xs : List Int} {c : Nat} (s : YB W g xs) : (convert 73 9 (.slice (some ⟨g, 0, none⟩) xs.length c)).run Try.prog W = .ok (.string (strB xs)) W := by
  have hl : (loadCells ⟨g, 0, none⟩ xs.length).run Try.prog W = .ok (xs.map (Value.int .u8)).toArray W := by
    have := run_loadCells_list (P := Try.prog) W ⟨g, 0, none⟩ (xs.map (Value.int .u8)) (fun j v hj => by
      rw [Go.WideShapes.add_plain, Nat.zero_add]
      refine (cell_of_row W g j _ 5 (0, 0) s).trans ?_
      rw [← hj]; simp)
    simpa using this
  rw [run_convert_bytes_string W 73 9 5 _ xs.length c Try.underlying73 Try.underlying5 Try.underlying9, run_bytesToString W _ xs.length c xs hl, foldl_push_bytes]
  simp [strB, ByteArray.empty, ByteArray.emptyWithCapacity]
  rfl
end Go.Proofs.Ytpoedalbgcpgjaa

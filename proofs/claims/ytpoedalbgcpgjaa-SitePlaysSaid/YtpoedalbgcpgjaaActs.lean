/- A slice of acts (a truth and a whole number each), opened. -/
import Derived.Test.YtpoedalbgcpgjaaProg
import Derived.WalkKit
import Derived.ChangeArms
import Derived.ChangeSame
import Derived.DataReads
import Derived.OpenShut
namespace Go.Proofs.Ytpoedalbgcpgjaa
open Go.ChangeShapes Go.WideShapes Go.RowKit

/-- What the walks want of a slice of acts. -/
def IsActs (w : World) (a : Option Addr) (len : Nat) : Prop :=
  len = 0 ∨ ∃ x, a = some x ∧ ∀ i, i < len → ∃ (q : Bool) (n : Int), w.cell? ((x.add (i * 2)).add 0) = some (.bool q) ∧ w.cell? ((x.add (i * 2)).add 1) = some (.int .i64 n)
theorem acts_at {w : World} {a : Addr} {len : Nat} (h : ∀ i, i < len → ∃ (q : Bool) (n : Int), w.cell? ((a.add (i * 2)).add 0) = some (.bool q) ∧ w.cell? ((a.add (i * 2)).add 1) = some (.int .i64 n)) (hp : 0 < len) :
    ∃ b off, a = ⟨b, off, none⟩ ∧ b < w.heap.size ∧ ∀ i, i < len → ∃ (q : Bool) (n : Int), w.cell? ⟨b, off + i * 2, none⟩ = some (.bool q) ∧ w.cell? ⟨b, off + i * 2 + 1, none⟩ = some (.int .i64 n) := by
  obtain ⟨b, off, spot⟩ := a
  obtain ⟨q, n, h0, h1⟩ := h 0 hp
  have hspot : spot = none := by simpa [Addr.add] using World.cell?_spot h0
  subst hspot
  refine ⟨b, off, rfl, World.block_lt_of_cell? w _ h0, fun i hi => ?_⟩
  obtain ⟨q, n, h0, h1⟩ := h i hi
  rw [Go.WideShapes.add_plain, Go.WideShapes.add_plain] at h0 h1
  exact ⟨q, n, h0, h1⟩

section
variable {H : Type} {enc : TypeId × Value → H} {w : World} {base : Nat} {spare : Nat → Bool} {held : Bool}
theorem open_acts {fuel : Nat} {a : Option Addr} {len cap : Nat} {x : DataW H × List MemPlace} (h : DataW.trod enc Try.prog w base spare held fuel 54 [.slice a len cap] = some x) : IsActs w a len := by
  rcases DataW.trod_slice Try.underlying54 h with h0 | ⟨a', len', cap', elems, rest, n, _, hc, rfl, hb, hl, hm, hlen, hel, _, _⟩
  · have := h0.1
    simp at this
    exact .inl this.2.1
  · simp at hc
    obtain ⟨rfl, rfl, rfl⟩ := hc
    refine .inr ⟨a', rfl, fun i hi => ?_⟩
    have e := hel i hi
    rw [List.getElem?_eq_getElem (by omega)] at e
    obtain ⟨cs', hcs, hy⟩ := Option.bind_eq_some_iff.1 e
    rw [show Try.prog.cellsOf 59 = 2 by kernel_rfl] at hcs
    obtain ⟨_, hl2, hcell⟩ := World.cells?_some hcs
    obtain ⟨y0, y1, m, _, _, h0, h1⟩ := Go.ChangeShapes.trod_struct2 Try.underlying59 hy
    obtain ⟨q, e0, _⟩ := DataW.trod_bool Try.underlying4 h0
    obtain ⟨k, e1, _, _⟩ := DataW.trod_int Try.underlying3 h1
    match cs', hl2, hcell, e0, e1 with
    | [c0, c1], _, hcell, e0, e1 =>
      have k0 := hcell 0 (by omega)
      have k1 := hcell 1 (by omega)
      rw [show Try.prog.cellsOf 4 = 1 by kernel_rfl] at e0
      rw [show Try.prog.cellsOf 3 = 1 by kernel_rfl] at e1
      simp at e0 e1 k0 k1
      subst e0 e1
      exact ⟨q, k, k0, k1⟩
end
end Go.Proofs.Ytpoedalbgcpgjaa

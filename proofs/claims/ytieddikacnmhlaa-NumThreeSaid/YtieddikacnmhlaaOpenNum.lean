/- A number (a struct of three one-cell fields) as an argument, opened and shut. -/
import Derived.Test.YtieddikacnmhlaaH
import Derived.Lib.SmallJoins
import Derived.ChangeArms
import Derived.ChangeSame
namespace Go.Proofs.Ytieddikacnmhlaa
open Go.ChangeShapes Go.WideShapes Go.ChangeAt Go.RowKit Go.Joins

section
variable {H : Type} {enc : TypeId × Value → H} {w : World} {base : Nat} {spare : Nat → Bool} {held : Bool}
theorem open_num {r : Reach} {b0 : Nat} {v : Value} {d : DataW H} {p : List MemPlace} (hv : Value.okWide Try.prog w r b0 42 v) (h : DataW.Trod enc Try.prog w base spare held 42 v d p) :
    ∃ (x : Bool) (y z : Int), v = numV x y z ∧ d = .agg [.lit (.bool x), .lit (.int .i64 y), .lit (.int .u64 z)] ∧ p = [] ∧ (Lit.int .i64 y).wf = true ∧ (Lit.int .u64 z).wf = true := by
  obtain ⟨c0, c1, c2, y0, y1, y2, m, rfl, rfl, rfl, hy0, hy1, hy2⟩ := open_agg3 Try.underlying42 (by kernel_rfl) cells42 hv h
  obtain ⟨x, e0, rfl⟩ := DataW.trod_bool Try.underlying4 hy0
  obtain ⟨y, e1, rfl, wy⟩ := DataW.trod_int Try.underlying2 hy1
  obtain ⟨z, e2, rfl, wz⟩ := DataW.trod_int Try.underlying22 hy2
  simp at e0 e1 e2
  subst e0 e1 e2
  exact ⟨x, y, z, rfl, rfl, rfl, wy, wz⟩
theorem shut_num (x : Bool) {y z : Int} (wy : (Lit.int .i64 y).wf = true) (wz : (Lit.int .u64 z).wf = true) :
    DataW.Trod enc Try.prog w base spare held 42 (numV x y z) (.agg [.lit (.bool x), .lit (.int .i64 y), .lit (.int .u64 z)]) [] :=
  shut_agg3 (y0 := (.lit (.bool x), [])) (y1 := (.lit (.int .i64 y), [])) (y2 := (.lit (.int .u64 z), [])) Try.underlying42 (by kernel_rfl) cells42
    ⟨1, by simp [DataW.trod, Try.underlying4]⟩ ⟨1, trod_int_mk 0 Try.underlying2 wy⟩ ⟨1, trod_int_mk 0 Try.underlying22 wz⟩
end
end Go.Proofs.Ytieddikacnmhlaa

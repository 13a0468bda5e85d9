/- Quotients rounded down, and rests, of any two numbers answer as the document says. -/
import Derived.Test.YtieddikacnmhlaaT
import Derived.Test.YtieddikacnmhlaaZ
namespace Go.Proofs.Ytieddikacnmhlaa
open Go.RowKit

set_option maxRecDepth 100000 in
set_option maxHeartbeats 16000000 in
theorem numFloors_of (p q : Bool) (i u j v : Int) (sb1 sb2 : Bool) (sx1 sy1 sc1 sx2 sy2 sc2 : Int) (w : World)
    (h67 : ∀ w, Calls Try.prog 67 #[numV p i u, numV q j v] w fun e w' => e = .returned (.tuple #[numV sb1 sx1 sy1, .int .i64 sc1]) ∧ Below w.heap.size w w')
    (h68 : ∀ w, Calls Try.prog 68 #[numV p i u, numV q j v] w fun e w' => e = .returned (.tuple #[numV sb1 sx1 sy1, .int .i64 sc1]) ∧ Below w.heap.size w w')
    (h69 : ∀ w, Calls Try.prog 69 #[numV p i u, numV q j v] w fun e w' => e = .returned (.tuple #[numV sb2 sx2 sy2, .int .i64 sc2]) ∧ Below w.heap.size w w')
    (h70 : ∀ w, Calls Try.prog 70 #[numV p i u, numV q j v] w fun e w' => e = .returned (.tuple #[numV sb2 sx2 sy2, .int .i64 sc2]) ∧ Below w.heap.size w w') :
    Calls Try.prog 18 #[numV p i u, numV q j v] w fun e w' => e = .returned (.bool true) ∧ Below w.heap.size w w' := by
  have eb1 : (sb1 == sb1) = true := beq_self_eq_true sb1
  have ex1 : (sx1 == sx1) = true := beq_self_eq_true sx1
  have ey1 : (sy1 == sy1) = true := beq_self_eq_true sy1
  have ec1 : (sc1 == sc1) = true := beq_self_eq_true sc1
  have n1 : (sc1 != sc1) = false := bne_self_eq_false sc1
  have eb2 : (sb2 == sb2) = true := beq_self_eq_true sb2
  have ex2 : (sx2 == sx2) = true := beq_self_eq_true sx2
  have ey2 : (sy2 == sy2) = true := beq_self_eq_true sy2
  have ec2 : (sc2 == sc2) = true := beq_self_eq_true sc2
  have n2 : (sc2 != sc2) = false := bne_self_eq_false sc2
  obtain ⟨A, B⟩ := boxes2 w p q i u j v
  have L := lay2 w (.cells #[.bool p, .int .i64 i, .int .u64 u] 42) (.cells #[.bool q, .int .i64 j, .int .u64 v] 42)
  go_enter Try.func18, Try.ntmps18
  obtain ⟨a0, a1, a2, _, _, _⟩ := A.cells
  obtain ⟨b0, b1, b2, _, _, _⟩ := B.cells
  go_wp2_with fail
  refine (h67 _).mono ?_
  rintro e w1 ⟨rfl, hb⟩
  have geX := (bnext L hb rfl rfl rfl rfl).size
  have neAX := Nat.ne_of_lt (A.step hb rfl).lt
  have neBX := Nat.ne_of_lt (B.step hb rfl).lt
  have L := balloc (bnext L hb rfl rfl rfl rfl) (bnext L hb rfl rfl rfl rfl).size (.cells #[.bool sb1, .int .i64 sx1, .int .u64 sy1] 42)
  have A := (A.step hb rfl).alloc (.cells #[.bool sb1, .int .i64 sx1, .int .u64 sy1] 42)
  have B := (B.step hb rfl).alloc (.cells #[.bool sb1, .int .i64 sx1, .int .u64 sy1] 42)
  have X := Box.new w1 sb1 sx1 sy1
  clear hb
  obtain ⟨a0, a1, a2, _, _, _⟩ := A.cells
  obtain ⟨b0, b1, b2, _, _, _⟩ := B.cells
  go_wp2_with fail
  refine (h68 _).mono ?_
  rintro e w2 ⟨rfl, hb⟩
  have geY := (bnext L hb rfl rfl rfl rfl).size
  have neAY := Nat.ne_of_lt (A.step hb rfl).lt
  have neBY := Nat.ne_of_lt (B.step hb rfl).lt
  have neXY := Nat.ne_of_lt (X.step hb rfl).lt
  have L := balloc (bnext L hb rfl rfl rfl rfl) (bnext L hb rfl rfl rfl rfl).size (.cells #[.bool sb1, .int .i64 sx1, .int .u64 sy1] 42)
  have A := (A.step hb rfl).alloc (.cells #[.bool sb1, .int .i64 sx1, .int .u64 sy1] 42)
  have B := (B.step hb rfl).alloc (.cells #[.bool sb1, .int .i64 sx1, .int .u64 sy1] 42)
  have X := (X.step hb rfl).alloc (.cells #[.bool sb1, .int .i64 sx1, .int .u64 sy1] 42)
  have Y := Box.new w2 sb1 sx1 sy1
  clear hb
  obtain ⟨a0, a1, a2, _, _, _⟩ := A.cells
  obtain ⟨b0, b1, b2, _, _, _⟩ := B.cells
  obtain ⟨x0, x1, x2, _, _, _⟩ := X.cells
  obtain ⟨y0, y1, y2, _, _, _⟩ := Y.cells
  go_wp2_with fail
  refine (h69 _).mono ?_
  rintro e w3 ⟨rfl, hb⟩
  have L := bnext L hb rfl rfl rfl rfl
  have A := A.step hb rfl
  have B := B.step hb rfl
  have X := X.step hb rfl
  have Y := Y.step hb rfl
  clear hb
  obtain ⟨x0, x1, x2, x3, x4, x5⟩ := X.cells
  have L := setAt L geX (.bool sb2) (.int .i64 sx2) (.int .u64 sy2)
  have A := A.putOther neAX (.bool sb2) (.int .i64 sx2) (.int .u64 sy2)
  have B := B.putOther neBX (.bool sb2) (.int .i64 sx2) (.int .u64 sy2)
  have Y := Y.putOther neXY.symm (.bool sb2) (.int .i64 sx2) (.int .u64 sy2)
  have X := X.put sb2 sx2 sy2
  obtain ⟨a0, a1, a2, _, _, _⟩ := A.cells
  obtain ⟨b0, b1, b2, _, _, _⟩ := B.cells
  go_wp2_with fail
  refine (h70 _).mono ?_
  rintro e w4 ⟨rfl, hb⟩
  have L := bnext L hb rfl rfl rfl rfl
  have A := A.step hb rfl
  have B := B.step hb rfl
  have X := X.step hb rfl
  have Y := Y.step hb rfl
  clear hb
  obtain ⟨y0, y1, y2, y3, y4, y5⟩ := Y.cells
  have L := setAt L geY (.bool sb2) (.int .i64 sx2) (.int .u64 sy2)
  have A := A.putOther neAY (.bool sb2) (.int .i64 sx2) (.int .u64 sy2)
  have B := B.putOther neBY (.bool sb2) (.int .i64 sx2) (.int .u64 sy2)
  have X := X.putOther neXY (.bool sb2) (.int .i64 sx2) (.int .u64 sy2)
  have Y := Y.put sb2 sx2 sy2
  obtain ⟨x0, x1, x2, _, _, _⟩ := X.cells
  obtain ⟨y0, y1, y2, _, _, _⟩ := Y.cells
  go_wp2_with fail
  refine (lawAwake_calls _).mono ?_
  rintro e w5 ⟨rfl, hb⟩
  have L := bnext L hb rfl rfl rfl rfl
  clear hb
  go_wp2
  go_ret
  exact ⟨by first | rfl | simp, ⟨L.os, L.tape, L.output, L.size, L.block⟩⟩

theorem numFloors_walk (p : Bool) (i u : Int) (q : Bool) (j v : Int) (w : World) (wi : (Lit.int .i64 i).wf = true) (wu : (Lit.int .u64 u).wf = true) (wj : (Lit.int .i64 j).wf = true) (wv : (Lit.int .u64 v).wf = true) :
    Calls Try.prog 18 #[numV p i u, numV q j v] w fun e w' => e = .returned (.bool true) ∧ Below w.heap.size w w' := by
  have hi : fits i := i64_range wi
  have hj : fits j := i64_range wj
  have hu : Rng u := u64_range wu
  have hv : Rng v := u64_range wv
  exact numFloors_of p q i u j v _ _ _ _ _ _ _ _ w (numFloorDiv_calls p q i u j v hi hj) (refFloorDiv_num p q i u j v hi hj hu hv) (numMod_calls p q i u j v hi hj) (refMod_num p q i u j v hi hj hu hv)
end Go.Proofs.Ytieddikacnmhlaa

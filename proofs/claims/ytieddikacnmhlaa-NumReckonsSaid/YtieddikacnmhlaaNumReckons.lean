/- Any two numbers: sums, differences, products, quotients and turned signs answer as the document says. -/
import Derived.Test.YtieddikacnmhlaaT
import Derived.Test.YtieddikacnmhlaaYY
import Derived.Test.YtieddikacnmhlaaW
namespace Go.Proofs.Ytieddikacnmhlaa
open Go.RowKit

set_option maxRecDepth 100000 in
set_option maxHeartbeats 16000000 in
theorem numReckons_of (p q : Bool) (i u j v : Int) (sb1 sb2 sb3 sb4 sb5 : Bool) (sx1 sy1 sc1 sx2 sy2 sc2 sx3 sy3 sc3 sx4 sy4 sc4 sx5 sy5 sc5 : Int) (w : World)
    (h60 : ∀ w, Calls Try.prog 60 #[numV p i u, numV q j v] w fun e w' => e = .returned (.tuple #[numV sb1 sx1 sy1, .int .i64 sc1]) ∧ Below w.heap.size w w')
    (h75 : ∀ w, Calls Try.prog 75 #[numV p i u, numV q j v] w fun e w' => e = .returned (.tuple #[numV sb1 sx1 sy1, .int .i64 sc1]) ∧ Below w.heap.size w w')
    (h73 : ∀ w, Calls Try.prog 73 #[numV p i u, numV q j v] w fun e w' => e = .returned (.tuple #[numV sb2 sx2 sy2, .int .i64 sc2]) ∧ Below w.heap.size w w')
    (h76 : ∀ w, Calls Try.prog 76 #[numV p i u, numV q j v] w fun e w' => e = .returned (.tuple #[numV sb2 sx2 sy2, .int .i64 sc2]) ∧ Below w.heap.size w w')
    (h62 : ∀ w, Calls Try.prog 62 #[numV p i u, numV q j v] w fun e w' => e = .returned (.tuple #[numV sb3 sx3 sy3, .int .i64 sc3]) ∧ Below w.heap.size w w')
    (h77 : ∀ w, Calls Try.prog 77 #[numV p i u, numV q j v] w fun e w' => e = .returned (.tuple #[numV sb3 sx3 sy3, .int .i64 sc3]) ∧ Below w.heap.size w w')
    (h71 : ∀ w, Calls Try.prog 71 #[numV p i u, numV q j v] w fun e w' => e = .returned (.tuple #[numV sb4 sx4 sy4, .int .i64 sc4]) ∧ Below w.heap.size w w')
    (h78 : ∀ w, Calls Try.prog 78 #[numV p i u, numV q j v] w fun e w' => e = .returned (.tuple #[numV sb4 sx4 sy4, .int .i64 sc4]) ∧ Below w.heap.size w w')
    (h74 : ∀ w, Calls Try.prog 74 #[numV p i u] w fun e w' => e = .returned (.tuple #[numV sb5 sx5 sy5, .int .i64 sc5]) ∧ Below w.heap.size w w')
    (h79 : ∀ w, Calls Try.prog 79 #[numV p i u] w fun e w' => e = .returned (.tuple #[numV sb5 sx5 sy5, .int .i64 sc5]) ∧ Below w.heap.size w w') :
    Calls Try.prog 23 #[numV p i u, numV q j v] w fun e w' => e = .returned (.bool true) ∧ Below w.heap.size w w' := by
  have eb1 : (sb1 == sb1) = true := beq_self_eq_true sb1
  have ex1 : (sx1 == sx1) = true := beq_self_eq_true sx1
  have ey1 : (sy1 == sy1) = true := beq_self_eq_true sy1
  have ec1 : (sc1 == sc1) = true := beq_self_eq_true sc1
  have n1 : (sc1 != sc1) = false := bne_self_eq_false sc1
  have eb2 : (sb2 == sb2) = true := beq_self_eq_true sb2
  have ex2 : (sx2 == sx2) = true := beq_self_eq_true sx2
  have ey2 : (sy2 == sy2) = true := beq_self_eq_true sy2
  have ec2 : (sc2 == sc2) = true := beq_self_eq_true sc2
  have n2 : (sc2 != sc2) = false := bne_self_eq_false sc2
  have eb3 : (sb3 == sb3) = true := beq_self_eq_true sb3
  have ex3 : (sx3 == sx3) = true := beq_self_eq_true sx3
  have ey3 : (sy3 == sy3) = true := beq_self_eq_true sy3
  have ec3 : (sc3 == sc3) = true := beq_self_eq_true sc3
  have n3 : (sc3 != sc3) = false := bne_self_eq_false sc3
  have eb4 : (sb4 == sb4) = true := beq_self_eq_true sb4
  have ex4 : (sx4 == sx4) = true := beq_self_eq_true sx4
  have ey4 : (sy4 == sy4) = true := beq_self_eq_true sy4
  have ec4 : (sc4 == sc4) = true := beq_self_eq_true sc4
  have n4 : (sc4 != sc4) = false := bne_self_eq_false sc4
  have eb5 : (sb5 == sb5) = true := beq_self_eq_true sb5
  have ex5 : (sx5 == sx5) = true := beq_self_eq_true sx5
  have ey5 : (sy5 == sy5) = true := beq_self_eq_true sy5
  have ec5 : (sc5 == sc5) = true := beq_self_eq_true sc5
  have n5 : (sc5 != sc5) = false := bne_self_eq_false sc5
  obtain ⟨A, B⟩ := boxes2 w p q i u j v
  have L := lay2 w (.cells #[.bool p, .int .i64 i, .int .u64 u] 42) (.cells #[.bool q, .int .i64 j, .int .u64 v] 42)
  go_enter Try.func23, Try.ntmps23
  obtain ⟨a0, a1, a2, _, _, _⟩ := A.cells
  obtain ⟨b0, b1, b2, _, _, _⟩ := B.cells
  go_wp2_with fail
  refine (h60 _).mono ?_
  rintro e w1 ⟨rfl, hb⟩
  have geX := (bnext L hb rfl rfl rfl rfl).size
  have neAX := Nat.ne_of_lt (A.step hb rfl).lt
  have neBX := Nat.ne_of_lt (B.step hb rfl).lt
  have L := balloc (bnext L hb rfl rfl rfl rfl) (bnext L hb rfl rfl rfl rfl).size (.cells #[.bool sb1, .int .i64 sx1, .int .u64 sy1] 42)
  have A := (A.step hb rfl).alloc (.cells #[.bool sb1, .int .i64 sx1, .int .u64 sy1] 42)
  have B := (B.step hb rfl).alloc (.cells #[.bool sb1, .int .i64 sx1, .int .u64 sy1] 42)
  have X := Box.new w1 sb1 sx1 sy1
  clear hb
  obtain ⟨a0, a1, a2, _, _, _⟩ := A.cells
  obtain ⟨b0, b1, b2, _, _, _⟩ := B.cells
  go_wp2_with fail
  refine (h75 _).mono ?_
  rintro e w2 ⟨rfl, hb⟩
  have geY := (bnext L hb rfl rfl rfl rfl).size
  have neAY := Nat.ne_of_lt (A.step hb rfl).lt
  have neBY := Nat.ne_of_lt (B.step hb rfl).lt
  have neXY := Nat.ne_of_lt (X.step hb rfl).lt
  have L := balloc (bnext L hb rfl rfl rfl rfl) (bnext L hb rfl rfl rfl rfl).size (.cells #[.bool sb1, .int .i64 sx1, .int .u64 sy1] 42)
  have A := (A.step hb rfl).alloc (.cells #[.bool sb1, .int .i64 sx1, .int .u64 sy1] 42)
  have B := (B.step hb rfl).alloc (.cells #[.bool sb1, .int .i64 sx1, .int .u64 sy1] 42)
  have X := (X.step hb rfl).alloc (.cells #[.bool sb1, .int .i64 sx1, .int .u64 sy1] 42)
  have Y := Box.new w2 sb1 sx1 sy1
  clear hb
  obtain ⟨a0, a1, a2, _, _, _⟩ := A.cells
  obtain ⟨b0, b1, b2, _, _, _⟩ := B.cells
  obtain ⟨x0, x1, x2, _, _, _⟩ := X.cells
  obtain ⟨y0, y1, y2, _, _, _⟩ := Y.cells
  go_wp2_with fail
  refine (h73 _).mono ?_
  rintro e w3 ⟨rfl, hb⟩
  have L := bnext L hb rfl rfl rfl rfl
  have A := A.step hb rfl
  have B := B.step hb rfl
  have X := X.step hb rfl
  have Y := Y.step hb rfl
  clear hb
  obtain ⟨x0, x1, x2, x3, x4, x5⟩ := X.cells
  have L := setAt L geX (.bool sb2) (.int .i64 sx2) (.int .u64 sy2)
  have A := A.putOther neAX (.bool sb2) (.int .i64 sx2) (.int .u64 sy2)
  have B := B.putOther neBX (.bool sb2) (.int .i64 sx2) (.int .u64 sy2)
  have Y := Y.putOther neXY.symm (.bool sb2) (.int .i64 sx2) (.int .u64 sy2)
  have X := X.put sb2 sx2 sy2
  obtain ⟨a0, a1, a2, _, _, _⟩ := A.cells
  obtain ⟨b0, b1, b2, _, _, _⟩ := B.cells
  go_wp2_with fail
  refine (h76 _).mono ?_
  rintro e w4 ⟨rfl, hb⟩
  have L := bnext L hb rfl rfl rfl rfl
  have A := A.step hb rfl
  have B := B.step hb rfl
  have X := X.step hb rfl
  have Y := Y.step hb rfl
  clear hb
  obtain ⟨y0, y1, y2, y3, y4, y5⟩ := Y.cells
  have L := setAt L geY (.bool sb2) (.int .i64 sx2) (.int .u64 sy2)
  have A := A.putOther neAY (.bool sb2) (.int .i64 sx2) (.int .u64 sy2)
  have B := B.putOther neBY (.bool sb2) (.int .i64 sx2) (.int .u64 sy2)
  have X := X.putOther neXY (.bool sb2) (.int .i64 sx2) (.int .u64 sy2)
  have Y := Y.put sb2 sx2 sy2
  obtain ⟨a0, a1, a2, _, _, _⟩ := A.cells
  obtain ⟨b0, b1, b2, _, _, _⟩ := B.cells
  obtain ⟨x0, x1, x2, _, _, _⟩ := X.cells
  obtain ⟨y0, y1, y2, _, _, _⟩ := Y.cells
  go_wp2_with fail
  refine (h62 _).mono ?_
  rintro e w5 ⟨rfl, hb⟩
  have L := bnext L hb rfl rfl rfl rfl
  have A := A.step hb rfl
  have B := B.step hb rfl
  have X := X.step hb rfl
  have Y := Y.step hb rfl
  clear hb
  obtain ⟨x0, x1, x2, x3, x4, x5⟩ := X.cells
  have L := setAt L geX (.bool sb3) (.int .i64 sx3) (.int .u64 sy3)
  have A := A.putOther neAX (.bool sb3) (.int .i64 sx3) (.int .u64 sy3)
  have B := B.putOther neBX (.bool sb3) (.int .i64 sx3) (.int .u64 sy3)
  have Y := Y.putOther neXY.symm (.bool sb3) (.int .i64 sx3) (.int .u64 sy3)
  have X := X.put sb3 sx3 sy3
  obtain ⟨a0, a1, a2, _, _, _⟩ := A.cells
  obtain ⟨b0, b1, b2, _, _, _⟩ := B.cells
  go_wp2_with fail
  refine (h77 _).mono ?_
  rintro e w6 ⟨rfl, hb⟩
  have L := bnext L hb rfl rfl rfl rfl
  have A := A.step hb rfl
  have B := B.step hb rfl
  have X := X.step hb rfl
  have Y := Y.step hb rfl
  clear hb
  obtain ⟨y0, y1, y2, y3, y4, y5⟩ := Y.cells
  have L := setAt L geY (.bool sb3) (.int .i64 sx3) (.int .u64 sy3)
  have A := A.putOther neAY (.bool sb3) (.int .i64 sx3) (.int .u64 sy3)
  have B := B.putOther neBY (.bool sb3) (.int .i64 sx3) (.int .u64 sy3)
  have X := X.putOther neXY (.bool sb3) (.int .i64 sx3) (.int .u64 sy3)
  have Y := Y.put sb3 sx3 sy3
  obtain ⟨a0, a1, a2, _, _, _⟩ := A.cells
  obtain ⟨b0, b1, b2, _, _, _⟩ := B.cells
  obtain ⟨x0, x1, x2, _, _, _⟩ := X.cells
  obtain ⟨y0, y1, y2, _, _, _⟩ := Y.cells
  go_wp2_with fail
  refine (h71 _).mono ?_
  rintro e w7 ⟨rfl, hb⟩
  have L := bnext L hb rfl rfl rfl rfl
  have A := A.step hb rfl
  have B := B.step hb rfl
  have X := X.step hb rfl
  have Y := Y.step hb rfl
  clear hb
  obtain ⟨x0, x1, x2, x3, x4, x5⟩ := X.cells
  have L := setAt L geX (.bool sb4) (.int .i64 sx4) (.int .u64 sy4)
  have A := A.putOther neAX (.bool sb4) (.int .i64 sx4) (.int .u64 sy4)
  have B := B.putOther neBX (.bool sb4) (.int .i64 sx4) (.int .u64 sy4)
  have Y := Y.putOther neXY.symm (.bool sb4) (.int .i64 sx4) (.int .u64 sy4)
  have X := X.put sb4 sx4 sy4
  obtain ⟨a0, a1, a2, _, _, _⟩ := A.cells
  obtain ⟨b0, b1, b2, _, _, _⟩ := B.cells
  go_wp2_with fail
  refine (h78 _).mono ?_
  rintro e w8 ⟨rfl, hb⟩
  have L := bnext L hb rfl rfl rfl rfl
  have A := A.step hb rfl
  have B := B.step hb rfl
  have X := X.step hb rfl
  have Y := Y.step hb rfl
  clear hb
  obtain ⟨y0, y1, y2, y3, y4, y5⟩ := Y.cells
  have L := setAt L geY (.bool sb4) (.int .i64 sx4) (.int .u64 sy4)
  have A := A.putOther neAY (.bool sb4) (.int .i64 sx4) (.int .u64 sy4)
  have B := B.putOther neBY (.bool sb4) (.int .i64 sx4) (.int .u64 sy4)
  have X := X.putOther neXY (.bool sb4) (.int .i64 sx4) (.int .u64 sy4)
  have Y := Y.put sb4 sx4 sy4
  obtain ⟨a0, a1, a2, _, _, _⟩ := A.cells
  obtain ⟨b0, b1, b2, _, _, _⟩ := B.cells
  obtain ⟨x0, x1, x2, _, _, _⟩ := X.cells
  obtain ⟨y0, y1, y2, _, _, _⟩ := Y.cells
  go_wp2_with fail
  refine (h74 _).mono ?_
  rintro e w9 ⟨rfl, hb⟩
  have L := bnext L hb rfl rfl rfl rfl
  have A := A.step hb rfl
  have B := B.step hb rfl
  have X := X.step hb rfl
  have Y := Y.step hb rfl
  clear hb
  obtain ⟨x0, x1, x2, x3, x4, x5⟩ := X.cells
  have L := setAt L geX (.bool sb5) (.int .i64 sx5) (.int .u64 sy5)
  have A := A.putOther neAX (.bool sb5) (.int .i64 sx5) (.int .u64 sy5)
  have B := B.putOther neBX (.bool sb5) (.int .i64 sx5) (.int .u64 sy5)
  have Y := Y.putOther neXY.symm (.bool sb5) (.int .i64 sx5) (.int .u64 sy5)
  have X := X.put sb5 sx5 sy5
  obtain ⟨a0, a1, a2, _, _, _⟩ := A.cells
  obtain ⟨b0, b1, b2, _, _, _⟩ := B.cells
  go_wp2_with fail
  refine (h79 _).mono ?_
  rintro e w10 ⟨rfl, hb⟩
  have L := bnext L hb rfl rfl rfl rfl
  have A := A.step hb rfl
  have B := B.step hb rfl
  have X := X.step hb rfl
  have Y := Y.step hb rfl
  clear hb
  obtain ⟨y0, y1, y2, y3, y4, y5⟩ := Y.cells
  have L := setAt L geY (.bool sb5) (.int .i64 sx5) (.int .u64 sy5)
  have A := A.putOther neAY (.bool sb5) (.int .i64 sx5) (.int .u64 sy5)
  have B := B.putOther neBY (.bool sb5) (.int .i64 sx5) (.int .u64 sy5)
  have X := X.putOther neXY (.bool sb5) (.int .i64 sx5) (.int .u64 sy5)
  have Y := Y.put sb5 sx5 sy5
  obtain ⟨x0, x1, x2, _, _, _⟩ := X.cells
  obtain ⟨y0, y1, y2, _, _, _⟩ := Y.cells
  go_wp2_with fail
  refine (lawAwake_calls _).mono ?_
  rintro e w11 ⟨rfl, hb⟩
  have L := bnext L hb rfl rfl rfl rfl
  clear hb
  go_wp2
  go_ret
  exact ⟨by first | rfl | simp, ⟨L.os, L.tape, L.output, L.size, L.block⟩⟩

theorem numReckons_walk (p : Bool) (i u : Int) (q : Bool) (j v : Int) (w : World) (wi : (Lit.int .i64 i).wf = true) (wu : (Lit.int .u64 u).wf = true) (wj : (Lit.int .i64 j).wf = true) (wv : (Lit.int .u64 v).wf = true) :
    Calls Try.prog 23 #[numV p i u, numV q j v] w fun e w' => e = .returned (.bool true) ∧ Below w.heap.size w w' := by
  have hi : fits i := i64_range wi
  have hj : fits j := i64_range wj
  have hu : Rng u := u64_range wu
  have hv : Rng v := u64_range wv
  exact numReckons_of p q i u j v _ _ _ _ _ _ _ _ _ _ _ _ _ _ _ _ _ _ _ _ w (numAdd_calls p q i u j v hi hj) (refAdd_num p q i u j v hi hj hu hv) (numSub_calls p q i u j v hi hj) (refSub_num p q i u j v hi hj hu hv) (numMul_calls p q i u j v hi hj) (refMul_num p q i u j v hi hj hu hv) (numDiv_calls p q i u j v) (refDiv_num p q i u j v hu hv) (numNeg_calls p i u hi hu.1 hu.2) (refNeg_num p i u hi hu)
end Go.Proofs.Ytieddikacnmhlaa

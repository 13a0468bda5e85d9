/- A whole number beside a double counts as its double, on either side. -/
import Derived.Test.YtieddikacnmhlaaT
namespace Go.Proofs.Ytieddikacnmhlaa
open Go.RowKit

theorem balloc2 {B : Nat} {w W : World} (h : Below B w W) (hB : B ≤ W.heap.size) (o o' : Obj) : Below B w ((W.alloc o).alloc o') :=
  balloc (balloc h hB o) (by rw [alloc_size]; omega) o'
set_option maxRecDepth 100000 in
set_option maxHeartbeats 6400000 in
theorem numMixes_of (i d f x u s p : Int) (w : World) (hf : sInt i = f)
    (hx : ∀ w, Calls Try.prog 60 #[numV true i 0, numV false 0 d] w fun e w' => e = .returned (.tuple #[numV false 0 x, .int .i64 0]) ∧ Below w.heap.size w w')
    (hy : ∀ w, Calls Try.prog 60 #[numV false 0 f, numV false 0 d] w fun e w' => e = .returned (.tuple #[numV false 0 x, .int .i64 0]) ∧ Below w.heap.size w w')
    (hu : ∀ w, Calls Try.prog 62 #[numV false 0 d, numV true i 0] w fun e w' => e = .returned (.tuple #[numV false 0 u, .int .i64 0]) ∧ Below w.heap.size w w')
    (hv : ∀ w, Calls Try.prog 62 #[numV false 0 d, numV false 0 f] w fun e w' => e = .returned (.tuple #[numV false 0 u, .int .i64 0]) ∧ Below w.heap.size w w')
    (hs : ∀ w, Calls Try.prog 73 #[numV true i 0, numV false 0 d] w fun e w' => e = .returned (.tuple #[numV false 0 s, .int .i64 0]) ∧ Below w.heap.size w w')
    (ht : ∀ w, Calls Try.prog 73 #[numV false 0 f, numV false 0 d] w fun e w' => e = .returned (.tuple #[numV false 0 s, .int .i64 0]) ∧ Below w.heap.size w w')
    (hp : ∀ w, Calls Try.prog 67 #[numV false 0 d, numV true i 0] w fun e w' => e = .returned (.tuple #[numV false 0 p, .int .i64 0]) ∧ Below w.heap.size w w')
    (hq : ∀ w, Calls Try.prog 67 #[numV false 0 d, numV false 0 f] w fun e w' => e = .returned (.tuple #[numV false 0 p, .int .i64 0]) ∧ Below w.heap.size w w') :
    Calls Try.prog 22 #[.int .i64 i, .int .u64 d] w fun e w' => e = .returned (.bool true) ∧ Below w.heap.size w w' := by
  have L := Below.refl w.heap.size w
  go_enter Try.func22, Try.ntmps22
  go_wp2_with fail
  refine (lawWhole_calls _ _).mono ?_
  rintro e w1 ⟨rfl, hb⟩
  have L := bnext L hb rfl rfl rfl rfl
  clear hb
  go_wp2_with fail
  refine (lawDouble_calls _ _).mono ?_
  rintro e w2 ⟨rfl, hb⟩
  have L := balloc2 (bnext L hb rfl rfl rfl rfl) (bnext L hb rfl rfl rfl rfl).size (.cells #[.bool true, .int .i64 i, .int .u64 0] 42) (.cells #[.bool false, .int .i64 0, .int .u64 d] 42)
  obtain ⟨A, D⟩ := boxes2 w2 true false i 0 0 d
  clear hb
  go_wp2_with fail
  refine (softFromInt_calls _ _).mono ?_
  rintro e w3 ⟨rfl, rfl⟩
  rw [hf]
  go_wp2_with fail
  refine (lawDouble_calls _ _).mono ?_
  rintro e w4 ⟨rfl, hb⟩
  have L := balloc (bnext L hb rfl rfl rfl rfl) (bnext L hb rfl rfl rfl rfl).size (.cells #[.bool false, .int .i64 0, .int .u64 f] 42)
  have A := (A.step hb rfl).alloc (.cells #[.bool false, .int .i64 0, .int .u64 f] 42)
  have D := (D.step hb rfl).alloc (.cells #[.bool false, .int .i64 0, .int .u64 f] 42)
  have F := Box.new w4 false 0 f
  clear hb
  obtain ⟨a0, a1, a2, _, _, _⟩ := A.cells
  obtain ⟨d0, d1, d2, _, _, _⟩ := D.cells
  go_wp2_with fail
  refine (hx _).mono ?_
  rintro e w5 ⟨rfl, hb⟩
  have L := balloc (bnext L hb rfl rfl rfl rfl) (bnext L hb rfl rfl rfl rfl).size (.cells #[.bool false, .int .i64 0, .int .u64 x] 42)
  have A := (A.step hb rfl).alloc (.cells #[.bool false, .int .i64 0, .int .u64 x] 42)
  have D := (D.step hb rfl).alloc (.cells #[.bool false, .int .i64 0, .int .u64 x] 42)
  have F := (F.step hb rfl).alloc (.cells #[.bool false, .int .i64 0, .int .u64 x] 42)
  have X := Box.new w5 false 0 x
  clear hb
  clear a0 a1 a2 d0 d1 d2
  obtain ⟨f0, f1, f2, _, _, _⟩ := F.cells
  obtain ⟨d0, d1, d2, _, _, _⟩ := D.cells
  go_wp2_with fail
  refine (hy _).mono ?_
  rintro e w6 ⟨rfl, hb⟩
  have L := balloc (bnext L hb rfl rfl rfl rfl) (bnext L hb rfl rfl rfl rfl).size (.cells #[.bool false, .int .i64 0, .int .u64 x] 42)
  have A := (A.step hb rfl).alloc (.cells #[.bool false, .int .i64 0, .int .u64 x] 42)
  have D := (D.step hb rfl).alloc (.cells #[.bool false, .int .i64 0, .int .u64 x] 42)
  have F := (F.step hb rfl).alloc (.cells #[.bool false, .int .i64 0, .int .u64 x] 42)
  have X := (X.step hb rfl).alloc (.cells #[.bool false, .int .i64 0, .int .u64 x] 42)
  have Y := Box.new w6 false 0 x
  clear hb
  clear f0 f1 f2 d0 d1 d2
  obtain ⟨d0, d1, d2, _, _, _⟩ := D.cells
  obtain ⟨a0, a1, a2, _, _, _⟩ := A.cells
  go_wp2_with fail
  refine (hu _).mono ?_
  rintro e w7 ⟨rfl, hb⟩
  have L := balloc (bnext L hb rfl rfl rfl rfl) (bnext L hb rfl rfl rfl rfl).size (.cells #[.bool false, .int .i64 0, .int .u64 u] 42)
  have A := (A.step hb rfl).alloc (.cells #[.bool false, .int .i64 0, .int .u64 u] 42)
  have D := (D.step hb rfl).alloc (.cells #[.bool false, .int .i64 0, .int .u64 u] 42)
  have F := (F.step hb rfl).alloc (.cells #[.bool false, .int .i64 0, .int .u64 u] 42)
  have X := (X.step hb rfl).alloc (.cells #[.bool false, .int .i64 0, .int .u64 u] 42)
  have Y := (Y.step hb rfl).alloc (.cells #[.bool false, .int .i64 0, .int .u64 u] 42)
  have U := Box.new w7 false 0 u
  clear hb
  clear d0 d1 d2 a0 a1 a2
  obtain ⟨d0, d1, d2, _, _, _⟩ := D.cells
  obtain ⟨f0, f1, f2, _, _, _⟩ := F.cells
  go_wp2_with fail
  refine (hv _).mono ?_
  rintro e w8 ⟨rfl, hb⟩
  have L := balloc (bnext L hb rfl rfl rfl rfl) (bnext L hb rfl rfl rfl rfl).size (.cells #[.bool false, .int .i64 0, .int .u64 u] 42)
  have A := (A.step hb rfl).alloc (.cells #[.bool false, .int .i64 0, .int .u64 u] 42)
  have D := (D.step hb rfl).alloc (.cells #[.bool false, .int .i64 0, .int .u64 u] 42)
  have F := (F.step hb rfl).alloc (.cells #[.bool false, .int .i64 0, .int .u64 u] 42)
  have X := (X.step hb rfl).alloc (.cells #[.bool false, .int .i64 0, .int .u64 u] 42)
  have Y := (Y.step hb rfl).alloc (.cells #[.bool false, .int .i64 0, .int .u64 u] 42)
  have U := (U.step hb rfl).alloc (.cells #[.bool false, .int .i64 0, .int .u64 u] 42)
  have V := Box.new w8 false 0 u
  clear hb
  clear d0 d1 d2 f0 f1 f2
  obtain ⟨a0, a1, a2, _, _, _⟩ := A.cells
  obtain ⟨d0, d1, d2, _, _, _⟩ := D.cells
  go_wp2_with fail
  refine (hs _).mono ?_
  rintro e w9 ⟨rfl, hb⟩
  have L := balloc (bnext L hb rfl rfl rfl rfl) (bnext L hb rfl rfl rfl rfl).size (.cells #[.bool false, .int .i64 0, .int .u64 s] 42)
  have A := (A.step hb rfl).alloc (.cells #[.bool false, .int .i64 0, .int .u64 s] 42)
  have D := (D.step hb rfl).alloc (.cells #[.bool false, .int .i64 0, .int .u64 s] 42)
  have F := (F.step hb rfl).alloc (.cells #[.bool false, .int .i64 0, .int .u64 s] 42)
  have X := (X.step hb rfl).alloc (.cells #[.bool false, .int .i64 0, .int .u64 s] 42)
  have Y := (Y.step hb rfl).alloc (.cells #[.bool false, .int .i64 0, .int .u64 s] 42)
  have U := (U.step hb rfl).alloc (.cells #[.bool false, .int .i64 0, .int .u64 s] 42)
  have V := (V.step hb rfl).alloc (.cells #[.bool false, .int .i64 0, .int .u64 s] 42)
  have S := Box.new w9 false 0 s
  clear hb
  clear a0 a1 a2 d0 d1 d2
  obtain ⟨f0, f1, f2, _, _, _⟩ := F.cells
  obtain ⟨d0, d1, d2, _, _, _⟩ := D.cells
  go_wp2_with fail
  refine (ht _).mono ?_
  rintro e w10 ⟨rfl, hb⟩
  have L := balloc (bnext L hb rfl rfl rfl rfl) (bnext L hb rfl rfl rfl rfl).size (.cells #[.bool false, .int .i64 0, .int .u64 s] 42)
  have A := (A.step hb rfl).alloc (.cells #[.bool false, .int .i64 0, .int .u64 s] 42)
  have D := (D.step hb rfl).alloc (.cells #[.bool false, .int .i64 0, .int .u64 s] 42)
  have F := (F.step hb rfl).alloc (.cells #[.bool false, .int .i64 0, .int .u64 s] 42)
  have X := (X.step hb rfl).alloc (.cells #[.bool false, .int .i64 0, .int .u64 s] 42)
  have Y := (Y.step hb rfl).alloc (.cells #[.bool false, .int .i64 0, .int .u64 s] 42)
  have U := (U.step hb rfl).alloc (.cells #[.bool false, .int .i64 0, .int .u64 s] 42)
  have V := (V.step hb rfl).alloc (.cells #[.bool false, .int .i64 0, .int .u64 s] 42)
  have S := (S.step hb rfl).alloc (.cells #[.bool false, .int .i64 0, .int .u64 s] 42)
  have T := Box.new w10 false 0 s
  clear hb
  clear f0 f1 f2 d0 d1 d2
  obtain ⟨d0, d1, d2, _, _, _⟩ := D.cells
  obtain ⟨a0, a1, a2, _, _, _⟩ := A.cells
  go_wp2_with fail
  refine (hp _).mono ?_
  rintro e w11 ⟨rfl, hb⟩
  have L := balloc (bnext L hb rfl rfl rfl rfl) (bnext L hb rfl rfl rfl rfl).size (.cells #[.bool false, .int .i64 0, .int .u64 p] 42)
  have A := (A.step hb rfl).alloc (.cells #[.bool false, .int .i64 0, .int .u64 p] 42)
  have D := (D.step hb rfl).alloc (.cells #[.bool false, .int .i64 0, .int .u64 p] 42)
  have F := (F.step hb rfl).alloc (.cells #[.bool false, .int .i64 0, .int .u64 p] 42)
  have X := (X.step hb rfl).alloc (.cells #[.bool false, .int .i64 0, .int .u64 p] 42)
  have Y := (Y.step hb rfl).alloc (.cells #[.bool false, .int .i64 0, .int .u64 p] 42)
  have U := (U.step hb rfl).alloc (.cells #[.bool false, .int .i64 0, .int .u64 p] 42)
  have V := (V.step hb rfl).alloc (.cells #[.bool false, .int .i64 0, .int .u64 p] 42)
  have S := (S.step hb rfl).alloc (.cells #[.bool false, .int .i64 0, .int .u64 p] 42)
  have T := (T.step hb rfl).alloc (.cells #[.bool false, .int .i64 0, .int .u64 p] 42)
  have P := Box.new w11 false 0 p
  clear hb
  clear d0 d1 d2 a0 a1 a2
  obtain ⟨d0, d1, d2, _, _, _⟩ := D.cells
  obtain ⟨f0, f1, f2, _, _, _⟩ := F.cells
  go_wp2_with fail
  refine (hq _).mono ?_
  rintro e w12 ⟨rfl, hb⟩
  have L := balloc (bnext L hb rfl rfl rfl rfl) (bnext L hb rfl rfl rfl rfl).size (.cells #[.bool false, .int .i64 0, .int .u64 p] 42)
  have A := (A.step hb rfl).alloc (.cells #[.bool false, .int .i64 0, .int .u64 p] 42)
  have D := (D.step hb rfl).alloc (.cells #[.bool false, .int .i64 0, .int .u64 p] 42)
  have F := (F.step hb rfl).alloc (.cells #[.bool false, .int .i64 0, .int .u64 p] 42)
  have X := (X.step hb rfl).alloc (.cells #[.bool false, .int .i64 0, .int .u64 p] 42)
  have Y := (Y.step hb rfl).alloc (.cells #[.bool false, .int .i64 0, .int .u64 p] 42)
  have U := (U.step hb rfl).alloc (.cells #[.bool false, .int .i64 0, .int .u64 p] 42)
  have V := (V.step hb rfl).alloc (.cells #[.bool false, .int .i64 0, .int .u64 p] 42)
  have S := (S.step hb rfl).alloc (.cells #[.bool false, .int .i64 0, .int .u64 p] 42)
  have T := (T.step hb rfl).alloc (.cells #[.bool false, .int .i64 0, .int .u64 p] 42)
  have P := (P.step hb rfl).alloc (.cells #[.bool false, .int .i64 0, .int .u64 p] 42)
  have Q := Box.new w12 false 0 p
  clear hb
  clear d0 d1 d2 f0 f1 f2
  clear A D F
  obtain ⟨x0, x1, x2, _, _, _⟩ := X.cells
  obtain ⟨y0, y1, y2, _, _, _⟩ := Y.cells
  obtain ⟨u0, u1, u2, _, _, _⟩ := U.cells
  obtain ⟨v0, v1, v2, _, _, _⟩ := V.cells
  obtain ⟨s0, s1, s2, _, _, _⟩ := S.cells
  obtain ⟨t0, t1, t2, _, _, _⟩ := T.cells
  obtain ⟨p0, p1, p2, _, _, _⟩ := P.cells
  obtain ⟨q0, q1, q2, _, _, _⟩ := Q.cells
  have ex : (x == x) = true := beq_self_eq_true x
  have eu : (u == u) = true := beq_self_eq_true u
  have es : (s == s) = true := beq_self_eq_true s
  have ep : (p == p) = true := beq_self_eq_true p
  go_wp2_with fail
  refine (lawAwake_calls _).mono ?_
  rintro e w13 ⟨rfl, hb⟩
  have L := bnext L hb rfl rfl rfl rfl
  clear hb
  go_wp2
  go_ret
  exact ⟨by first | rfl | simp, ⟨L.os, L.tape, L.output, L.size, L.block⟩⟩

theorem numMixes_walk (i d : Int) (w : World) (wi : (Lit.int .i64 i).wf = true) (_ : (Lit.int .u64 d).wf = true) :
    Calls Try.prog 22 #[.int .i64 i, .int .u64 d] w fun e w' => e = .returned (.bool true) ∧ Below w.heap.size w w' := by
  have hi : fits i := i64_range wi
  exact numMixes_of i d (sInt i) (sAdd (sInt i) d) (sMul d (sInt i)) (sSub (sInt i) d) (sFloorDiv d (sInt i)) w rfl
    (numAdd_calls true false i 0 0 d hi fits_zero) (numAdd_calls false false 0 (sInt i) 0 d fits_zero fits_zero)
    (numMul_calls false true 0 d i 0 fits_zero hi) (numMul_calls false false 0 d 0 (sInt i) fits_zero fits_zero)
    (numSub_calls true false i 0 0 d hi fits_zero) (numSub_calls false false 0 (sInt i) 0 d fits_zero fits_zero)
    (numFloorDiv_calls false true 0 d i 0 fits_zero hi) (numFloorDiv_calls false false 0 d 0 (sInt i) fits_zero fits_zero)
end Go.Proofs.Ytieddikacnmhlaa

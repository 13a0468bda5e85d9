/- A product of a sum is the sum of the products, where none of them overflows. -/
import Derived.Test.YtieddikacnmhlaaT
import Derived.Deep.DeepCutAuto
namespace Go.Proofs.Ytieddikacnmhlaa
open Go.RowKit
set_option linter.unusedSimpArgs false

set_option maxRecDepth 100000 in
set_option maxHeartbeats 6400000 in
theorem numSpreads_of (a b c : Int) (sb xb pb qb yb : Bool) (sx sy sc xx xy xc px py pc qx qy qc yx yy yc : Int) (w : World)
    (h1 : ∀ w, Calls Try.prog 60 #[numV true b 0, numV true c 0] w fun e w' => e = .returned (.tuple #[numV sb sx sy, .int .i64 sc]) ∧ Below w.heap.size w w')
    (h2 : ∀ w, Calls Try.prog 62 #[numV true a 0, numV sb sx sy] w fun e w' => e = .returned (.tuple #[numV xb xx xy, .int .i64 xc]) ∧ Below w.heap.size w w')
    (h3 : ∀ w, Calls Try.prog 62 #[numV true a 0, numV true b 0] w fun e w' => e = .returned (.tuple #[numV pb px py, .int .i64 pc]) ∧ Below w.heap.size w w')
    (h4 : ∀ w, Calls Try.prog 62 #[numV true a 0, numV true c 0] w fun e w' => e = .returned (.tuple #[numV qb qx qy, .int .i64 qc]) ∧ Below w.heap.size w w')
    (h5 : ∀ w, Calls Try.prog 60 #[numV pb px py, numV qb qx qy] w fun e w' => e = .returned (.tuple #[numV yb yx yy, .int .i64 yc]) ∧ Below w.heap.size w w')
    (hs : ((sc != 0) = false ∧ (xc != 0) = false ∧ (pc != 0) = false ∧ (qc != 0) = false ∧ (yc != 0) = false ∧ xb = yb ∧ xx = yx ∧ xy = yy) ∨
      (sc != 0) = true ∨ ((sc != 0) = false ∧ (xc != 0) = true) ∨ ((sc != 0) = false ∧ (xc != 0) = false ∧ (pc != 0) = true) ∨ ((sc != 0) = false ∧ (xc != 0) = false ∧ (pc != 0) = false ∧ (qc != 0) = true) ∨
      ((sc != 0) = false ∧ (xc != 0) = false ∧ (pc != 0) = false ∧ (qc != 0) = false ∧ (yc != 0) = true)) :
    Calls Try.prog 14 #[.int .i64 a, .int .i64 b, .int .i64 c] w fun e w' => e = .returned (.bool true) ∧ Below w.heap.size w w' := by
  have L := Below.refl w.heap.size w
  go_enter Try.func14, Try.ntmps14
  go_wp2_with fail
  refine (lawWhole_calls _ _).mono ?_
  rintro e w1 ⟨rfl, hb⟩
  have L := bnext L hb rfl rfl rfl rfl
  clear hb
  go_wp2_with fail
  refine (lawWhole_calls _ _).mono ?_
  rintro e w2 ⟨rfl, hb⟩
  have L := bnext L hb rfl rfl rfl rfl
  clear hb
  go_wp2_with fail
  refine (h1 _).mono ?_
  rintro e w3 ⟨rfl, hb⟩
  have L := balloc (bnext L hb rfl rfl rfl rfl) (bnext L hb rfl rfl rfl rfl).size (.cells #[.bool sb, .int .i64 sx, .int .u64 sy] 42)
  have S := Box.new w3 sb sx sy
  clear hb
  go_upto_region 2 with fail
  go_cut [9, 10] (fun s9 s10 wx => ∃ g : Nat, s9 = .pointer (some ⟨g, 0, none⟩) ∧ s10 = .int .i64 xc ∧ Box wx g xb xx xy ∧ Below w.heap.size w wx)
  case first =>
    obtain ⟨s0, s1, s2, _, _, _⟩ := S.cells
    obtain ⟨s6, s7, s8, _, _, _⟩ := (S.drew.alloc (.cells #[.bool false, .int .i64 0, .int .u64 0] 42)).cells
    go_region_with (first | (go_at_call 61; refine (lawWhole_calls _ _).mono ?_; rintro e w4 ⟨rfl, hb⟩; first | (have L := bnext L hb rfl rfl rfl rfl; have X := X.step hb rfl; have S := S.step hb rfl; clear hb; obtain ⟨x0, x1, x2, _, _, _⟩ := X.cells; obtain ⟨s0, s1, s2, _, _, _⟩ := S.cells) | (have Xge := L.size; (try simp only [drew_heap, alloc_size] at Xge); have L := bnext (balloc L L.size (.cells #[.bool false, .int .i64 0, .int .u64 0] 42)) hb rfl rfl rfl rfl; have X := (Box.new _ false 0 0).step hb rfl; (try simp only [drew_heap, alloc_size] at X); have Slt := S.lt; (try simp only [drew_heap, alloc_size] at Slt); have S := (S.alloc (.cells #[.bool false, .int .i64 0, .int .u64 0] 42)).step hb rfl; clear hb; obtain ⟨x0, x1, x2, _, _, _⟩ := X.cells; obtain ⟨s0, s1, s2, _, _, _⟩ := S.cells) | (have L := bnext L hb rfl rfl rfl rfl; have S := S.step hb rfl; clear hb; obtain ⟨s0, s1, s2, _, _, _⟩ := S.cells; obtain ⟨s6, s7, s8, _, _, _⟩ := (S.alloc (.cells #[.bool false, .int .i64 0, .int .u64 0] 42)).cells)) | (go_at_call 62; refine (h2 _).mono ?_; rintro e w5 ⟨rfl, hb⟩; first | (have L := bnext L hb rfl rfl rfl rfl; have X := X.step hb rfl; have S := S.step hb rfl; clear hb; obtain ⟨x0, x1, x2, x3, x4, x5⟩ := X.cells; have LL := setAt L Xge (.bool xb) (.int .i64 xx) (.int .u64 xy); clear L; have L := LL; clear LL; have S := S.putOther (Nat.ne_of_lt Slt) (.bool xb) (.int .i64 xx) (.int .u64 xy); have X := X.put xb xx xy) | (have Xge := L.size; (try simp only [drew_heap, alloc_size] at Xge); have L := bnext (balloc L L.size (.cells #[.bool false, .int .i64 0, .int .u64 0] 42)) hb rfl rfl rfl rfl; have X := (Box.new _ false 0 0).step hb rfl; (try simp only [drew_heap, alloc_size] at X); have Slt := S.lt; (try simp only [drew_heap, alloc_size] at Slt); have S := (S.alloc (.cells #[.bool false, .int .i64 0, .int .u64 0] 42)).step hb rfl; clear hb; obtain ⟨x0, x1, x2, x3, x4, x5⟩ := X.cells; have LL := setAt L Xge (.bool xb) (.int .i64 xx) (.int .u64 xy); clear L; have L := LL; clear LL; have S := S.putOther (Nat.ne_of_lt Slt) (.bool xb) (.int .i64 xx) (.int .u64 xy); have X := X.put xb xx xy) | (have L := balloc (bnext L hb rfl rfl rfl rfl) (bnext L hb rfl rfl rfl rfl).size (.cells #[.bool xb, .int .i64 xx, .int .u64 xy] 42); have S := (S.step hb rfl).alloc (.cells #[.bool xb, .int .i64 xx, .int .u64 xy] 42); have X := Box.new w5 xb xx xy; clear hb)))
    all_goals (go_wp2_with fail; go_meet; exact ⟨_, rfl, rfl, X, L⟩)
  case rest =>
    obtain ⟨g, rfl, rfl, X, L⟩ := hcut
    go_wp2_with fail
    refine (lawWhole_calls _ _).mono ?_
    rintro e w6 ⟨rfl, hb⟩
    have L := bnext L hb rfl rfl rfl rfl
    have X := X.step hb rfl
    clear hb
    go_wp2_with fail
    refine (lawWhole_calls _ _).mono ?_
    rintro e w7 ⟨rfl, hb⟩
    have L := bnext L hb rfl rfl rfl rfl
    have X := X.step hb rfl
    clear hb
    go_wp2_with fail
    refine (h3 _).mono ?_
    rintro e w8 ⟨rfl, hb⟩
    have L := balloc (bnext L hb rfl rfl rfl rfl) (bnext L hb rfl rfl rfl rfl).size (.cells #[.bool pb, .int .i64 px, .int .u64 py] 42)
    have X := (X.step hb rfl).alloc (.cells #[.bool pb, .int .i64 px, .int .u64 py] 42)
    have P := Box.new w8 pb px py
    clear hb
    go_wp2_with fail
    refine (lawWhole_calls _ _).mono ?_
    rintro e w9 ⟨rfl, hb⟩
    have L := bnext L hb rfl rfl rfl rfl
    have X := X.step hb rfl
    have P := P.step hb rfl
    clear hb
    go_wp2_with fail
    refine (lawWhole_calls _ _).mono ?_
    rintro e w10 ⟨rfl, hb⟩
    have L := bnext L hb rfl rfl rfl rfl
    have X := X.step hb rfl
    have P := P.step hb rfl
    clear hb
    go_wp2_with fail
    refine (h4 _).mono ?_
    rintro e w11 ⟨rfl, hb⟩
    have L := balloc (bnext L hb rfl rfl rfl rfl) (bnext L hb rfl rfl rfl rfl).size (.cells #[.bool qb, .int .i64 qx, .int .u64 qy] 42)
    have X := (X.step hb rfl).alloc (.cells #[.bool qb, .int .i64 qx, .int .u64 qy] 42)
    have P := (P.step hb rfl).alloc (.cells #[.bool qb, .int .i64 qx, .int .u64 qy] 42)
    have Q := Box.new w11 qb qx qy
    clear hb
    obtain ⟨p0, p1, p2, _, _, _⟩ := P.cells
    obtain ⟨q0, q1, q2, _, _, _⟩ := Q.cells
    go_wp2_with fail
    refine (h5 _).mono ?_
    rintro e w12 ⟨rfl, hb⟩
    have L := balloc (bnext L hb rfl rfl rfl rfl) (bnext L hb rfl rfl rfl rfl).size (.cells #[.bool yb, .int .i64 yx, .int .u64 yy] 42)
    have X := (X.step hb rfl).alloc (.cells #[.bool yb, .int .i64 yx, .int .u64 yy] 42)
    have P := (P.step hb rfl).alloc (.cells #[.bool yb, .int .i64 yx, .int .u64 yy] 42)
    have Q := (Q.step hb rfl).alloc (.cells #[.bool yb, .int .i64 yx, .int .u64 yy] 42)
    have Y := Box.new w12 yb yx yy
    clear hb
    clear p0 p1 p2 q0 q1 q2 S P Q
    rcases hs with ⟨t1, t2, t3, t4, t5, rfl, rfl, rfl⟩ | t1 | ⟨t1, t2⟩ | ⟨t1, t2, t3⟩ | ⟨t1, t2, t3, t4⟩ | ⟨t1, t2, t3, t4, t5⟩
    · have tb : (xb == xb) = true := beq_self_eq_true xb
      have tx : (xx == xx) = true := beq_self_eq_true xx
      have ty : (xy == xy) = true := beq_self_eq_true xy
      obtain ⟨x0, x1, x2, _, _, _⟩ := X.cells
      obtain ⟨y0, y1, y2, _, _, _⟩ := Y.cells
      go_wp2_with fail
      refine (lawAwake_calls _).mono ?_
      rintro e w13 ⟨rfl, hb⟩
      have L := bnext L hb rfl rfl rfl rfl
      have X := X.step hb rfl
      have Y := Y.step hb rfl
      clear hb
      go_wp2
      go_ret
      exact ⟨by first | rfl | simp, ⟨L.os, L.tape, L.output, L.size, L.block⟩⟩
    · go_wp2_with fail
      refine (lawAwake_calls _).mono ?_
      rintro e wz ⟨rfl, hb⟩
      have L := bnext L hb rfl rfl rfl rfl
      clear hb
      go_wp2
      go_ret
      exact ⟨by first | rfl | simp, ⟨L.os, L.tape, L.output, L.size, L.block⟩⟩
    · go_wp2_with fail
      refine (lawAwake_calls _).mono ?_
      rintro e wz ⟨rfl, hb⟩
      have L := bnext L hb rfl rfl rfl rfl
      clear hb
      go_wp2
      go_ret
      exact ⟨by first | rfl | simp, ⟨L.os, L.tape, L.output, L.size, L.block⟩⟩
    · go_wp2_with fail
      refine (lawAwake_calls _).mono ?_
      rintro e wz ⟨rfl, hb⟩
      have L := bnext L hb rfl rfl rfl rfl
      clear hb
      go_wp2
      go_ret
      exact ⟨by first | rfl | simp, ⟨L.os, L.tape, L.output, L.size, L.block⟩⟩
    · go_wp2_with fail
      refine (lawAwake_calls _).mono ?_
      rintro e wz ⟨rfl, hb⟩
      have L := bnext L hb rfl rfl rfl rfl
      clear hb
      go_wp2
      go_ret
      exact ⟨by first | rfl | simp, ⟨L.os, L.tape, L.output, L.size, L.block⟩⟩
    · go_wp2_with fail
      refine (lawAwake_calls _).mono ?_
      rintro e wz ⟨rfl, hb⟩
      have L := bnext L hb rfl rfl rfl rfl
      clear hb
      go_wp2
      go_ret
      exact ⟨by first | rfl | simp, ⟨L.os, L.tape, L.output, L.size, L.block⟩⟩

theorem numSpreads_walk (a b c : Int) (w : World) (wa : (Lit.int .i64 a).wf = true) (wb : (Lit.int .i64 b).wf = true) (wc : (Lit.int .i64 c).wf = true) :
    Calls Try.prog 14 #[.int .i64 a, .int .i64 b, .int .i64 c] w fun e w' => e = .returned (.bool true) ∧ Below w.heap.size w w' := by
  have ha : fits a := i64_range wa
  have hb : fits b := i64_range wb
  have hc : fits c := i64_range wc
  by_cases f1 : fits (b + c)
  · by_cases f2 : fits (a * (b + c))
    · by_cases f3 : fits (a * b)
      · by_cases f4 : fits (a * c)
        · exact numSpreads_of a b c true true true true true _ _ 0 _ _ 0 _ _ 0 _ _ 0 _ _ 0 w (add_ok hb hc f1 0 0) (mul_ok ha f1 f2 0 0) (mul_ok ha hb f3 0 0) (mul_ok ha hc f4 0 0) (add_ok f3 f4 (by rw [← Int.mul_add]; exact f2) 0 0) (.inl ⟨rfl, rfl, rfl, rfl, rfl, rfl, Int.mul_add _ _ _, rfl⟩)
        · exact numSpreads_of a b c _ _ _ _ _ _ _ 0 _ _ 0 _ _ 0 _ _ 10 _ _ _ w (add_ok hb hc f1 0 0) (mul_ok ha f1 f2 0 0) (mul_ok ha hb f3 0 0) (mul_err ha hc f4 0 0) (numAdd_calls true false _ _ _ _ f3 fits_zero) (.inr (.inr (.inr (.inr (.inl ⟨rfl, rfl, rfl, rfl⟩)))))
      · exact numSpreads_of a b c _ _ _ _ _ _ _ 0 _ _ 0 _ _ 10 _ _ _ _ _ _ w (add_ok hb hc f1 0 0) (mul_ok ha f1 f2 0 0) (mul_err ha hb f3 0 0) (numMul_calls true true a 0 c 0 ha hc) (numAdd_calls false _ _ _ _ _ fits_zero (opN_fits _)) (.inr (.inr (.inr (.inl ⟨rfl, rfl, rfl⟩))))
    · exact numSpreads_of a b c _ _ _ _ _ _ _ 0 _ _ 10 _ _ _ _ _ _ _ _ _ w (add_ok hb hc f1 0 0) (mul_err ha f1 f2 0 0) (numMul_calls true true a 0 b 0 ha hb) (numMul_calls true true a 0 c 0 ha hc) (numAdd_calls _ _ _ _ _ _ (opN_fits _) (opN_fits _)) (.inr (.inr (.inl ⟨rfl, rfl⟩)))
  · exact numSpreads_of a b c _ _ _ _ _ _ _ 10 _ _ _ _ _ _ _ _ _ _ _ _ w (add_err hb hc f1 0 0) (numMul_calls true false a 0 _ _ ha fits_zero) (numMul_calls true true a 0 b 0 ha hb) (numMul_calls true true a 0 c 0 ha hc) (numAdd_calls _ _ _ _ _ _ (opN_fits _) (opN_fits _)) (.inr (.inl rfl))
end Go.Proofs.Ytieddikacnmhlaa

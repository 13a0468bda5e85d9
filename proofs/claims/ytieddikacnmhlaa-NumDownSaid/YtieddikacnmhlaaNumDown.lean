/- A quotient that is rounded down is at most the exact one, by comparison of products; Div of whole numbers is the quotient of their doubles. -/
import Derived.Test.YtieddikacnmhlaaT
import Derived.Deep.DeepCutAuto
namespace Go.Proofs.Ytieddikacnmhlaa
open Go.RowKit
set_option linter.unusedSimpArgs false

set_option maxRecDepth 100000 in
set_option maxHeartbeats 6400000 in
theorem numDown_of (a b v : Int) (qb pb : Bool) (qx qy qc px py pc : Int) (w : World)
    (h1 : ∀ w, Calls Try.prog 71 #[numV true a 0, numV true b 0] w fun e w' => e = .returned (.tuple #[numV false 0 v, .int .i64 0]) ∧ Below w.heap.size w w')
    (h43 : ∀ w, Calls Try.prog 43 #[.int .u64 (sInt a), .int .u64 (sInt b)] w fun e w' => e = .returned (.int .u64 v) ∧ Dr w w')
    (h2 : ∀ w, Calls Try.prog 67 #[numV true a 0, numV true b 0] w fun e w' => e = .returned (.tuple #[numV qb qx qy, .int .i64 qc]) ∧ Below w.heap.size w w')
    (h3 : ∀ w, Calls Try.prog 62 #[numV qb qx qy, numV true b 0] w fun e w' => e = .returned (.tuple #[numV pb px py, .int .i64 pc]) ∧ Below w.heap.size w w')
    (hs : ((qc != 0) = true ∧ (b == 0) = true) ∨ ((qc != 0) = true ∧ (b == 0) = false ∧ (a == -9223372036854775808) = true ∧ (b == -1) = true) ∨
      ((qc != 0) = false ∧ ((pc != 0) = true ∨
        ((pc != 0) = false ∧ decide (0 < b) = true ∧ ∀ w, Calls Try.prog 54 #[numV pb px py, numV true a 0] w fun e w' => e = .returned (.bool true) ∧ Below w.heap.size w w') ∨
        ((pc != 0) = false ∧ decide (0 < b) = false ∧ ∀ w, Calls Try.prog 54 #[numV true a 0, numV pb px py] w fun e w' => e = .returned (.bool true) ∧ Below w.heap.size w w')))) :
    Calls Try.prog 20 #[.int .i64 a, .int .i64 b] w fun e w' => e = .returned (.bool true) ∧ Below w.heap.size w w' := by
  have ev : (v == v) = true := beq_self_eq_true v
  have ev2 : (v != v) = false := bne_self_eq_false v
  have L := Below.refl w.heap.size w
  go_enter Try.func20, Try.ntmps20
  go_wp2_with fail
  refine (lawWhole_calls _ _).mono ?_
  rintro e w1 ⟨rfl, hb⟩
  have L := bnext L hb rfl rfl rfl rfl
  clear hb
  go_wp2_with fail
  refine (lawWhole_calls _ _).mono ?_
  rintro e w2 ⟨rfl, hb⟩
  have L := bnext L hb rfl rfl rfl rfl
  clear hb
  go_wp2_with fail
  refine (h1 _).mono ?_
  rintro e w3 ⟨rfl, hb⟩
  have L := balloc (bnext L hb rfl rfl rfl rfl) (bnext L hb rfl rfl rfl rfl).size (.cells #[.bool false, .int .i64 0, .int .u64 v] 42)
  have D := Box.new w3 false 0 v
  clear hb
  go_upto_region 2 with fail
  go_cut [30] (fun s30 wx => s30 = .bool false ∧ Below w.heap.size w wx)
  case first =>
    obtain ⟨d0, d1, d2, _, _, _⟩ := D.cells
    go_region_with (first | (go_at_call 33; refine (softFromInt_calls _ _).mono ?_; rintro e w' ⟨rfl, rfl⟩) | (go_at_call 43; refine (h43 _).mono ?_; rintro e w' ⟨rfl, n, rfl⟩) | (go_at_call 72; refine (lawDouble_calls _ _).mono ?_; rintro e w4 ⟨rfl, hb⟩; have L := bnext L hb rfl rfl rfl rfl; have D := D.step hb rfl; clear hb; obtain ⟨d0, d1, d2, _, _, _⟩ := D.cells))
    all_goals (go_wp2_with fail; go_meet; exact ⟨by first | rfl | simp, ⟨L.os, L.tape, L.output, L.size, L.block⟩⟩)
  case rest =>
    obtain ⟨rfl, L⟩ := hcut
    go_wp2_with fail
    refine (lawWhole_calls _ _).mono ?_
    rintro e w5 ⟨rfl, hb⟩
    have L := bnext L hb rfl rfl rfl rfl
    clear hb
    go_wp2_with fail
    refine (lawWhole_calls _ _).mono ?_
    rintro e w6 ⟨rfl, hb⟩
    have L := bnext L hb rfl rfl rfl rfl
    clear hb
    go_wp2_with fail
    refine (h2 _).mono ?_
    rintro e w7 ⟨rfl, hb⟩
    have L := balloc (bnext L hb rfl rfl rfl rfl) (bnext L hb rfl rfl rfl rfl).size (.cells #[.bool qb, .int .i64 qx, .int .u64 qy] 42)
    have Q := Box.new w7 qb qx qy
    clear hb
    rcases hs with ⟨t1, t2⟩ | ⟨t1, t2, t3, t4⟩ | ⟨t1, hs⟩
    · skip
      go_wp2_with fail
      refine (lawAwake_calls _).mono ?_
      rintro e w8 ⟨rfl, hb⟩
      have L := bnext L hb rfl rfl rfl rfl
      clear hb
      go_wp2
      go_ret
      exact ⟨by first | rfl | simp, ⟨L.os, L.tape, L.output, L.size, L.block⟩⟩
    · skip
      go_wp2_with fail
      refine (lawAwake_calls _).mono ?_
      rintro e w9 ⟨rfl, hb⟩
      have L := bnext L hb rfl rfl rfl rfl
      clear hb
      go_wp2
      go_ret
      exact ⟨by first | rfl | simp, ⟨L.os, L.tape, L.output, L.size, L.block⟩⟩
    · skip
      go_upto_region 7 with fail
      go_cut [9, 10] (fun s9 s10 wx => ∃ g : Nat, s9 = .pointer (some ⟨g, 0, none⟩) ∧ s10 = .int .i64 pc ∧ Box wx g pb px py ∧ Below w.heap.size w wx)
      case first =>
        obtain ⟨q0, q1, q2, _, _, _⟩ := Q.cells
        obtain ⟨q6, q7, q8, _, _, _⟩ := (Q.drew.alloc (.cells #[.bool false, .int .i64 0, .int .u64 0] 42)).cells
        go_region_with (first | (go_at_call 61; refine (lawWhole_calls _ _).mono ?_; rintro e w10 ⟨rfl, hb⟩; first | (have L := bnext L hb rfl rfl rfl rfl; have P := P.step hb rfl; have Q := Q.step hb rfl; clear hb; obtain ⟨p0, p1, p2, _, _, _⟩ := P.cells; obtain ⟨q0, q1, q2, _, _, _⟩ := Q.cells) | (have Pge := L.size; (try simp only [drew_heap, alloc_size] at Pge); have L := bnext (balloc L L.size (.cells #[.bool false, .int .i64 0, .int .u64 0] 42)) hb rfl rfl rfl rfl; have P := (Box.new _ false 0 0).step hb rfl; (try simp only [drew_heap, alloc_size] at P); have Qlt := Q.lt; (try simp only [drew_heap, alloc_size] at Qlt); have Q := (Q.alloc (.cells #[.bool false, .int .i64 0, .int .u64 0] 42)).step hb rfl; clear hb; obtain ⟨p0, p1, p2, _, _, _⟩ := P.cells; obtain ⟨q0, q1, q2, _, _, _⟩ := Q.cells) | (have L := bnext L hb rfl rfl rfl rfl; have Q := Q.step hb rfl; clear hb; obtain ⟨q0, q1, q2, _, _, _⟩ := Q.cells; obtain ⟨q6, q7, q8, _, _, _⟩ := (Q.alloc (.cells #[.bool false, .int .i64 0, .int .u64 0] 42)).cells)) | (go_at_call 62; refine (h3 _).mono ?_; rintro e w11 ⟨rfl, hb⟩; first | (have L := bnext L hb rfl rfl rfl rfl; have P := P.step hb rfl; have Q := Q.step hb rfl; clear hb; obtain ⟨p0, p1, p2, p3, p4, p5⟩ := P.cells; have LL := setAt L Pge (.bool pb) (.int .i64 px) (.int .u64 py); clear L; have L := LL; clear LL; have Q := Q.putOther (Nat.ne_of_lt Qlt) (.bool pb) (.int .i64 px) (.int .u64 py); have P := P.put pb px py) | (have Pge := L.size; (try simp only [drew_heap, alloc_size] at Pge); have L := bnext (balloc L L.size (.cells #[.bool false, .int .i64 0, .int .u64 0] 42)) hb rfl rfl rfl rfl; have P := (Box.new _ false 0 0).step hb rfl; (try simp only [drew_heap, alloc_size] at P); have Qlt := Q.lt; (try simp only [drew_heap, alloc_size] at Qlt); have Q := (Q.alloc (.cells #[.bool false, .int .i64 0, .int .u64 0] 42)).step hb rfl; clear hb; obtain ⟨p0, p1, p2, p3, p4, p5⟩ := P.cells; have LL := setAt L Pge (.bool pb) (.int .i64 px) (.int .u64 py); clear L; have L := LL; clear LL; have Q := Q.putOther (Nat.ne_of_lt Qlt) (.bool pb) (.int .i64 px) (.int .u64 py); have P := P.put pb px py) | (have L := balloc (bnext L hb rfl rfl rfl rfl) (bnext L hb rfl rfl rfl rfl).size (.cells #[.bool pb, .int .i64 px, .int .u64 py] 42); have Q := (Q.step hb rfl).alloc (.cells #[.bool pb, .int .i64 px, .int .u64 py] 42); have P := Box.new w11 pb px py; clear hb)))
        all_goals (go_wp2_with fail; go_meet; exact ⟨_, rfl, rfl, P, L⟩)
      case rest =>
        obtain ⟨g, rfl, rfl, P, L⟩ := hcut
        rcases hs with t2 | ⟨t2, t3, h54⟩ | ⟨t2, t3, h54⟩
        · skip
          go_wp2_with fail
          refine (lawAwake_calls _).mono ?_
          rintro e w12 ⟨rfl, hb⟩
          have L := bnext L hb rfl rfl rfl rfl
          clear hb
          go_wp2
          go_ret
          exact ⟨by first | rfl | simp, ⟨L.os, L.tape, L.output, L.size, L.block⟩⟩
        · skip
          obtain ⟨p0, p1, p2, _, _, _⟩ := P.cells
          go_wp2_with fail
          go_region_with (first | (go_at_call 61; refine (lawWhole_calls _ _).mono ?_; rintro e w13 ⟨rfl, hb⟩; have L := bnext L hb rfl rfl rfl rfl; have P := P.step hb rfl; clear hb; obtain ⟨p0, p1, p2, _, _, _⟩ := P.cells) | (go_at_call 54; refine (h54 _).mono ?_; rintro e w14 ⟨rfl, hb⟩; have L := bnext L hb rfl rfl rfl rfl; have P := P.step hb rfl; clear hb; obtain ⟨p0, p1, p2, _, _, _⟩ := P.cells) | (go_at_call 58; refine (lawAwake_calls _).mono ?_; rintro e w15 ⟨rfl, hb⟩; have L := bnext L hb rfl rfl rfl rfl; have P := P.step hb rfl; clear hb; obtain ⟨p0, p1, p2, _, _, _⟩ := P.cells))
          all_goals
            go_wp2
            go_ret
            exact ⟨by first | rfl | simp, ⟨L.os, L.tape, L.output, L.size, L.block⟩⟩
        · skip
          obtain ⟨p0, p1, p2, _, _, _⟩ := P.cells
          go_wp2_with fail
          go_region_with (first | (go_at_call 61; refine (lawWhole_calls _ _).mono ?_; rintro e w16 ⟨rfl, hb⟩; have L := bnext L hb rfl rfl rfl rfl; have P := P.step hb rfl; clear hb; obtain ⟨p0, p1, p2, _, _, _⟩ := P.cells) | (go_at_call 54; refine (h54 _).mono ?_; rintro e w17 ⟨rfl, hb⟩; have L := bnext L hb rfl rfl rfl rfl; have P := P.step hb rfl; clear hb; obtain ⟨p0, p1, p2, _, _, _⟩ := P.cells) | (go_at_call 58; refine (lawAwake_calls _).mono ?_; rintro e w18 ⟨rfl, hb⟩; have L := bnext L hb rfl rfl rfl rfl; have P := P.step hb rfl; clear hb; obtain ⟨p0, p1, p2, _, _, _⟩ := P.cells))
          all_goals
            go_wp2
            go_ret
            exact ⟨by first | rfl | simp, ⟨L.os, L.tape, L.output, L.size, L.block⟩⟩

theorem numDown_walk (a b : Int) (w : World) (wa : (Lit.int .i64 a).wf = true) (wb : (Lit.int .i64 b).wf = true) :
    Calls Try.prog 20 #[.int .i64 a, .int .i64 b] w fun e w' => e = .returned (.bool true) ∧ Below w.heap.size w w' := by
  have ha : fits a := i64_range wa
  have hb : fits b := i64_range wb
  have hd := numDiv_calls true true a 0 b 0
  have h43 := softDiv_calls (sInt a) (sInt b)
  by_cases c : b = 0
  · subst c
    exact numDown_of a 0 _ _ _ _ _ 11 _ _ _ w hd h43 (div_zero a ha 0 0) (numMul_calls false true 0 0 0 0 fits_zero fits_zero) (.inl ⟨rfl, rfl⟩)
  · have c0 : (b == 0) = false := beq_eq_false_iff_ne.2 c
    by_cases s : a = -9223372036854775808 ∧ b = -1
    · obtain ⟨rfl, rfl⟩ := s
      exact numDown_of _ _ _ _ _ _ _ 10 _ _ _ w hd h43 (div_err ha hb c (by decide) 0 0) (numMul_calls false true 0 0 (-1) 0 fits_zero hb) (.inr (.inl ⟨rfl, rfl, rfl, rfl⟩))
    · have hq := (fits_quot ha c s).2
      have h2 := div_ok ha hb c hq 0 0
      have e := Int.fdiv_mul_add_fmod a b
      by_cases f : fits (a.fdiv b * b)
      · have h3 := mul_ok hq hb f 0 0
        by_cases cp : 0 < b
        · have hr := Int.fmod_nonneg_of_pos a cp
          refine numDown_of a b _ _ _ _ _ 0 _ _ 0 w hd h43 h2 h3 (.inr (.inr ⟨rfl, .inr (.inl ⟨rfl, decide_eq_true cp, fun w => ?_⟩)⟩))
          have := numLessEq_calls true true (a.fdiv b * b) 0 a 0 f ha w
          rw [leq_tt (by omega)] at this; exact this
        · obtain ⟨_, f2⟩ := rests_facts ha c hq
          have hr : a.fmod b ≤ 0 := by
            rcases f2 with ⟨f3, _⟩ | ⟨_, f3, _⟩
            · exact absurd (of_decide_eq_true f3) cp
            · exact of_decide_eq_true f3
          refine numDown_of a b _ _ _ _ _ 0 _ _ 0 w hd h43 h2 h3 (.inr (.inr ⟨rfl, .inr (.inr ⟨rfl, decide_eq_false cp, fun w => ?_⟩)⟩))
          have := numLessEq_calls true true a 0 (a.fdiv b * b) 0 ha f w
          rw [leq_tt (by omega)] at this; exact this
      · exact numDown_of a b _ _ _ _ _ 0 _ _ 10 w hd h43 h2 (mul_err hq hb f 0 0) (.inr (.inr ⟨rfl, .inl rfl⟩))
end Go.Proofs.Ytieddikacnmhlaa

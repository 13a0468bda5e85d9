/- A sum is undone by a difference; either way round; where a sum overflows, the halves tell that it must. -/
import Derived.Test.YtieddikacnmhlaaT
import Derived.Deep.DeepCutAuto
import Derived.Deep.RegionHeld3
import Derived.IntWalk
namespace Go.Proofs.Ytieddikacnmhlaa
open Go.RowKit
set_option linter.unusedSimpArgs false

set_option maxRecDepth 100000 in
set_option maxHeartbeats 16000000 in
theorem numRing_of (a b : Int) (sb pb nb : Bool) (sx sy sc px py pc nx ny nc : Int) (w : World)
    (h1 : ∀ w, Calls Try.prog 60 #[numV true a 0, numV true b 0] w fun e w' => e = .returned (.tuple #[numV sb sx sy, .int .i64 sc]) ∧ Below w.heap.size w w')
    (h2 : ∀ w, Calls Try.prog 60 #[numV true b 0, numV true a 0] w fun e w' => e = .returned (.tuple #[numV sb sx sy, .int .i64 sc]) ∧ Below w.heap.size w w')
    (h4 : ∀ w, Calls Try.prog 62 #[numV true a 0, numV true b 0] w fun e w' => e = .returned (.tuple #[numV pb px py, .int .i64 pc]) ∧ Below w.heap.size w w')
    (h5 : ∀ w, Calls Try.prog 62 #[numV true b 0, numV true a 0] w fun e w' => e = .returned (.tuple #[numV pb px py, .int .i64 pc]) ∧ Below w.heap.size w w')
    (h6 : ∀ w, Calls Try.prog 74 #[numV true a 0] w fun e w' => e = .returned (.tuple #[numV nb nx ny, .int .i64 nc]) ∧ Below w.heap.size w w')
    (h7 : ∀ w, Calls Try.prog 73 #[numV true 0 0, numV true a 0] w fun e w' => e = .returned (.tuple #[numV nb nx ny, .int .i64 nc]) ∧ Below w.heap.size w w')
    (hs : ((sc == 0) = true ∧ ((sx != wrap64 (a + b)) = false ∧ (sx != IntKind.i64.wrap (a + b)) = false) ∧ ∀ w, Calls Try.prog 73 #[numV sb sx sy, numV true b 0] w fun e w' => e = .returned (.tuple #[numV true a 0, .int .i64 0]) ∧ Below w.heap.size w w') ∨
      ((sc == 0) = false ∧ (sc != 10) = false ∧ (decide (-4611686018427387904 < (wrap64 (wrap64 (wrap64 (a.tdiv 2) + wrap64 (b.tdiv 2)) + wrap64 ((wrap64 (a.tmod 2 + b.tmod 2)).tdiv 2)))) = false ∨ (decide (-4611686018427387904 < (wrap64 (wrap64 (wrap64 (a.tdiv 2) + wrap64 (b.tdiv 2)) + wrap64 ((wrap64 (a.tmod 2 + b.tmod 2)).tdiv 2)))) = true ∧ decide ((wrap64 (wrap64 (wrap64 (a.tdiv 2) + wrap64 (b.tdiv 2)) + wrap64 ((wrap64 (a.tmod 2 + b.tmod 2)).tdiv 2))) < 4611686018427387903) = false))))
    (hp : (pc == 0) = false ∨ ((pc == 0) = true ∧ (b != 0) = false) ∨
      ((pc == 0) = true ∧ (b != 0) = true ∧ b ≠ 0 ∧ (b == 0) = false ∧ (px.tmod b != 0) = false ∧ (((b == -1) = true ∧ (px == -9223372036854775808) = true) ∨ ((b == -1) = true ∧ (px == -9223372036854775808) = false ∧ (wrap64 (px.tdiv b) != a) = false) ∨ ((b == -1) = false ∧ (wrap64 (px.tdiv b) != a) = false))))
    (hn : ((nc == 0) = true ∧ (a != -9223372036854775808) = true) ∨ ((nc == 0) = false ∧ (a != -9223372036854775808) = false)) :
    Calls Try.prog 21 #[.int .i64 a, .int .i64 b] w fun e w' => e = .returned (.bool true) ∧ Below w.heap.size w w' := by
  have esb : (sb == sb) = true := beq_self_eq_true sb
  have esx : (sx == sx) = true := beq_self_eq_true sx
  have esy : (sy == sy) = true := beq_self_eq_true sy
  have esc : (sc != sc) = false := bne_self_eq_false sc
  have epb : (pb == pb) = true := beq_self_eq_true pb
  have epx : (px == px) = true := beq_self_eq_true px
  have epy : (py == py) = true := beq_self_eq_true py
  have epc : (pc != pc) = false := bne_self_eq_false pc
  have enb : (nb == nb) = true := beq_self_eq_true nb
  have enx : (nx == nx) = true := beq_self_eq_true nx
  have eny : (ny == ny) = true := beq_self_eq_true ny
  have enc : (nc != nc) = false := bne_self_eq_false nc
  have enc2 : (nc == nc) = true := beq_self_eq_true nc
  have ea : (a == a) = true := beq_self_eq_true a
  have L := Below.refl w.heap.size w
  go_enter Try.func21, Try.ntmps21
  go_wp2_with fail
  refine (lawWhole_calls _ _).mono ?_
  rintro e w1 ⟨rfl, hb⟩
  have L := bnext L hb rfl rfl rfl rfl
  clear hb
  go_wp2_with fail
  refine (lawWhole_calls _ _).mono ?_
  rintro e w2 ⟨rfl, hb⟩
  have L := bnext L hb rfl rfl rfl rfl
  clear hb
  go_wp2_with fail
  refine (h1 _).mono ?_
  rintro e w3 ⟨rfl, hb⟩
  have L := balloc (bnext L hb rfl rfl rfl rfl) (bnext L hb rfl rfl rfl rfl).size (.cells #[.bool sb, .int .i64 sx, .int .u64 sy] 42)
  have S := Box.new w3 sb sx sy
  clear hb
  go_wp2_with fail
  refine (lawWhole_calls _ _).mono ?_
  rintro e w4 ⟨rfl, hb⟩
  have L := bnext L hb rfl rfl rfl rfl
  have S := S.step hb rfl
  clear hb
  go_wp2_with fail
  refine (lawWhole_calls _ _).mono ?_
  rintro e w5 ⟨rfl, hb⟩
  have L := bnext L hb rfl rfl rfl rfl
  have S := S.step hb rfl
  clear hb
  go_wp2_with fail
  refine (h2 _).mono ?_
  rintro e w6 ⟨rfl, hb⟩
  have L := balloc (bnext L hb rfl rfl rfl rfl) (bnext L hb rfl rfl rfl rfl).size (.cells #[.bool sb, .int .i64 sx, .int .u64 sy] 42)
  have S := (S.step hb rfl).alloc (.cells #[.bool sb, .int .i64 sx, .int .u64 sy] 42)
  have T := Box.new w6 sb sx sy
  clear hb
  obtain ⟨s0, s1, s2, _, _, _⟩ := S.cells
  obtain ⟨t0, t1, t2, _, _, _⟩ := T.cells
  go_upto_if 57 with fail
  go_cut [10, 11] (fun _ _ wx => Below w.heap.size w wx)
  case first =>
    rcases hs with ⟨t1, ⟨t2, t9⟩, h3⟩ | ⟨t1, t2, t3⟩
    · go_upto_region 7 with fail
      go_cut [10, 11] (fun s10 s11 wx => ∃ g : Nat, s10 = .pointer (some ⟨g, 0, none⟩) ∧ s11 = .int .i64 0 ∧ Box wx g true a 0 ∧ Box wx w3.heap.size sb sx sy ∧ Below w.heap.size w wx)
      case first =>
        obtain ⟨s0, s1, s2, _, _, _⟩ := S.cells
        go_region_held3 (fun w' => w'.cell? ⟨w3.heap.size, 0, none⟩ = some (.bool sb) ∧ w'.cell? ⟨w3.heap.size, 1, none⟩ = some (.int .i64 sx) ∧ w'.cell? ⟨w3.heap.size, 2, none⟩ = some (.int .u64 sy)) (first | exact ⟨s0, s1, s2⟩ | exact ⟨s3, s4, s5⟩ | exact ⟨s6, s7, s8⟩ | go_keep) (first | (go_at_call 61; refine (lawWhole_calls _ _).mono ?_; rintro e w7 ⟨rfl, hb⟩; first | (have L := bnext L hb rfl rfl rfl rfl; have D := D.step hb rfl; have S := S.step hb rfl; clear hb; obtain ⟨d0, d1, d2, _, _, _⟩ := D.cells; obtain ⟨s0, s1, s2, _, _, _⟩ := S.cells) | (have Dge := L.size; (try simp only [drew_heap, alloc_size] at Dge); have L := bnext (balloc L L.size (.cells #[.bool false, .int .i64 0, .int .u64 0] 42)) hb rfl rfl rfl rfl; have D := (Box.new _ false 0 0).step hb rfl; (try simp only [drew_heap, alloc_size] at D); have Slt := S.lt; (try simp only [drew_heap, alloc_size] at Slt); have S := (S.alloc (.cells #[.bool false, .int .i64 0, .int .u64 0] 42)).step hb rfl; clear hb; obtain ⟨d0, d1, d2, _, _, _⟩ := D.cells; obtain ⟨s0, s1, s2, _, _, _⟩ := S.cells) | (have L := bnext L hb rfl rfl rfl rfl; have S := S.step hb rfl; clear hb; obtain ⟨s0, s1, s2, _, _, _⟩ := S.cells; obtain ⟨s6, s7, s8, _, _, _⟩ := (S.alloc (.cells #[.bool false, .int .i64 0, .int .u64 0] 42)).cells)) | (go_at_call 73; refine (h3 _).mono ?_; rintro e w8 ⟨rfl, hb⟩; first | (have L := bnext L hb rfl rfl rfl rfl; have D := D.step hb rfl; have S := S.step hb rfl; clear hb; obtain ⟨s0, s1, s2, _, _, _⟩ := S.cells; obtain ⟨d0, d1, d2, d3, d4, d5⟩ := D.cells; have LL := setAt L Dge (.bool true) (.int .i64 a) (.int .u64 0); clear L; have L := LL; clear LL; have S := S.putOther (Nat.ne_of_lt Slt) (.bool true) (.int .i64 a) (.int .u64 0); have D := D.put true a 0; obtain ⟨s6, s7, s8, _, _, _⟩ := S.cells) | (have Dge := L.size; (try simp only [drew_heap, alloc_size] at Dge); have L := bnext (balloc L L.size (.cells #[.bool false, .int .i64 0, .int .u64 0] 42)) hb rfl rfl rfl rfl; have D := (Box.new _ false 0 0).step hb rfl; (try simp only [drew_heap, alloc_size] at D); have Slt := S.lt; (try simp only [drew_heap, alloc_size] at Slt); have S := (S.alloc (.cells #[.bool false, .int .i64 0, .int .u64 0] 42)).step hb rfl; clear hb; obtain ⟨s0, s1, s2, _, _, _⟩ := S.cells; obtain ⟨d0, d1, d2, d3, d4, d5⟩ := D.cells; have LL := setAt L Dge (.bool true) (.int .i64 a) (.int .u64 0); clear L; have L := LL; clear LL; have S := S.putOther (Nat.ne_of_lt Slt) (.bool true) (.int .i64 a) (.int .u64 0); have D := D.put true a 0; obtain ⟨s6, s7, s8, _, _, _⟩ := S.cells) | (have S_ := S.step hb rfl; obtain ⟨s3, s4, s5, _, _, _⟩ := S_.cells; have L := balloc (bnext L hb rfl rfl rfl rfl) (bnext L hb rfl rfl rfl rfl).size (.cells #[.bool true, .int .i64 a, .int .u64 0] 42); have S := (S.step hb rfl).alloc (.cells #[.bool true, .int .i64 a, .int .u64 0] 42); have D := Box.new w8 true a 0; clear hb; obtain ⟨s0, s1, s2, _, _, _⟩ := S.cells; obtain ⟨s6, s7, s8, _, _, _⟩ := (S.alloc (.cells #[.bool false, .int .i64 0, .int .u64 0] 42)).cells)))
        all_goals (go_wp2_with fail; go_meet; exact ⟨_, rfl, rfl, D, S, L⟩)
      case rest =>
        obtain ⟨g, rfl, rfl, D, S, L⟩ := hcut
        go_upto_region 8 with fail
        go_cut [80] (fun s80 wx => s80 = .bool false ∧ Below w.heap.size w wx)
        case first =>
          obtain ⟨d0, d1, d2, _, _, _⟩ := D.cells
          obtain ⟨s0, s1, s2, _, _, _⟩ := S.cells
          go_region_held3 (fun w' => w'.cell? ⟨w3.heap.size, 0, none⟩ = some (.bool sb) ∧ w'.cell? ⟨w3.heap.size, 1, none⟩ = some (.int .i64 sx) ∧ w'.cell? ⟨w3.heap.size, 2, none⟩ = some (.int .u64 sy) ∧ w'.cell? ⟨g, 0, none⟩ = some (.bool true) ∧ w'.cell? ⟨g, 1, none⟩ = some (.int .i64 a) ∧ w'.cell? ⟨g, 2, none⟩ = some (.int .u64 0)) (first | exact ⟨s0, s1, s2, d0, d1, d2⟩ | go_keep) (first | (go_at_call 61; refine (lawWhole_calls _ _).mono ?_; rintro e w9 ⟨rfl, hb⟩; have L := bnext L hb rfl rfl rfl rfl; have D := D.step hb rfl; have S := S.step hb rfl; clear hb; obtain ⟨d0, d1, d2, _, _, _⟩ := D.cells; obtain ⟨s0, s1, s2, _, _, _⟩ := S.cells))
          all_goals (go_wp2_with fail; go_meet; exact ⟨by first | rfl | simp, ⟨L.os, L.tape, L.output, L.size, L.block⟩⟩)
        case rest =>
          obtain ⟨rfl, L⟩ := hcut
          go_wp2_with fail
          go_meet
          exact L
    · rcases t3 with t3 | ⟨t3, t4⟩
      all_goals (go_wp2_with fail; go_meet; exact ⟨L.os, L.tape, L.output, L.size, L.block⟩)
  case rest =>
    have L : Below w.heap.size w wc := hcut
    go_wp2_with fail
    refine (lawWhole_calls _ _).mono ?_
    rintro e w10 ⟨rfl, hb⟩
    have L := bnext L hb rfl rfl rfl rfl
    clear hb
    go_wp2_with fail
    refine (lawWhole_calls _ _).mono ?_
    rintro e w11 ⟨rfl, hb⟩
    have L := bnext L hb rfl rfl rfl rfl
    clear hb
    go_wp2_with fail
    refine (h4 _).mono ?_
    rintro e w12 ⟨rfl, hb⟩
    have L := balloc (bnext L hb rfl rfl rfl rfl) (bnext L hb rfl rfl rfl rfl).size (.cells #[.bool pb, .int .i64 px, .int .u64 py] 42)
    have P := Box.new w12 pb px py
    clear hb
    go_wp2_with fail
    refine (lawWhole_calls _ _).mono ?_
    rintro e w13 ⟨rfl, hb⟩
    have L := bnext L hb rfl rfl rfl rfl
    have P := P.step hb rfl
    clear hb
    go_wp2_with fail
    refine (lawWhole_calls _ _).mono ?_
    rintro e w14 ⟨rfl, hb⟩
    have L := bnext L hb rfl rfl rfl rfl
    have P := P.step hb rfl
    clear hb
    go_wp2_with fail
    refine (h5 _).mono ?_
    rintro e w15 ⟨rfl, hb⟩
    have L := balloc (bnext L hb rfl rfl rfl rfl) (bnext L hb rfl rfl rfl rfl).size (.cells #[.bool pb, .int .i64 px, .int .u64 py] 42)
    have P := (P.step hb rfl).alloc (.cells #[.bool pb, .int .i64 px, .int .u64 py] 42)
    have Q := Box.new w15 pb px py
    clear hb
    obtain ⟨p0, p1, p2, _, _, _⟩ := P.cells
    obtain ⟨q0, q1, q2, _, _, _⟩ := Q.cells
    go_upto_region 16 with fail
    go_cut [145] (fun s145 wx => s145 = .bool false ∧ Below w.heap.size w wx)
    case first =>
      rcases hp with t1 | ⟨t1, t2⟩ | ⟨t1, t2, t3, t4, t5, ⟨t6, t7⟩ | ⟨t6, t7, t8⟩ | ⟨t6, t8⟩⟩
      all_goals (go_wp2_with fail; go_meet; exact ⟨by first | rfl | simp, ⟨L.os, L.tape, L.output, L.size, L.block⟩⟩)
    case rest =>
      obtain ⟨rfl, L⟩ := hcut
      go_wp2_with fail
      refine (lawWhole_calls _ _).mono ?_
      rintro e w16 ⟨rfl, hb⟩
      have L := bnext L hb rfl rfl rfl rfl
      clear hb
      go_wp2_with fail
      refine (h6 _).mono ?_
      rintro e w17 ⟨rfl, hb⟩
      have L := balloc (bnext L hb rfl rfl rfl rfl) (bnext L hb rfl rfl rfl rfl).size (.cells #[.bool nb, .int .i64 nx, .int .u64 ny] 42)
      have N := Box.new w17 nb nx ny
      clear hb
      go_wp2_with fail
      refine (lawWhole_calls _ _).mono ?_
      rintro e w18 ⟨rfl, hb⟩
      have L := bnext L hb rfl rfl rfl rfl
      have N := N.step hb rfl
      clear hb
      go_wp2_with fail
      refine (lawWhole_calls _ _).mono ?_
      rintro e w19 ⟨rfl, hb⟩
      have L := bnext L hb rfl rfl rfl rfl
      have N := N.step hb rfl
      clear hb
      go_wp2_with fail
      refine (h7 _).mono ?_
      rintro e w20 ⟨rfl, hb⟩
      have L := balloc (bnext L hb rfl rfl rfl rfl) (bnext L hb rfl rfl rfl rfl).size (.cells #[.bool nb, .int .i64 nx, .int .u64 ny] 42)
      have N := (N.step hb rfl).alloc (.cells #[.bool nb, .int .i64 nx, .int .u64 ny] 42)
      have D := Box.new w20 nb nx ny
      clear hb
      obtain ⟨n0, n1, n2, _, _, _⟩ := N.cells
      obtain ⟨d0, d1, d2, _, _, _⟩ := D.cells
      rcases hn with ⟨t1, t2⟩ | ⟨t1, t2⟩
      all_goals
        go_wp2_with fail
        refine (lawAwake_calls _).mono ?_
        rintro e w21 ⟨rfl, hb⟩
        have L := bnext L hb rfl rfl rfl rfl
        clear hb
        go_wp2
        go_ret
        exact ⟨by first | rfl | simp, ⟨L.os, L.tape, L.output, L.size, L.block⟩⟩

theorem half (a : Int) : ∃ q r : Int, a.tdiv 2 = q ∧ a.tmod 2 = r ∧ 2 * q + r = a ∧ -1 ≤ r ∧ r ≤ 1 ∧ (0 ≤ a → 0 ≤ r) ∧ (a ≤ 0 → r ≤ 0) := by
  have h1 := Int.mul_tdiv_add_tmod a 2
  have h2 := Int.tmod_lt_of_pos a (show (0 : Int) < 2 by omega)
  have h3 := Int.lt_tmod_of_pos a (show (0 : Int) < 2 by omega)
  refine ⟨_, _, rfl, rfl, h1, by omega, by omega, fun h => Int.tmod_nonneg 2 h, fun h => ?_⟩
  have h4 := Int.tmod_nonneg 2 (show 0 ≤ -a by omega)
  rw [Int.neg_tmod] at h4
  omega
theorem halves {a b : Int} (ha : fits a) (hb : fits b) (h : ¬ fits (a + b)) : (decide (-4611686018427387904 < (wrap64 (wrap64 (wrap64 (a.tdiv 2) + wrap64 (b.tdiv 2)) + wrap64 ((wrap64 (a.tmod 2 + b.tmod 2)).tdiv 2)))) = false ∨ (decide (-4611686018427387904 < (wrap64 (wrap64 (wrap64 (a.tdiv 2) + wrap64 (b.tdiv 2)) + wrap64 ((wrap64 (a.tmod 2 + b.tmod 2)).tdiv 2)))) = true ∧ decide ((wrap64 (wrap64 (wrap64 (a.tdiv 2) + wrap64 (b.tdiv 2)) + wrap64 ((wrap64 (a.tmod 2 + b.tmod 2)).tdiv 2))) < 4611686018427387903) = false)) := by
  obtain ⟨q, r, e1, e2, h1, h2, h3, h4, h5⟩ := half a
  obtain ⟨q', r', e1', e2', h1', h2', h3', h4', h5'⟩ := half b
  obtain ⟨q2, r2, e3, e4, k1, k2, k3, k4, k5⟩ := half (r + r')
  have w1 : wrap64 (r + r') = r + r' := wrap_fits (by unfold fits; omega)
  have w2 : wrap64 q = q := wrap_fits (by unfold fits at *; omega)
  have w3 : wrap64 q' = q' := wrap_fits (by unfold fits at *; omega)
  have w4 : wrap64 q2 = q2 := wrap_fits (by unfold fits at *; omega)
  have w5 : wrap64 (q + q') = q + q' := wrap_fits (by unfold fits at *; omega)
  have w6 : wrap64 (q + q' + q2) = q + q' + q2 := wrap_fits (by unfold fits at *; omega)
  rw [e1, e1', e2, e2', w1, e3, w2, w3, w4, w5, w6]
  by_cases c : -4611686018427387904 < q + q' + q2
  · exact .inr ⟨decide_eq_true c, decide_eq_false (by unfold fits at *; omega)⟩
  · exact .inl (decide_eq_false c)
theorem ring_neg {a : Int} (ha : fits a) : ∃ (nb : Bool) (nx nc : Int),
    (∀ w, Calls Try.prog 74 #[numV true a 0] w fun e w' => e = .returned (.tuple #[numV nb nx 0, .int .i64 nc]) ∧ Below w.heap.size w w') ∧
    (∀ w, Calls Try.prog 73 #[numV true 0 0, numV true a 0] w fun e w' => e = .returned (.tuple #[numV nb nx 0, .int .i64 nc]) ∧ Below w.heap.size w w') ∧
    (((nc == 0) = true ∧ (a != -9223372036854775808) = true) ∨ ((nc == 0) = false ∧ (a != -9223372036854775808) = false)) := by
  by_cases m : a = -9223372036854775808
  · subst m
    exact ⟨false, 0, 10, numNeg_min _ _ rfl, sub_err fits_zero ha (by decide) 0 0, .inr ⟨rfl, rfl⟩⟩
  · have h := sub_ok fits_zero ha (by unfold fits at *; omega) 0 0
    rw [Int.zero_sub] at h
    exact ⟨true, -a, 0, numNeg_int _ _ ha (beq_eq_false_iff_ne.2 m), h, .inl ⟨rfl, bne_iff_ne.2 m⟩⟩
theorem ring_mul {a b : Int} (ha : fits a) (hb : fits b) : ∃ (pb : Bool) (px pc : Int),
    (∀ w, Calls Try.prog 62 #[numV true a 0, numV true b 0] w fun e w' => e = .returned (.tuple #[numV pb px 0, .int .i64 pc]) ∧ Below w.heap.size w w') ∧
    (∀ w, Calls Try.prog 62 #[numV true b 0, numV true a 0] w fun e w' => e = .returned (.tuple #[numV pb px 0, .int .i64 pc]) ∧ Below w.heap.size w w') ∧
    ((pc == 0) = false ∨ ((pc == 0) = true ∧ (b != 0) = false) ∨
      ((pc == 0) = true ∧ (b != 0) = true ∧ b ≠ 0 ∧ (b == 0) = false ∧ (px.tmod b != 0) = false ∧ (((b == -1) = true ∧ (px == -9223372036854775808) = true) ∨ ((b == -1) = true ∧ (px == -9223372036854775808) = false ∧ (wrap64 (px.tdiv b) != a) = false) ∨ ((b == -1) = false ∧ (wrap64 (px.tdiv b) != a) = false)))) := by
  by_cases f : fits (a * b)
  · have h2 := mul_ok hb ha (by rw [Int.mul_comm]; exact f) 0 0
    rw [Int.mul_comm b a] at h2
    refine ⟨true, a * b, 0, mul_ok ha hb f 0 0, h2, .inr ?_⟩
    by_cases c : b = 0
    · subst c; exact .inl ⟨rfl, rfl⟩
    · have e1 : ((a * b).tmod b != 0) = false := by rw [Int.mul_tmod_left]; rfl
      have e2 : (wrap64 ((a * b).tdiv b) != a) = false := by rw [Int.mul_tdiv_cancel _ c, wrap_fits ha]; exact bne_self_eq_false a
      refine .inr ⟨rfl, bne_iff_ne.2 c, c, beq_eq_false_iff_ne.2 c, e1, ?_⟩
      by_cases c1 : b = -1
      · by_cases c2 : a * b = -9223372036854775808
        · exact .inl ⟨beq_iff_eq.2 c1, beq_iff_eq.2 c2⟩
        · exact .inr (.inl ⟨beq_iff_eq.2 c1, beq_eq_false_iff_ne.2 c2, e2⟩)
      · exact .inr (.inr ⟨beq_eq_false_iff_ne.2 c1, e2⟩)
  · exact ⟨false, 0, 10, mul_err ha hb f 0 0, mul_err hb ha (by rw [Int.mul_comm]; exact f) 0 0, .inl rfl⟩
theorem numRing_walk (a b : Int) (w : World) (wa : (Lit.int .i64 a).wf = true) (wb : (Lit.int .i64 b).wf = true) :
    Calls Try.prog 21 #[.int .i64 a, .int .i64 b] w fun e w' => e = .returned (.bool true) ∧ Below w.heap.size w w' := by
  have ha : fits a := i64_range wa
  have hb : fits b := i64_range wb
  obtain ⟨nb, nx, nc, h6, h7, hn⟩ := ring_neg ha
  obtain ⟨pb, px, pc, h4, h5, hp⟩ := ring_mul ha hb
  by_cases f : fits (a + b)
  · have h2 := add_ok hb ha (by rw [Int.add_comm]; exact f) 0 0
    rw [Int.add_comm b a] at h2
    have h3 := sub_ok f hb (by rw [Int.add_sub_cancel]; exact ha) 0 0
    rw [Int.add_sub_cancel] at h3
    exact numRing_of a b _ _ _ _ _ 0 _ _ _ _ _ _ w (add_ok ha hb f 0 0) h2 h4 h5 h6 h7 (.inl ⟨rfl, ⟨by rw [wrap_fits f]; exact bne_self_eq_false _, by rw [IntWalk.i64_left, wrap_fits f]; exact bne_self_eq_false _⟩, h3⟩) hp hn
  · exact numRing_of a b _ _ _ _ _ 10 _ _ _ _ _ _ w (add_err ha hb f 0 0) (add_err hb ha (by rw [Int.add_comm]; exact f) 0 0) h4 h5 h6 h7 (.inr ⟨rfl, rfl, halves ha hb f⟩) hp hn
end Go.Proofs.Ytieddikacnmhlaa

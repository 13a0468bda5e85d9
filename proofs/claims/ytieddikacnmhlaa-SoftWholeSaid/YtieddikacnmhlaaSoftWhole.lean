/- Whole numbers from -2^25 to 2^25 are added, subtracted, multiplied and divided exactly as doubles, and compared as they are. For all pairs of them (of greater ones the law asks nothing). -/
import Derived.Test.YtieddikacnmhlaaF
namespace Go.Proofs.Ytieddikacnmhlaa
open Go.RowKit

theorem sTrunc_of {x : Int} {n : Nat} {v : Int} (hx : x = (n : Int)) (h : Fl.inI64 n = true ∧ Fl.trc n = v) : sTrunc x = (v, 0) := by
  unfold sTrunc; rw [hx, Int.toNat_natCast, h.1, h.2]; rfl
set_option maxHeartbeats 1600000 in
theorem softWhole_out (i j : Int) (h : i < -33554432 ∨ i > 33554432 ∨ j < -33554432 ∨ j > 33554432) (w : World) : Calls Try.prog 7 #[.int .i64 i, .int .i64 j] w fun e w' => e = .returned (.bool true) ∧ Dr w w' := by
  by_cases c1 : i < -33554432
  · have d1 : decide (i < -33554432) = true := decide_eq_true c1
    clear h c1
    go_enter Try.func7, Try.ntmps7
    go_wp2
    go_ret
    exact ⟨rfl, Dr.refl _⟩
  · have d1 : decide (i < -33554432) = false := decide_eq_false c1
    by_cases c2 : i > 33554432
    · have d2 : decide (i > 33554432) = true := decide_eq_true c2
      clear h c1 c2
      go_enter Try.func7, Try.ntmps7
      go_wp2
      go_ret
      exact ⟨rfl, Dr.refl _⟩
    · have d2 : decide (i > 33554432) = false := decide_eq_false c2
      by_cases c3 : j < -33554432
      · have d3 : decide (j < -33554432) = true := decide_eq_true c3
        clear h c1 c2 c3
        go_enter Try.func7, Try.ntmps7
        go_wp2
        go_ret
        exact ⟨rfl, Dr.refl _⟩
      · have d3 : decide (j < -33554432) = false := decide_eq_false c3
        have d4 : decide (j > 33554432) = true := decide_eq_true (by omega)
        clear h c1 c2 c3
        go_enter Try.func7, Try.ntmps7
        go_wp2
        go_ret
        exact ⟨rfl, Dr.refl _⟩
set_option maxHeartbeats 3200000 in
theorem softWhole_in (i j : Int) (c1 : -33554432 ≤ i) (c2 : i ≤ 33554432) (c3 : -33554432 ≤ j) (c4 : j ≤ 33554432) (w : World) : Calls Try.prog 7 #[.int .i64 i, .int .i64 j] w fun e w' => e = .returned (.bool true) ∧ Dr w w' := by
  have d1 : decide (i < -33554432) = false := decide_eq_false (by omega)
  have d2 : decide (i > 33554432) = false := decide_eq_false (by omega)
  have d3 : decide (j < -33554432) = false := decide_eq_false (by omega)
  have d4 : decide (j > 33554432) = false := decide_eq_false (by omega)
  obtain ⟨s1, s2, s3, s4, s5, s6⟩ := Fl.soft_whole (i := i) (j := j) (by omega) (by omega)
  have ei : ∀ k, (sInt k).toNat = Fl.dint k := fun k => by unfold sInt; exact Int.toNat_natCast _
  have e1 : sTrunc (sAdd (sInt i) (sInt j)) = (i + j, 0) := sTrunc_of (n := Fl.dadd (Fl.dint i) (Fl.dint j)) (by unfold sAdd; rw [ei, ei]) s1
  have e2 : sTrunc (sSub (sInt i) (sInt j)) = (i - j, 0) := sTrunc_of (n := Fl.dsub (Fl.dint i) (Fl.dint j)) (by unfold sSub; rw [ei, ei]) s2
  have e3 : sTrunc (sMul (sInt i) (sInt j)) = (i * j, 0) := sTrunc_of (n := Fl.dmul (Fl.dint i) (Fl.dint j)) (by unfold sMul; rw [ei, ei]) s3
  have e5 : sLess (sInt i) (sInt j) = decide (i < j) := by unfold sLess; rw [ei, ei]; exact s5
  have e6 : sEqual (sInt i) (sInt j) = (i == j) := by unfold sEqual; rw [ei, ei, s6]; rw [Bool.eq_iff_iff]; simp
  have hm : -1125899906842624 ≤ i * j ∧ i * j ≤ 1125899906842624 := by
    have : (i * j).natAbs ≤ 33554432 * 33554432 := by rw [Int.natAbs_mul]; exact Nat.mul_le_mul (by omega) (by omega)
    omega
  have hw : wrap64 (i * j) = i * j := by unfold wrap64; omega
  by_cases hj : j = 0
  · have z : (j != 0) = false := by rw [hj]; rfl
    clear s1 s2 s3 s4 s5 s6 hm hj
    go_enter Try.func7, Try.ntmps7
    go_wp2_with (first | (go_at_call 41; refine (softAdd_calls _ _ _).mono ?_; rintro e w' ⟨rfl, n, rfl⟩) | (go_at_call 44; refine (softSub_calls _ _ _).mono ?_; rintro e w' ⟨rfl, n, rfl⟩) | (go_at_call 42; refine (softMul_calls _ _ _).mono ?_; rintro e w' ⟨rfl, n, rfl⟩) | (go_at_call 43; refine (softDiv_calls _ _ _).mono ?_; rintro e w' ⟨rfl, n, rfl⟩) | (go_at_call 28; refine (softEqual_calls _ _ _).mono ?_; rintro e w' ⟨rfl, rfl⟩) | (go_at_call 24; refine (softLess_calls _ _ _).mono ?_; rintro e w' ⟨rfl, rfl⟩) | (go_at_call 33; refine (softFromInt_calls _ _).mono ?_; rintro e w' ⟨rfl, rfl⟩) | (go_at_call 31; refine (softTrunc_calls _ _).mono ?_; rintro e w' ⟨rfl, n, rfl⟩) | (go_at_call 30; refine (awake_calls _).mono ?_; rintro e w' ⟨rfl, n, rfl⟩) | (go_at_call 40; refine (softFloor_calls _ (sDiv_range _ _).2 _).mono ?_; rintro e w' ⟨rfl, n, rfl⟩))
    go_ret
    exact ⟨rfl, ⟨_, rfl⟩⟩
  · have z : (j != 0) = true := by rw [bne_iff_ne]; exact hj
    have e4 : sTrunc (sFloor (sDiv (sInt (i * j)) (sInt j))) = (i, 0) := sTrunc_of (n := Fl.dfloor (Fl.ddiv (Fl.dint (i * j)) (Fl.dint j))) (by unfold sFloor sDiv; rw [Int.toNat_natCast, ei, ei]) (s4 hj)
    clear s1 s2 s3 s4 s5 s6 hm hj
    go_enter Try.func7, Try.ntmps7
    go_wp2_with (first | (go_at_call 41; refine (softAdd_calls _ _ _).mono ?_; rintro e w' ⟨rfl, n, rfl⟩) | (go_at_call 44; refine (softSub_calls _ _ _).mono ?_; rintro e w' ⟨rfl, n, rfl⟩) | (go_at_call 42; refine (softMul_calls _ _ _).mono ?_; rintro e w' ⟨rfl, n, rfl⟩) | (go_at_call 43; refine (softDiv_calls _ _ _).mono ?_; rintro e w' ⟨rfl, n, rfl⟩) | (go_at_call 28; refine (softEqual_calls _ _ _).mono ?_; rintro e w' ⟨rfl, rfl⟩) | (go_at_call 24; refine (softLess_calls _ _ _).mono ?_; rintro e w' ⟨rfl, rfl⟩) | (go_at_call 33; refine (softFromInt_calls _ _).mono ?_; rintro e w' ⟨rfl, rfl⟩) | (go_at_call 31; refine (softTrunc_calls _ _).mono ?_; rintro e w' ⟨rfl, n, rfl⟩) | (go_at_call 30; refine (awake_calls _).mono ?_; rintro e w' ⟨rfl, n, rfl⟩) | (go_at_call 40; refine (softFloor_calls _ (sDiv_range _ _).2 _).mono ?_; rintro e w' ⟨rfl, n, rfl⟩))
    go_ret
    exact ⟨rfl, ⟨_, rfl⟩⟩
theorem softWhole_walk (i j : Int) (w : World) (_ : (Lit.int .i64 i).wf = true) (_ : (Lit.int .i64 j).wf = true) : Calls Try.prog 7 #[.int .i64 i, .int .i64 j] w fun e w' => e = .returned (.bool true) ∧ Below w.heap.size w w' := by
  by_cases h : i < -33554432 ∨ i > 33554432 ∨ j < -33554432 ∨ j > 33554432
  · exact law_below (softWhole_out i j h w)
  · exact law_below (softWhole_in i j (by omega) (by omega) (by omega) (by omega) w)
end Go.Proofs.Ytieddikacnmhlaa

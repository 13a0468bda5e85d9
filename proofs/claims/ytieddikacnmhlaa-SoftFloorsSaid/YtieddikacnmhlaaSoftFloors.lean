/- A floor is whole, at most the number, and less than one below it; Trunc cuts towards nought. For every pattern (of NaNs, and of numbers beyond 2^51, the law asks nothing). -/
import Derived.Test.YtieddikacnmhlaaF
namespace Go.Proofs.Ytieddikacnmhlaa
open Go.RowKit

theorem and_rung {a : Int} (h0 : 0 ≤ a) (hx : a < 18446744073709551616) : Go.bits .and .u64 a 9223372036854775807 = (Fl.rung Fl.D a.toNat : Nat) := by
  obtain ⟨n, rfl⟩ := Int.eq_ofNat_of_zero_le h0
  have h := u64_and_nat n 9223372036854775807 (by omega) (by decide)
  have e : n &&& 9223372036854775807 = n % 2 ^ 63 := Nat.and_two_pow_sub_one_eq_mod n 63
  rw [e] at h
  unfold Fl.rung; rw [Fl.D_sign, Int.toNat_natCast]; exact h

set_option maxHeartbeats 1600000 in
theorem softFloors_calls (a : Int) (h0 : 0 ≤ a) (hx : a < 18446744073709551616) (w : World) : Calls Try.prog 5 #[.int .u64 a] w fun e w' => e = .returned (.bool true) ∧ Dr w w' := by
  have cn := nan_calls a h0 hx
  cases hn : nanB a with
  | true =>
    rw [hn] at cn
    clear h0 hx hn
    go_enter Try.func5, Try.ntmps5
    go_wp2_with (go_at_call 39; refine (cn _).mono ?_; rintro e w' ⟨rfl, n, rfl⟩)
    go_ret
    exact ⟨rfl, ⟨_, rfl⟩⟩
  | false =>
    rw [hn] at cn
    have hr := and_rung h0 hx
    by_cases hb : Fl.rung Fl.D a.toNat ≤ 4836865999795912704
    · have hd : decide (Go.bits .and .u64 a 9223372036854775807 > 4836865999795912704) = false := by rw [hr]; exact decide_eq_false (by omega)
      obtain ⟨f1, f2, f3, f4, f5, f6, f7, f8⟩ := Fl.soft_floors (x := a.toNat) (by omega) hb
      have cf := softFloor_calls a hx
      have et : (sFloor a).toNat = Fl.dfloor a.toNat := by unfold sFloor; rw [Int.toNat_natCast]
      have ct := softTrunc_calls (sFloor a)
      have ct2 := softTrunc_calls a
      have e1 : sTrunc (sFloor a) = (Fl.trc (Fl.dfloor a.toNat), 0) := by unfold sTrunc; rw [et, f1]; rfl
      have e2 : sTrunc a = (Fl.trc a.toNat, 0) := by unfold sTrunc; rw [f5]; rfl
      rw [e1] at ct
      rw [e2] at ct2
      have ce := softEqual_calls (sInt (Fl.trc (Fl.dfloor a.toNat))) (sFloor a)
      have g1 : sEqual (sInt (Fl.trc (Fl.dfloor a.toNat))) (sFloor a) = true := by unfold sEqual sInt; rw [et, Int.toNat_natCast]; exact f2
      rw [g1] at ce
      have cl := softLessEq_calls (sFloor a) a
      have g2 : sLessEq (sFloor a) a = true := by unfold sLessEq; rw [et]; exact f3
      rw [g2] at cl
      have cs := softLess_calls a (sAdd (sFloor a) 4607182418800017408)
      have g3 : sLess a (sAdd (sFloor a) 4607182418800017408) = true := by unfold sLess sAdd; rw [et, Int.toNat_natCast]; exact f4
      rw [g3] at cs
      have ce2 := softEqual_calls (sFloor a) a
      have ge : sEqual (sFloor a) a = Fl.deq (Fl.dfloor a.toNat) a.toNat := by unfold sEqual; rw [et]
      have hge : (9223372036854775808 ≤ a) ↔ 9223372036854775808 ≤ a.toNat := by omega
      generalize Fl.trc (Fl.dfloor a.toNat) = i at *
      generalize Fl.trc a.toNat = t at *
      rw [ge] at ce2
      by_cases hs : 9223372036854775808 ≤ a
      · have hsd : decide (a ≥ 9223372036854775808) = true := decide_eq_true hs
        cases hq : Fl.deq (Fl.dfloor a.toNat) a.toNat with
        | true =>
          rw [hq, if_neg (by simp)] at f6
          rw [hq] at ce2
          subst f6
          clear h0 hx hn hr hb f1 f2 f3 f4 f5 et e1 e2 g1 g2 g3 ge hge hq hs
          go_enter Try.func5, Try.ntmps5
          go_wp2_with (first | (go_at_call 39; refine (cn _).mono ?_; rintro e w' ⟨rfl, n, rfl⟩) | (go_at_call 40; refine (cf _).mono ?_; rintro e w' ⟨rfl, n, rfl⟩) | (go_at_call 31; first | ((with_reducible refine (ct _).mono ?_); rintro e w' ⟨rfl, n, rfl⟩) | ((with_reducible refine (ct2 _).mono ?_); rintro e w' ⟨rfl, n, rfl⟩)) | (go_at_call 28; first | ((with_reducible refine (ce _).mono ?_); rintro e w' ⟨rfl, rfl⟩) | ((with_reducible refine (ce2 _).mono ?_); rintro e w' ⟨rfl, rfl⟩)) | (go_at_call 26; refine (cl _).mono ?_; rintro e w' ⟨rfl, rfl⟩) | (go_at_call 24; refine (cs _).mono ?_; rintro e w' ⟨rfl, rfl⟩) | (go_at_call 33; refine (softFromInt_calls _ _).mono ?_; rintro e w' ⟨rfl, rfl⟩) | (go_at_call 41; refine (softAdd_calls _ _ _).mono ?_; rintro e w' ⟨rfl, n, rfl⟩) | (go_at_call 30; refine (awake_calls _).mono ?_; rintro e w' ⟨rfl, n, rfl⟩))
          go_ret
          exact ⟨rfl, ⟨_, rfl⟩⟩
        | false =>
          rw [hq, if_pos ⟨hge.1 hs, rfl⟩] at f6
          rw [hq] at ce2
          subst f6
          clear h0 hx hn hr hb f1 f2 f3 f4 f5 et e1 e2 g1 g2 g3 ge hge hq hs
          go_enter Try.func5, Try.ntmps5
          go_wp2_with (first | (go_at_call 39; refine (cn _).mono ?_; rintro e w' ⟨rfl, n, rfl⟩) | (go_at_call 40; refine (cf _).mono ?_; rintro e w' ⟨rfl, n, rfl⟩) | (go_at_call 31; first | ((with_reducible refine (ct _).mono ?_); rintro e w' ⟨rfl, n, rfl⟩) | ((with_reducible refine (ct2 _).mono ?_); rintro e w' ⟨rfl, n, rfl⟩)) | (go_at_call 28; first | ((with_reducible refine (ce _).mono ?_); rintro e w' ⟨rfl, rfl⟩) | ((with_reducible refine (ce2 _).mono ?_); rintro e w' ⟨rfl, rfl⟩)) | (go_at_call 26; refine (cl _).mono ?_; rintro e w' ⟨rfl, rfl⟩) | (go_at_call 24; refine (cs _).mono ?_; rintro e w' ⟨rfl, rfl⟩) | (go_at_call 33; refine (softFromInt_calls _ _).mono ?_; rintro e w' ⟨rfl, rfl⟩) | (go_at_call 41; refine (softAdd_calls _ _ _).mono ?_; rintro e w' ⟨rfl, n, rfl⟩) | (go_at_call 30; refine (awake_calls _).mono ?_; rintro e w' ⟨rfl, n, rfl⟩))
          go_ret
          exact ⟨rfl, ⟨_, rfl⟩⟩
      · have hsd : decide (a ≥ 9223372036854775808) = false := decide_eq_false hs
        rw [if_neg (fun h => hs (hge.2 h.1))] at f6
        subst f6
        clear h0 hx hn hr hb f1 f2 f3 f4 f5 et e1 e2 g1 g2 g3 ge hge hs ce2
        go_enter Try.func5, Try.ntmps5
        go_wp2_with (first | (go_at_call 39; refine (cn _).mono ?_; rintro e w' ⟨rfl, n, rfl⟩) | (go_at_call 40; refine (cf _).mono ?_; rintro e w' ⟨rfl, n, rfl⟩) | (go_at_call 31; first | ((with_reducible refine (ct _).mono ?_); rintro e w' ⟨rfl, n, rfl⟩) | ((with_reducible refine (ct2 _).mono ?_); rintro e w' ⟨rfl, n, rfl⟩)) | (go_at_call 28; first | ((with_reducible refine (ce _).mono ?_); rintro e w' ⟨rfl, rfl⟩) | ((with_reducible refine (ce2 _).mono ?_); rintro e w' ⟨rfl, rfl⟩)) | (go_at_call 26; refine (cl _).mono ?_; rintro e w' ⟨rfl, rfl⟩) | (go_at_call 24; refine (cs _).mono ?_; rintro e w' ⟨rfl, rfl⟩) | (go_at_call 33; refine (softFromInt_calls _ _).mono ?_; rintro e w' ⟨rfl, rfl⟩) | (go_at_call 41; refine (softAdd_calls _ _ _).mono ?_; rintro e w' ⟨rfl, n, rfl⟩) | (go_at_call 30; refine (awake_calls _).mono ?_; rintro e w' ⟨rfl, n, rfl⟩))
        go_ret
        exact ⟨rfl, ⟨_, rfl⟩⟩
    · have hd : decide (Go.bits .and .u64 a 9223372036854775807 > 4836865999795912704) = true := by rw [hr]; exact decide_eq_true (by omega)
      clear h0 hx hn hr hb
      go_enter Try.func5, Try.ntmps5
      go_wp2_with (go_at_call 39; refine (cn _).mono ?_; rintro e w' ⟨rfl, n, rfl⟩)
      go_ret
      exact ⟨rfl, ⟨_, rfl⟩⟩
theorem softFloors_walk (a : Int) (w : World) (ha : (Lit.int .u64 a).wf = true) : Calls Try.prog 5 #[.int .u64 a] w fun e w' => e = .returned (.bool true) ∧ Below w.heap.size w w' :=
  law_below (softFloors_calls a (u64_range ha).1 (u64_range ha).2 w)
end Go.Proofs.Ytieddikacnmhlaa

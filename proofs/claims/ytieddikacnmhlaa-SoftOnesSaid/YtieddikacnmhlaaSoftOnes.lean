/- Products and quotients by one, a difference and a quotient by itself, a sum with itself, of any pattern. No condition. -/
import Derived.Test.YtieddikacnmhlaaSoftFloors
namespace Go.Proofs.Ytieddikacnmhlaa
open Go.RowKit

theorem num_of {a : Int} (h : nanB a = false) : Fl.isNum Fl.D a.toNat := by
  unfold nanB at h; exact Fl.isNumB_iff.1 (by simpa using h)
theorem nan_of {a : Int} (h : nanB a = true) : ¬ Fl.isNum Fl.D a.toNat := by
  unfold nanB at h; intro e; rw [Fl.isNumB_iff.2 e] at h; cases h

set_option maxHeartbeats 1600000 in
theorem softOnes_calls (a : Int) (h0 : 0 ≤ a) (hx : a < 18446744073709551616) (w : World) : Calls Try.prog 6 #[.int .u64 a] w fun e w' => e = .returned (.bool true) ∧ Dr w w' := by
  have cn := nan_calls a h0 hx
  have cf := softFloor_calls a hx
  cases hn : nanB a with
  | true =>
    rw [hn] at cn
    have hnan := nan_of hn
    have e1 : (sMul a 4607182418800017408 == 9221120237041090560) = true := by unfold sMul; rw [Fl.dmul_nan' hnan]; rfl
    have e2 : (sDiv a a == 9221120237041090560) = true := by unfold sDiv; rw [Fl.ddiv_nan' hnan]; rfl
    have e3 : (sAdd a 0 == 9221120237041090560) = true := by unfold sAdd; rw [Fl.dadd_nan' hnan]; rfl
    have e4 : (sFloor a == 9221120237041090560) = true := by unfold sFloor; rw [Fl.dfloor_nan hnan]; rfl
    clear h0 hx hn hnan
    go_enter Try.func6, Try.ntmps6
    go_wp2_with (first | (go_at_call 41; refine (softAdd_calls _ _ _).mono ?_; rintro e w' ⟨rfl, n, rfl⟩) | (go_at_call 44; refine (softSub_calls _ _ _).mono ?_; rintro e w' ⟨rfl, n, rfl⟩) | (go_at_call 42; refine (softMul_calls _ _ _).mono ?_; rintro e w' ⟨rfl, n, rfl⟩) | (go_at_call 43; refine (softDiv_calls _ _ _).mono ?_; rintro e w' ⟨rfl, n, rfl⟩) | (go_at_call 28; refine (softEqual_calls _ _ _).mono ?_; rintro e w' ⟨rfl, rfl⟩) | (go_at_call 30; refine (awake_calls _).mono ?_; rintro e w' ⟨rfl, n, rfl⟩) | (go_at_call 39; refine (cn _).mono ?_; rintro e w' ⟨rfl, n, rfl⟩) | (go_at_call 40; refine (cf _).mono ?_; rintro e w' ⟨rfl, n, rfl⟩))
    go_ret
    exact ⟨rfl, ⟨_, rfl⟩⟩
  | false =>
    rw [hn] at cn
    have hnum := num_of hn
    have hr := and_rung h0 hx
    have hl : a.toNat < 2 ^ 64 := by omega
    have ha : ((a.toNat : Nat) : Int) = a := by omega
    have e1 : (sMul a 4607182418800017408 != a) = false := by
      have : sMul a 4607182418800017408 = a := by unfold sMul; exact (congrArg (fun n : Nat => (n : Int)) (Fl.dmul_one hl hnum)).trans ha
      rw [this]; simp
    have e2 : (sDiv a 4607182418800017408 != a) = false := by
      have : sDiv a 4607182418800017408 = a := by unfold sDiv; exact (congrArg (fun n : Nat => (n : Int)) (Fl.ddiv_one hl hnum)).trans ha
      rw [this]; simp
    have e3 : sEqual (sAdd a a) (sMul a 4611686018427387904) = true := by
      obtain ⟨h1, h2⟩ := Fl.dadd_self hnum
      unfold sEqual sAdd sMul
      rw [Int.toNat_natCast, Int.toNat_natCast]
      show Fl.deq (Fl.dadd a.toNat a.toNat) (Fl.dmul a.toNat Fl.two) = true
      rw [← h1, Fl.deq_self]; exact Fl.isNumB_iff.2 h2
    rcases Fl.num_cases hnum with hf | hi
    · have hi : (Go.bits .and .u64 a 9223372036854775807 == 9218868437227405312) = false := by
        rw [hr, beq_eq_false_iff_ne]
        unfold Fl.isFin at hf; rw [Fl.D_inf] at hf; omega
      have e4 : sEqual (sSub a a) 0 = true := by
        unfold sEqual sSub; rw [Int.toNat_natCast]; exact Fl.dsub_self hl hf
      by_cases hz : Fl.rung Fl.D a.toNat = 0
      · have hz2 : (Go.bits .and .u64 a 9223372036854775807 == 0) = true := by rw [hr, hz]; rfl
        have e5 : (sDiv a a == 9221120237041090560) = true := by unfold sDiv; rw [Fl.ddiv_self_zero hf hz]; rfl
        clear h0 hx hn hnum hr hl ha hf hz
        go_enter Try.func6, Try.ntmps6
        go_wp2_with (first | (go_at_call 41; refine (softAdd_calls _ _ _).mono ?_; rintro e w' ⟨rfl, n, rfl⟩) | (go_at_call 44; refine (softSub_calls _ _ _).mono ?_; rintro e w' ⟨rfl, n, rfl⟩) | (go_at_call 42; refine (softMul_calls _ _ _).mono ?_; rintro e w' ⟨rfl, n, rfl⟩) | (go_at_call 43; refine (softDiv_calls _ _ _).mono ?_; rintro e w' ⟨rfl, n, rfl⟩) | (go_at_call 28; refine (softEqual_calls _ _ _).mono ?_; rintro e w' ⟨rfl, rfl⟩) | (go_at_call 30; refine (awake_calls _).mono ?_; rintro e w' ⟨rfl, n, rfl⟩) | (go_at_call 39; refine (cn _).mono ?_; rintro e w' ⟨rfl, n, rfl⟩) | (go_at_call 40; refine (cf _).mono ?_; rintro e w' ⟨rfl, n, rfl⟩))
        go_ret
        exact ⟨rfl, ⟨_, rfl⟩⟩
      · have hz2 : (Go.bits .and .u64 a 9223372036854775807 == 0) = false := by rw [hr, beq_eq_false_iff_ne]; omega
        have e5 : (sDiv a a == 4607182418800017408) = true := by unfold sDiv; rw [Fl.ddiv_self hf hz]; rfl
        clear h0 hx hn hnum hr hl ha hf hz
        go_enter Try.func6, Try.ntmps6
        go_wp2_with (first | (go_at_call 41; refine (softAdd_calls _ _ _).mono ?_; rintro e w' ⟨rfl, n, rfl⟩) | (go_at_call 44; refine (softSub_calls _ _ _).mono ?_; rintro e w' ⟨rfl, n, rfl⟩) | (go_at_call 42; refine (softMul_calls _ _ _).mono ?_; rintro e w' ⟨rfl, n, rfl⟩) | (go_at_call 43; refine (softDiv_calls _ _ _).mono ?_; rintro e w' ⟨rfl, n, rfl⟩) | (go_at_call 28; refine (softEqual_calls _ _ _).mono ?_; rintro e w' ⟨rfl, rfl⟩) | (go_at_call 30; refine (awake_calls _).mono ?_; rintro e w' ⟨rfl, n, rfl⟩) | (go_at_call 39; refine (cn _).mono ?_; rintro e w' ⟨rfl, n, rfl⟩) | (go_at_call 40; refine (cf _).mono ?_; rintro e w' ⟨rfl, n, rfl⟩))
        go_ret
        exact ⟨rfl, ⟨_, rfl⟩⟩
    · have hi2 : (Go.bits .and .u64 a 9223372036854775807 == 9218868437227405312) = true := by rw [hr, hi, Fl.D_inf]; rfl
      have hri := Fl.read_inf hi Fl.D_le
      have e4 : (sSub a a != 9221120237041090560) = false := by unfold sSub; rw [Fl.dsub_self_inf hri]; rfl
      have e5 : (sDiv a a == 9221120237041090560) = true := by unfold sDiv; rw [Fl.ddiv_self_inf hri]; rfl
      clear h0 hx hn hnum hr hl ha hi hri
      go_enter Try.func6, Try.ntmps6
      go_wp2_with (first | (go_at_call 41; refine (softAdd_calls _ _ _).mono ?_; rintro e w' ⟨rfl, n, rfl⟩) | (go_at_call 44; refine (softSub_calls _ _ _).mono ?_; rintro e w' ⟨rfl, n, rfl⟩) | (go_at_call 42; refine (softMul_calls _ _ _).mono ?_; rintro e w' ⟨rfl, n, rfl⟩) | (go_at_call 43; refine (softDiv_calls _ _ _).mono ?_; rintro e w' ⟨rfl, n, rfl⟩) | (go_at_call 28; refine (softEqual_calls _ _ _).mono ?_; rintro e w' ⟨rfl, rfl⟩) | (go_at_call 30; refine (awake_calls _).mono ?_; rintro e w' ⟨rfl, n, rfl⟩) | (go_at_call 39; refine (cn _).mono ?_; rintro e w' ⟨rfl, n, rfl⟩) | (go_at_call 40; refine (cf _).mono ?_; rintro e w' ⟨rfl, n, rfl⟩))
      go_ret
      exact ⟨rfl, ⟨_, rfl⟩⟩
theorem softOnes_walk (a : Int) (w : World) (ha : (Lit.int .u64 a).wf = true) : Calls Try.prog 6 #[.int .u64 a] w fun e w' => e = .returned (.bool true) ∧ Below w.heap.size w w' :=
  law_below (softOnes_calls a (u64_range ha).1 (u64_range ha).2 w)
end Go.Proofs.Ytieddikacnmhlaa

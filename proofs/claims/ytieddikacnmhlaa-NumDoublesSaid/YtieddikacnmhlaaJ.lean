/- Quotients rounded down and rests, as num works them out; the operations on any two numbers. -/
import Derived.Test.YtieddikacnmhlaaI
namespace Go.Proofs.Ytieddikacnmhlaa
open Go.RowKit

theorem fits_quot {a b : Int} (ha : fits a) (hb : b ≠ 0) (hs : ¬ (a = -9223372036854775808 ∧ b = -1)) : fits (a.tdiv b) ∧ fits (a.fdiv b) := by
  have h3 := Int.natAbs_tdiv a b
  have h4 : a.natAbs / b.natAbs ≤ a.natAbs := Nat.div_le_self _ _
  have h1 := Int.mul_tdiv_add_tmod a b
  have hq : fits (a.tdiv b) := by
    by_cases h1' : b = -1
    · subst h1'
      have : a.tdiv (-1) = -a := by rw [Int.tdiv_neg, Int.tdiv_one]
      rw [this]; unfold fits at *; omega
    · by_cases h2' : b = 1
      · subst h2'; rw [Int.tdiv_one]; exact ha
      · have h5 : a.natAbs / b.natAbs ≤ a.natAbs / 2 := Nat.div_le_div_left (by omega) (by omega)
        have h6 : (a.tdiv b).natAbs ≤ a.natAbs / 2 := by rw [h3]; exact h5
        unfold fits at *; omega
  refine ⟨hq, ?_⟩
  rw [fdiv_lower hb]
  split
  · rename_i hl
    by_cases h2' : b = 1
    · exfalso
      subst h2'
      unfold lowerB at hl; rw [Int.tmod_one] at hl; simp at hl
    · by_cases h1' : b = -1
      · exfalso
        subst h1'
        unfold lowerB at hl; rw [Int.tmod_neg, Int.tmod_one] at hl; simp at hl
      · have h5 : a.natAbs / b.natAbs ≤ a.natAbs / 2 := Nat.div_le_div_left (by omega) (by omega)
        have h6 : (a.tdiv b).natAbs ≤ a.natAbs / 2 := by rw [h3]; exact h5
        unfold fits at *; omega
  · exact hq

set_option maxHeartbeats 1600000 in
theorem divI_calls (a b : Int) (ha : fits a) (w : World) : Calls Try.prog 92 #[.int .i64 a, .int .i64 b] w fun e w' => e = .returned (.tuple #[.int .i64 (iDiv a b).1, .int .i64 (iDiv a b).2]) ∧ w = w' := by
  by_cases h0 : b = 0
  · subst h0
    have e : iDiv a 0 = (0, 11) := rfl
    rw [e]
    clear e ha
    go_enter Try.func92, Try.ntmps92
    go_wp2
    go_ret2
    exact ⟨rfl, rfl⟩
  · have t0 : (b == 0) = false := beq_eq_false_iff_ne.2 h0
    by_cases hs : a = -9223372036854775808 ∧ b = -1
    · obtain ⟨rfl, rfl⟩ := hs
      have e : iDiv (-9223372036854775808) (-1) = (0, 10) := by decide +kernel
      rw [e]
      clear e ha t0 h0
      go_enter Try.func92, Try.ntmps92
      go_wp2
      go_ret2
      exact ⟨rfl, rfl⟩
    · obtain ⟨hq, hf⟩ := fits_quot ha h0 hs
      have e : iDiv a b = (a.fdiv b, 0) := by unfold iDiv exact; rw [if_neg h0, if_pos hf]
      have hl := lower_calls (a.tmod b) b
      rw [e, fdiv_lower h0]
      rw [fdiv_lower h0] at hf
      have hw := wrap_fits hq
      by_cases hm : a = -9223372036854775808
      · have tb : (b == -1) = false := beq_eq_false_iff_ne.2 (fun h => hs ⟨hm, h⟩)
        have ta : (a == -9223372036854775808) = true := beq_iff_eq.2 hm
        cases hlo : lowerB (a.tmod b) b with
        | true =>
          rw [hlo] at hl hf
          rw [if_pos rfl] at hf ⊢
          have hw2 := wrap_fits hf
          have H1 := Lib.hid hw
          have H2 := Lib.hid hw2
          clear e hf hq hw hw2 ha hs hlo hm
          go_enter Try.func92, Try.ntmps92
          go_wp2_with (go_at_call 93; refine (hl _).mono ?_; rintro e w' ⟨rfl, rfl⟩)
          go_ret2
          exact ⟨by simp [H1.out, H2.out], rfl⟩
        | false =>
          rw [hlo] at hl hf
          rw [if_neg (by decide)] at hf ⊢
          have H1 := Lib.hid hw
          clear e hf hq hw ha hs hlo hm
          go_enter Try.func92, Try.ntmps92
          go_wp2_with (go_at_call 93; refine (hl _).mono ?_; rintro e w' ⟨rfl, rfl⟩)
          go_ret2
          exact ⟨by simp [H1.out], rfl⟩
      · have ta : (a == -9223372036854775808) = false := beq_eq_false_iff_ne.2 hm
        cases hlo : lowerB (a.tmod b) b with
        | true =>
          rw [hlo] at hl hf
          rw [if_pos rfl] at hf ⊢
          have hw2 := wrap_fits hf
          have H1 := Lib.hid hw
          have H2 := Lib.hid hw2
          clear e hf hq hw hw2 ha hs hlo hm
          go_enter Try.func92, Try.ntmps92
          go_wp2_with (go_at_call 93; refine (hl _).mono ?_; rintro e w' ⟨rfl, rfl⟩)
          go_ret2
          exact ⟨by simp [H1.out, H2.out], rfl⟩
        | false =>
          rw [hlo] at hl hf
          rw [if_neg (by decide)] at hf ⊢
          have H1 := Lib.hid hw
          clear e hf hq hw ha hs hlo hm
          go_enter Try.func92, Try.ntmps92
          go_wp2_with (go_at_call 93; refine (hl _).mono ?_; rintro e w' ⟨rfl, rfl⟩)
          go_ret2
          exact ⟨by simp [H1.out], rfl⟩

set_option maxHeartbeats 1600000 in
theorem modI_calls (a b : Int) (hb : fits b) (w : World) : Calls Try.prog 100 #[.int .i64 a, .int .i64 b] w fun e w' => e = .returned (.tuple #[.int .i64 (iMod a b).1, .int .i64 (iMod a b).2]) ∧ w = w' := by
  by_cases h0 : b = 0
  · subst h0
    have e : iMod a 0 = (0, 11) := rfl
    rw [e]
    clear e hb
    go_enter Try.func100, Try.ntmps100
    go_wp2
    go_ret2
    exact ⟨rfl, rfl⟩
  · have t0 : (b == 0) = false := beq_eq_false_iff_ne.2 h0
    have e : iMod a b = (a.fmod b, 0) := by unfold iMod; rw [if_neg h0]
    have hl := lower_calls (a.tmod b) b
    have hn : (a.tmod b).natAbs < b.natAbs := by rw [Int.natAbs_tmod]; exact Nat.mod_lt _ (by omega)
    rw [e, fmod_lower h0]
    cases hlo : lowerB (a.tmod b) b with
    | true =>
      have hw : wrap64 (a.tmod b + b) = a.tmod b + b := by
        apply wrap_fits
        unfold lowerB at hlo
        have : (a.tmod b < 0 ∧ 0 ≤ b) ∨ (0 ≤ a.tmod b ∧ b < 0) := by
          by_cases s1 : a.tmod b < 0 <;> by_cases s2 : b < 0
          · rw [decide_eq_true s1, decide_eq_true s2] at hlo; simp at hlo
          · omega
          · omega
          · rw [decide_eq_false s1, decide_eq_false s2] at hlo; simp at hlo
        unfold fits at *; omega
      rw [hlo] at hl
      rw [if_pos rfl]
      have H1 := Lib.hid hw
      clear e hw hb hlo hn
      go_enter Try.func100, Try.ntmps100
      go_wp2_with (go_at_call 93; refine (hl _).mono ?_; rintro e w' ⟨rfl, rfl⟩)
      go_ret2
      exact ⟨by simp [H1.out], rfl⟩
    | false =>
      rw [hlo] at hl
      rw [if_neg (by decide)]
      clear e hb hlo hn
      go_enter Try.func100, Try.ntmps100
      go_wp2_with (go_at_call 93; refine (hl _).mono ?_; rintro e w' ⟨rfl, rfl⟩)
      go_ret2
      exact ⟨rfl, rfl⟩

/-! ## The operations on doubles that are handed to 'done' -/
def sFloorDiv (a b : Int) : Int := sFloor (sDiv a b)
def sMod (a b : Int) : Int := sSub a (sMul b (sFloor (sDiv a b)))
set_option maxHeartbeats 800000 in
theorem floorDivD_calls (a b : Int) (w : World) : Calls Try.prog 94 #[.int .u64 a, .int .u64 b] w fun e w' => e = .returned (.int .u64 (sFloorDiv a b)) ∧ Dr w w' := by
  have cf := softFloor_calls (sDiv a b) (sDiv_range a b).2
  unfold sFloorDiv
  go_enter Try.func94, Try.ntmps94
  go_wp2_with (first | (go_at_call 43; refine (softDiv_calls _ _ _).mono ?_; rintro e w' ⟨rfl, n, rfl⟩) | (go_at_call 40; refine (cf _).mono ?_; rintro e w' ⟨rfl, n, rfl⟩))
  go_ret
  exact ⟨rfl, ⟨_, rfl⟩⟩
set_option maxHeartbeats 800000 in
theorem modD_calls (a b : Int) (w : World) : Calls Try.prog 101 #[.int .u64 a, .int .u64 b] w fun e w' => e = .returned (.int .u64 (sMod a b)) ∧ Dr w w' := by
  have cf := softFloor_calls (sDiv a b) (sDiv_range a b).2
  unfold sMod
  go_enter Try.func101, Try.ntmps101
  go_wp2_with (first | (go_at_call 43; refine (softDiv_calls _ _ _).mono ?_; rintro e w' ⟨rfl, n, rfl⟩) | (go_at_call 40; refine (cf _).mono ?_; rintro e w' ⟨rfl, n, rfl⟩) | (go_at_call 42; refine (softMul_calls _ _ _).mono ?_; rintro e w' ⟨rfl, n, rfl⟩) | (go_at_call 44; refine (softSub_calls _ _ _).mono ?_; rintro e w' ⟨rfl, n, rfl⟩))
  go_ret
  exact ⟨rfl, ⟨_, rfl⟩⟩
end Go.Proofs.Ytieddikacnmhlaa

/- The reference's shifts, one place at a time. -/
import Derived.Test.YtieddikacnmhlaaP
namespace Go.Proofs.Ytieddikacnmhlaa
open Go.RowKit

theorem shl_over {a : Int} {k n : Nat} (hkn : k < n) (h : a * 2 ^ k > 4611686018427387903 ∨ a * 2 ^ k < -4611686018427387904) : ¬ fits (a * 2 ^ n) := by
  obtain ⟨d, rfl⟩ : ∃ d, n = k + 1 + d := ⟨n - k - 1, by omega⟩
  have hp : (0 : Int) < 2 ^ d := Int.pow_pos (by omega)
  rw [Int.pow_add, Int.pow_succ, ← Int.mul_assoc, ← Int.mul_assoc]
  generalize a * 2 ^ k = x at *
  generalize (2 : Int) ^ d = p at *
  unfold fits
  rcases h with h | h
  · have : 9223372036854775808 * p ≤ x * 2 * p := Int.mul_le_mul_of_nonneg_right (by omega) (by omega)
    omega
  · have : x * 2 * p ≤ -9223372036854775810 * p := Int.mul_le_mul_of_nonneg_right (by omega) (by omega)
    omega

set_option maxHeartbeats 1600000 in
theorem refShl_calls (a b : Int) (ha : fits a) (w : World) : Calls Try.prog 64 #[.int .i64 a, .int .i64 b] w fun e w' => e = .returned (.tuple #[.int .i64 (iShl a b).1, .int .i64 (iShl a b).2]) ∧ w = w' := by
  by_cases c1 : b < 0
  · have d1 : decide (b < 0) = true := decide_eq_true c1
    unfold iShl
    rw [if_neg (by omega)]
    clear c1 ha
    go_enter Try.func64, Try.ntmps64
    go_wp2
    go_ret2
    exact ⟨rfl, rfl⟩
  · have d1 : decide (b < 0) = false := decide_eq_false c1
    by_cases c2 : b > 63
    · have d2 : decide (b > 63) = true := decide_eq_true c2
      unfold iShl
      rw [if_neg (by omega)]
      clear c1 c2 ha
      go_enter Try.func64, Try.ntmps64
      go_wp2
      go_ret2
      exact ⟨rfl, rfl⟩
    · have d2 : decide (b > 63) = false := decide_eq_false c2
      obtain ⟨n, rfl⟩ := Int.eq_ofNat_of_zero_le (show 0 ≤ b by omega)
      have hn : n ≤ 63 := by omega
      have e : iShl a n = exact (a * 2 ^ n) := by unfold iShl; rw [if_pos ⟨by omega, by omega⟩, Int.toNat_natCast]
      rw [e]
      clear c1 c2 e
      go_enter Try.func64, Try.ntmps64
      go_wp2
      go_loop [0, 6] (fun x i => ∃ k : Nat, k ≤ n ∧ i = .int .i64 k ∧ x = .int .i64 (a * 2 ^ k) ∧ fits (a * 2 ^ k)) (fun _ i => n - (intOf i).toNat)
      case atStart => exact ⟨0, by omega, rfl, by simp, by simpa using ha⟩
      case round =>
        obtain ⟨k, hk, rfl, rfl, hf⟩ := hrel
        have hf' := hf
        unfold fits at hf'
        obtain ⟨f1, f2⟩ := hf'
        by_cases hlt : k < n
        · have hs := shl_over (a := a) hlt
          have hpow : a * 2 ^ (k + 1) = 2 * (a * 2 ^ k) := by rw [Int.pow_succ]; rw [← Int.mul_assoc, Int.mul_comm]
          generalize hx : a * 2 ^ k = x at *
          by_cases o1 : x > 4611686018427387903
          · have he : exact (a * 2 ^ n) = (0, 10) := by unfold exact; rw [if_neg (hs (.inl o1))]
            have t1 : decide (x > 4611686018427387903) = true := decide_eq_true o1
            have He := Lib.hid he
            clear hs hpow he hf hx
            go_wp2
            go_ret2
            exact ⟨by rw [He.out]; rfl, rfl⟩
          · have t1 : decide (x > 4611686018427387903) = false := decide_eq_false o1
            by_cases o2 : x < -4611686018427387904
            · have he : exact (a * 2 ^ n) = (0, 10) := by unfold exact; rw [if_neg (hs (.inr o2))]
              have t2 : decide (x < -4611686018427387904) = true := decide_eq_true o2
              have He := Lib.hid he
              clear hs hpow he hf hx
              go_wp2
              go_ret2
              exact ⟨by rw [He.out]; rfl, rfl⟩
            · have t2 : decide (x < -4611686018427387904) = false := decide_eq_false o2
              have hf2 : fits (2 * x) := by unfold fits; omega
              have H1 := Lib.hid hpow
              have H2 := Lib.hid hf2
              clear hs hpow hf hf2 hx
              go_wp2
              go_round
              case rel => exact ⟨k + 1, by omega, by go_num, by rw [H1.out], by rw [H1.out]; exact H2.out⟩
              case measure => simp [intOf]; omega
        · have hkn : k = n := by omega
          have he : exact (a * 2 ^ n) = (a * 2 ^ k, 0) := by unfold exact; rw [hkn] at hf ⊢; rw [if_pos hf]
          have He := Lib.hid he
          clear he hf hkn
          go_wp2
          go_ret2
          exact ⟨by rw [He.out]; rfl, rfl⟩

theorem half_down (x : Int) : (if x.tmod 2 = -1 then (x - 1).tdiv 2 else x.tdiv 2) = x / 2 := by
  by_cases h : 0 ≤ x
  · rw [Int.tmod_eq_emod_of_nonneg h, if_neg (by omega), Int.tdiv_eq_ediv_of_nonneg h]
  · have e1 : x.tmod 2 = -((-x) % 2) := by rw [← Int.tmod_eq_emod_of_nonneg (by omega), Int.neg_tmod, Int.neg_neg]
    have e2 : ∀ y : Int, y < 0 → y.tdiv 2 = -((-y) / 2) := fun y hy => by rw [← Int.tdiv_eq_ediv_of_nonneg (by omega), Int.neg_tdiv, Int.neg_neg]
    rw [e1, e2 x (by omega), e2 (x - 1) (by omega)]
    split <;> omega

set_option maxHeartbeats 1600000 in
theorem refShr_calls (a b : Int) (ha : fits a) (w : World) : Calls Try.prog 66 #[.int .i64 a, .int .i64 b] w fun e w' => e = .returned (.tuple #[.int .i64 (iShr a b).1, .int .i64 (iShr a b).2]) ∧ w = w' := by
  by_cases c1 : b < 0
  · have d1 : decide (b < 0) = true := decide_eq_true c1
    unfold iShr
    rw [if_neg (by omega)]
    clear c1 ha
    go_enter Try.func66, Try.ntmps66
    go_wp2
    go_ret2
    exact ⟨rfl, rfl⟩
  · have d1 : decide (b < 0) = false := decide_eq_false c1
    by_cases c2 : b > 63
    · have d2 : decide (b > 63) = true := decide_eq_true c2
      unfold iShr
      rw [if_neg (by omega)]
      clear c1 c2 ha
      go_enter Try.func66, Try.ntmps66
      go_wp2
      go_ret2
      exact ⟨rfl, rfl⟩
    · have d2 : decide (b > 63) = false := decide_eq_false c2
      obtain ⟨n, rfl⟩ := Int.eq_ofNat_of_zero_le (show 0 ≤ b by omega)
      have hn : n ≤ 63 := by omega
      have e : iShr a n = (a / 2 ^ n, 0) := by unfold iShr; rw [if_pos ⟨by omega, by omega⟩, Int.toNat_natCast]
      rw [e]
      clear c1 c2 e
      go_enter Try.func66, Try.ntmps66
      go_wp2
      go_loop [0, 6] (fun x i => ∃ k : Nat, k ≤ n ∧ i = .int .i64 k ∧ x = .int .i64 (a / 2 ^ k) ∧ fits (a / 2 ^ k)) (fun _ i => n - (intOf i).toNat)
      case atStart => exact ⟨0, by omega, rfl, by simp, by simpa using ha⟩
      case round =>
        obtain ⟨k, hk, rfl, rfl, hf⟩ := hrel
        unfold fits at hf
        obtain ⟨f1, f2⟩ := hf
        by_cases hlt : k < n
        · have hpow : a / 2 ^ (k + 1) = a / 2 ^ k / 2 := by rw [Int.pow_succ, Int.ediv_ediv_of_nonneg (Int.le_of_lt (Int.pow_pos (by omega)))]
          have hh := half_down (a / 2 ^ k)
          rw [← hpow] at hh
          have hf2 : fits (a / 2 ^ (k + 1)) := by rw [hpow]; unfold fits; omega
          generalize hy : a / 2 ^ (k + 1) = y at *
          have HY := Lib.hid hy
          clear hy
          generalize a / 2 ^ k = x at *
          by_cases o1 : x.tmod 2 = -1
          · have t1 : (x.tmod 2 == -1) = true := beq_iff_eq.2 o1
            rw [if_pos o1] at hh
            have hlow : -9223372036854775807 ≤ x := by
              by_cases hb : x = -9223372036854775808
              · subst hb; exact absurd o1 (by decide)
              · omega
            have H1 := Lib.hid hh
            have H2 := Lib.hid hf2
            clear hpow hh hf2 o1
            go_wp2
            go_round
            case rel => exact ⟨k + 1, by omega, by go_num, by rw [H1.out, HY.out], by rw [HY.out]; exact H2.out⟩
            case measure => simp [intOf]; omega
          · have t1 : (x.tmod 2 == -1) = false := beq_eq_false_iff_ne.2 o1
            rw [if_neg o1] at hh
            have H1 := Lib.hid hh
            have H2 := Lib.hid hf2
            clear hpow hh hf2 o1
            go_wp2
            go_round
            case rel => exact ⟨k + 1, by omega, by go_num, by rw [H1.out, HY.out], by rw [HY.out]; exact H2.out⟩
            case measure => simp [intOf]; omega
        · have hkn : k = n := by omega
          have he : a / 2 ^ n = a / 2 ^ k := by rw [hkn]
          have He := Lib.hid he
          clear he hkn
          go_wp2
          go_ret2
          exact ⟨by rw [He.out]; rfl, rfl⟩
end Go.Proofs.Ytieddikacnmhlaa

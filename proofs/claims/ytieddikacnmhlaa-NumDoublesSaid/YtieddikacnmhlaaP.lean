/- Shifts, as num and the reference do them. -/
import Derived.Test.YtieddikacnmhlaaI
import Derived.LoopTactic
namespace Go.Proofs.Ytieddikacnmhlaa
open Go.RowKit

def iShl (a b : Int) : Int × Int := if 0 ≤ b ∧ b ≤ 63 then exact (a * 2 ^ b.toNat) else (0, 12)
def iShr (a b : Int) : Int × Int := if 0 ≤ b ∧ b ≤ 63 then (a / 2 ^ b.toNat, 0) else (0, 12)

theorem shl_tells {a : Int} {n : Nat} (hn : n ≤ 63) (h : ¬ fits (a * 2 ^ n)) : wrap64 (a * 2 ^ n) / 2 ^ n ≠ a := by
  intro he
  have hp : (0 : Int) < 2 ^ n := Int.pow_pos (by omega)
  have hr := fits_wrap (a * 2 ^ n)
  obtain ⟨m, hm⟩ : ∃ m : Int, wrap64 (a * 2 ^ n) = a * 2 ^ n + m * 18446744073709551616 :=
    ⟨-((a * 2 ^ n + 9223372036854775808) / 18446744073709551616), by unfold wrap64; omega⟩
  have e : (18446744073709551616 : Int) = 2 ^ (64 - n) * 2 ^ n := by rw [← Int.pow_add, show 64 - n + n = 64 by omega]; rfl
  have h2 : wrap64 (a * 2 ^ n) / 2 ^ n = a + m * 2 ^ (64 - n) := by
    rw [hm, e, ← Int.mul_assoc, ← Int.add_mul, Int.mul_ediv_cancel _ (by omega)]
  rw [h2] at he
  have hp2 : (0 : Int) < 2 ^ (64 - n) := Int.pow_pos (by omega)
  have hm0 : m = 0 := by
    rcases Int.mul_eq_zero.1 (show m * 2 ^ (64 - n) = 0 by omega) with h | h
    · exact h
    · omega
  rw [hm0, Int.zero_mul, Int.add_zero] at hm
  rw [hm] at hr
  exact h hr

set_option maxHeartbeats 800000 in
theorem shl_calls (a b : Int) (w : World) : Calls Try.prog 63 #[.int .i64 a, .int .i64 b] w fun e w' => e = .returned (.tuple #[.int .i64 (iShl a b).1, .int .i64 (iShl a b).2]) ∧ w = w' := by
  unfold iShl
  by_cases c1 : b < 0
  · have d1 : decide (b < 0) = true := decide_eq_true c1
    rw [if_neg (by omega)]
    clear c1
    go_enter Try.func63, Try.ntmps63
    go_wp2
    go_ret2
    exact ⟨rfl, rfl⟩
  · have d1 : decide (b < 0) = false := decide_eq_false c1
    by_cases c2 : b > 63
    · have d2 : decide (b > 63) = true := decide_eq_true c2
      rw [if_neg (by omega)]
      clear c1 c2
      go_enter Try.func63, Try.ntmps63
      go_wp2
      go_ret2
      exact ⟨rfl, rfl⟩
    · have d2 : decide (b > 63) = false := decide_eq_false c2
      have h0 : 0 ≤ b := by omega
      have h1 : b ≤ 63 := by omega
      rw [if_pos ⟨h0, h1⟩]
      unfold exact
      by_cases hf : fits (a * 2 ^ b.toNat)
      · rw [if_pos hf]
        have hw := wrap_fits hf
        have t : (wrap64 (a * 2 ^ b.toNat) / 2 ^ b.toNat != a) = false := by
          rw [hw, Int.mul_ediv_cancel _ (Int.ne_of_gt (Int.pow_pos (by omega)))]; simp
        have H := Lib.hid hw
        clear c1 c2 hf hw
        go_enter Try.func63, Try.ntmps63
        go_wp2
        go_ret2
        exact ⟨by simp [H.out], rfl⟩
      · rw [if_neg hf]
        have t : (wrap64 (a * 2 ^ b.toNat) / 2 ^ b.toNat != a) = true := by rw [bne_iff_ne]; exact shl_tells (by omega) hf
        clear c1 c2 hf
        go_enter Try.func63, Try.ntmps63
        go_wp2
        go_ret2
        exact ⟨rfl, rfl⟩

set_option maxHeartbeats 800000 in
theorem shr_calls (a b : Int) (w : World) : Calls Try.prog 65 #[.int .i64 a, .int .i64 b] w fun e w' => e = .returned (.tuple #[.int .i64 (iShr a b).1, .int .i64 (iShr a b).2]) ∧ w = w' := by
  unfold iShr
  by_cases c1 : b < 0
  · have d1 : decide (b < 0) = true := decide_eq_true c1
    rw [if_neg (by omega)]
    clear c1
    go_enter Try.func65, Try.ntmps65
    go_wp2
    go_ret2
    exact ⟨rfl, rfl⟩
  · have d1 : decide (b < 0) = false := decide_eq_false c1
    by_cases c2 : b > 63
    · have d2 : decide (b > 63) = true := decide_eq_true c2
      rw [if_neg (by omega)]
      clear c1 c2
      go_enter Try.func65, Try.ntmps65
      go_wp2
      go_ret2
      exact ⟨rfl, rfl⟩
    · have d2 : decide (b > 63) = false := decide_eq_false c2
      have h0 : 0 ≤ b := by omega
      have h1 : b ≤ 63 := by omega
      rw [if_pos ⟨h0, h1⟩]
      clear c1 c2
      go_enter Try.func65, Try.ntmps65
      go_wp2
      go_ret2
      exact ⟨rfl, rfl⟩
end Go.Proofs.Ytieddikacnmhlaa

/- A shift there and back; a shift by one more is twice as much. -/
import Derived.Test.YtieddikacnmhlaaT
namespace Go.Proofs.Ytieddikacnmhlaa
open Go.RowKit
set_option linter.unusedSimpArgs false

set_option maxRecDepth 100000 in
set_option maxHeartbeats 6400000 in
theorem numWhere_out (a b : Int) (w : World) (t : decide (b < 0) = true ∨ (decide (b < 0) = false ∧ decide (b > 63) = true))
    (h1 : ∀ w, Calls Try.prog 63 #[.int .i64 a, .int .i64 b] w fun e w' => e = .returned (.tuple #[.int .i64 0, .int .i64 12]) ∧ w = w')
    (h2 : ∀ w, Calls Try.prog 65 #[.int .i64 a, .int .i64 b] w fun e w' => e = .returned (.tuple #[.int .i64 0, .int .i64 12]) ∧ w = w') :
    Calls Try.prog 16 #[.int .i64 a, .int .i64 b] w fun e w' => e = .returned (.bool true) ∧ Below w.heap.size w w' := by
  have L := Below.refl w.heap.size w
  rcases t with d1 | ⟨d1, d2⟩
  all_goals
    go_enter Try.func16, Try.ntmps16
    go_wp2_with fail
    refine (h1 _).mono ?_
    rintro e wa ⟨rfl, rfl⟩
    go_wp2_with fail
    refine (h2 _).mono ?_
    rintro e wa ⟨rfl, rfl⟩
    go_wp2_with fail
    refine (lawAwake_calls _).mono ?_
    rintro e wz ⟨rfl, hb⟩
    have L := bnext L hb rfl rfl rfl rfl
    clear hb
    go_wp2
    go_ret
    exact ⟨by first | rfl | simp, ⟨L.os, L.tape, L.output, L.size, L.block⟩⟩

set_option maxRecDepth 100000 in
set_option maxHeartbeats 6400000 in
theorem numWhere_ok (a b x z g v i : Int) (w : World) (h0 : 0 ≤ b) (h63 : b ≤ 63) (d1 : decide (b < 0) = false) (d2 : decide (b > 63) = false)
    (t : (decide (b < 63) = true ∧ (z != v) = false ∧ (g != i) = false) ∨ decide (b < 63) = false)
    (h1 : ∀ w, Calls Try.prog 63 #[.int .i64 a, .int .i64 b] w fun e w' => e = .returned (.tuple #[.int .i64 x, .int .i64 0]) ∧ w = w')
    (h2 : ∀ w, Calls Try.prog 65 #[.int .i64 x, .int .i64 b] w fun e w' => e = .returned (.tuple #[.int .i64 a, .int .i64 0]) ∧ w = w')
    (h3 : ∀ w, Calls Try.prog 63 #[.int .i64 x, .int .i64 1] w fun e w' => e = .returned (.tuple #[.int .i64 z, .int .i64 g]) ∧ w = w')
    (h4 : ∀ w, Calls Try.prog 63 #[.int .i64 a, .int .i64 (b + 1)] w fun e w' => e = .returned (.tuple #[.int .i64 v, .int .i64 i]) ∧ w = w')
    (h5 : ∀ w, Calls Try.prog 65 #[.int .i64 a, .int .i64 b] w fun e w' => e = .returned (.tuple #[.int .i64 (a / 2 ^ b.toNat), .int .i64 0]) ∧ w = w') :
    Calls Try.prog 16 #[.int .i64 a, .int .i64 b] w fun e w' => e = .returned (.bool true) ∧ Below w.heap.size w w' := by
  have L := Below.refl w.heap.size w
  have ea : (a != a) = false := bne_self_eq_false a
  have el : decide (a / 2 ^ b.toNat < a / 2 ^ b.toNat) = false := decide_eq_false (Int.lt_irrefl _)
  rcases t with ⟨d3, d4, d5⟩ | d3
  all_goals
    go_enter Try.func16, Try.ntmps16
    go_wp2_with fail
    refine (h1 _).mono ?_
    rintro e wa ⟨rfl, rfl⟩
    go_wp2_with fail
    refine (h2 _).mono ?_
    rintro e wa ⟨rfl, rfl⟩
    go_wp2_with fail
    refine (h3 _).mono ?_
    rintro e wa ⟨rfl, rfl⟩
    go_wp2_with fail
    refine (h4 _).mono ?_
    rintro e wa ⟨rfl, rfl⟩
    go_wp2_with fail
    refine (h5 _).mono ?_
    rintro e wa ⟨rfl, rfl⟩
    go_wp2_with fail
    refine (lawAwake_calls _).mono ?_
    rintro e wz ⟨rfl, hb⟩
    have L := bnext L hb rfl rfl rfl rfl
    clear hb
    go_wp2
    go_ret
    exact ⟨by first | rfl | simp, ⟨L.os, L.tape, L.output, L.size, L.block⟩⟩

set_option maxRecDepth 100000 in
set_option maxHeartbeats 6400000 in
theorem numWhere_over (a b : Int) (w : World) (h0 : 0 ≤ b) (h63 : b ≤ 63) (d1 : decide (b < 0) = false) (d2 : decide (b > 63) = false) (ta : (a == 0) = false)
    (t : decide (b < 63) = true ∨ decide (b < 63) = false)
    (h1 : ∀ w, Calls Try.prog 63 #[.int .i64 a, .int .i64 b] w fun e w' => e = .returned (.tuple #[.int .i64 0, .int .i64 10]) ∧ w = w')
    (h5 : ∀ w, Calls Try.prog 65 #[.int .i64 a, .int .i64 b] w fun e w' => e = .returned (.tuple #[.int .i64 (a / 2 ^ b.toNat), .int .i64 0]) ∧ w = w') :
    Calls Try.prog 16 #[.int .i64 a, .int .i64 b] w fun e w' => e = .returned (.bool true) ∧ Below w.heap.size w w' := by
  have L := Below.refl w.heap.size w
  have el : decide (a / 2 ^ b.toNat < a / 2 ^ b.toNat) = false := decide_eq_false (Int.lt_irrefl _)
  rcases t with d3 | d3
  all_goals
    go_enter Try.func16, Try.ntmps16
    go_wp2_with fail
    refine (h1 _).mono ?_
    rintro e wa ⟨rfl, rfl⟩
    go_wp2_with fail
    refine (h5 _).mono ?_
    rintro e wa ⟨rfl, rfl⟩
    go_wp2_with fail
    refine (lawAwake_calls _).mono ?_
    rintro e wz ⟨rfl, hb⟩
    have L := bnext L hb rfl rfl rfl rfl
    clear hb
    go_wp2
    go_ret
    exact ⟨by first | rfl | simp, ⟨L.os, L.tape, L.output, L.size, L.block⟩⟩

theorem shl_in {a b : Int} (h0 : 0 ≤ b) (h : b ≤ 63) : iShl a b = exact (a * 2 ^ b.toNat) := by unfold iShl; rw [if_pos ⟨h0, h⟩]
theorem shr_in {a b : Int} (h0 : 0 ≤ b) (h : b ≤ 63) : iShr a b = (a / 2 ^ b.toNat, 0) := by unfold iShr; rw [if_pos ⟨h0, h⟩]
theorem shl_out {a b : Int} (h : b < 0 ∨ b > 63) : iShl a b = (0, 12) := by unfold iShl; rw [if_neg (by omega)]
theorem shr_out {a b : Int} (h : b < 0 ∨ b > 63) : iShr a b = (0, 12) := by unfold iShr; rw [if_neg (by omega)]

theorem numWhere_walk (a b : Int) (w : World) (_ : (Lit.int .i64 a).wf = true) (_ : (Lit.int .i64 b).wf = true) :
    Calls Try.prog 16 #[.int .i64 a, .int .i64 b] w fun e w' => e = .returned (.bool true) ∧ Below w.heap.size w w' := by
  have hl := shl_calls a b
  have hr := shr_calls a b
  by_cases o : b < 0 ∨ b > 63
  · rw [shl_out o] at hl
    rw [shr_out o] at hr
    refine numWhere_out a b w ?_ hl hr
    by_cases c : b < 0
    · exact .inl (decide_eq_true c)
    · exact .inr ⟨decide_eq_false c, decide_eq_true (by omega)⟩
  · have h0 : 0 ≤ b := by omega
    have h1 : b ≤ 63 := by omega
    have d1 : decide (b < 0) = false := decide_eq_false (by omega)
    have d2 : decide (b > 63) = false := decide_eq_false (by omega)
    rw [shl_in h0 h1] at hl
    rw [shr_in h0 h1] at hr
    by_cases f : fits (a * 2 ^ b.toNat)
    · have e : exact (a * 2 ^ b.toNat) = (a * 2 ^ b.toNat, 0) := by unfold exact; rw [if_pos f]
      rw [e] at hl
      have hp : (0 : Int) < 2 ^ b.toNat := Int.pow_pos (by omega)
      have h2 := shr_calls (a * 2 ^ b.toNat) b
      rw [shr_in h0 h1, Int.mul_ediv_cancel _ (Int.ne_of_gt hp)] at h2
      have h3 := shl_calls (a * 2 ^ b.toNat) 1
      have h4 := shl_calls a (b + 1)
      refine numWhere_ok a b _ _ _ _ _ w h0 h1 d1 d2 ?_ hl h2 h3 h4 hr
      by_cases c : b < 63
      · have e2 : iShl (a * 2 ^ b.toNat) 1 = iShl a (b + 1) := by
          rw [shl_in (by omega) (by omega), shl_in (by omega) (by omega)]
          have : (b + 1).toNat = b.toNat + 1 := by omega
          rw [this, Int.pow_succ, ← Int.mul_assoc]; rfl
        rw [e2]
        exact .inl ⟨decide_eq_true c, bne_self_eq_false _, bne_self_eq_false _⟩
      · exact .inr (decide_eq_false c)
    · have e : exact (a * 2 ^ b.toNat) = (0, 10) := by unfold exact; rw [if_neg f]
      rw [e] at hl
      refine numWhere_over a b w h0 h1 d1 d2 ?_ ?_ hl hr
      · rw [beq_eq_false_iff_ne]; rintro rfl; rw [Int.zero_mul] at f; exact f fits_zero
      · by_cases c : b < 63
        · exact .inl (decide_eq_true c)
        · exact .inr (decide_eq_false c)
end Go.Proofs.Ytieddikacnmhlaa

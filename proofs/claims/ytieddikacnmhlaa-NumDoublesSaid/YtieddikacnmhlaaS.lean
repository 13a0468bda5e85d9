/- The laws' own call awake: one and a half; a sum that does not fit; a double beside a whole number. -/
import Derived.Test.YtieddikacnmhlaaR
namespace Go.Proofs.Ytieddikacnmhlaa
open Go.RowKit

theorem aw1 : sAdd (sInt 1) 4602678819172646912 = 4609434218613702656 := by decide +kernel
theorem aw2 : iAdd 9223372036854775807 1 = (0, 10) := by decide +kernel
theorem aw3 : nLess false 0 4845873199050653696 true 9007199254740993 0 = true := by decide +kernel

theorem awake_one (w : World) : Calls Try.prog 60 #[numV true 1 0, numV false 0 4602678819172646912] w fun e w' => e = .returned (.tuple #[numV false 0 4609434218613702656, .int .i64 0]) ∧ Below w.heap.size w w' := by
  have h := numAdd_calls true false 1 0 0 4602678819172646912 (by decide) (by decide) w
  have e : nAdd true false 1 0 0 4602678819172646912 = ⟨false, 0, 4609434218613702656, 0⟩ := by
    unfold nAdd; rw [if_neg (by decide)]
    show (⟨false, 0, sAdd (sInt 1) 4602678819172646912, 0⟩ : NR) = _
    rw [aw1]
  rw [e] at h
  exact h
theorem awake_two (w : World) : Calls Try.prog 60 #[numV true 9223372036854775807 0, numV true 1 0] w fun e w' => e = .returned (.tuple #[numV false 0 0, .int .i64 10]) ∧ Below w.heap.size w w' := by
  have h := numAdd_calls true true 9223372036854775807 0 1 0 (by decide) (by decide) w
  have e : nAdd true true 9223372036854775807 0 1 0 = ⟨false, 0, 0, 10⟩ := by
    unfold nAdd; rw [if_pos (by decide), aw2]; rfl
  rw [e] at h
  exact h
theorem awake_three (w : World) : Calls Try.prog 52 #[numV false 0 4845873199050653696, numV true 9007199254740993 0] w fun e w' => e = .returned (.bool true) ∧ Below w.heap.size w w' := by
  have h := numLess_calls false true 0 4845873199050653696 9007199254740993 0 (by decide) (by decide) w
  rw [aw3] at h
  exact h

set_option maxHeartbeats 3200000 in
theorem lawAwake_calls (w : World) : Calls Try.prog 58 #[] w fun e w' => e = .returned (.bool true) ∧ Below w.heap.size w w' := by
  have L := Below.refl w.heap.size w
  go_enter Try.func58, Try.ntmps58
  go_wp2_with fail
  refine (lawWhole_calls _ _).mono ?_
  rintro e wa ⟨rfl, hb⟩
  have L := bnext L hb rfl rfl rfl rfl
  clear hb
  go_wp2_with fail
  refine (lawDouble_calls _ _).mono ?_
  rintro e wb ⟨rfl, hb⟩
  have L := bnext L hb rfl rfl rfl rfl
  clear hb
  go_wp2_with fail
  refine (awake_one _).mono ?_
  rintro e wc ⟨rfl, hb⟩
  have L := balloc (bnext L hb rfl rfl rfl rfl) (bnext L hb rfl rfl rfl rfl).size (.cells #[.bool false, .int .i64 0, .int .u64 4609434218613702656] 42)
  have A := Box.new wc false 0 4609434218613702656
  clear hb
  go_wp2_with fail
  refine (lawWhole_calls _ _).mono ?_
  rintro e wd ⟨rfl, hb⟩
  have L := bnext L hb rfl rfl rfl rfl
  have A := A.step hb rfl
  clear hb
  go_wp2_with fail
  refine (lawWhole_calls _ _).mono ?_
  rintro e we ⟨rfl, hb⟩
  have L := bnext L hb rfl rfl rfl rfl
  have A := A.step hb rfl
  clear hb
  go_wp2_with fail
  refine (awake_two _).mono ?_
  rintro e wf ⟨rfl, hb⟩
  have L := balloc (bnext L hb rfl rfl rfl rfl) (bnext L hb rfl rfl rfl rfl).size (.cells #[.bool false, .int .i64 0, .int .u64 0] 42)
  have A := (A.step hb rfl).alloc (.cells #[.bool false, .int .i64 0, .int .u64 0] 42)
  obtain ⟨a0, a1, a2, _, _, _⟩ := A.cells
  clear hb
  go_wp2_with fail
  go_region_with (first | (go_at_call 72; refine (lawDouble_calls _ _).mono ?_; rintro e w' ⟨rfl, hb⟩; have A := A.step hb rfl; have L := bnext L hb rfl rfl rfl rfl; obtain ⟨a0, a1, a2, _, _, _⟩ := A.cells; clear hb) | (go_at_call 61; refine (lawWhole_calls _ _).mono ?_; rintro e w' ⟨rfl, hb⟩; have A := A.step hb rfl; have L := bnext L hb rfl rfl rfl rfl; obtain ⟨a0, a1, a2, _, _, _⟩ := A.cells; clear hb) | (go_at_call 52; refine (awake_three _).mono ?_; rintro e w' ⟨rfl, hb⟩; have L := bnext L hb rfl rfl rfl rfl; clear hb))
  all_goals
    go_wp2
    go_ret
    exact ⟨by first | rfl | simp, ⟨L.os, L.tape, L.output, L.size, L.block⟩⟩
end Go.Proofs.Ytieddikacnmhlaa

/- The site laws' own call awake: three pairs of whole numbers, and a fourth. -/
import Derived.Test.YtpoedalbgcpgjaaSBp
import Derived.Deep.LoopGhost
namespace Go.Proofs.Ytpoedalbgcpgjaa
open Go.RowKit
set_option linter.unusedVariables false
set_option linter.unusedSimpArgs false

theorem nan_nought (w : World) : Calls Try.prog 46 #[.int .u64 0] w fun e w' => e = .returned (.bool false) ∧ Below w.heap.size w w' := by
  have L := Below.refl w.heap.size w
  go_enter Try.func46, Try.ntmps46
  go_wp2
  go_ret
  exact ⟨rfl, ⟨L.os, L.tape, L.output, L.size, L.block⟩⟩
theorem class_nought (w : World) : Calls Try.prog 14 #[.int .u64 0] w fun e w' => e = .returned (.int .i64 1) ∧ Below w.heap.size w w' := by
  have L := Below.refl w.heap.size w
  go_enter Try.func14, Try.ntmps14
  go_wp2_with fail
  refine (nan_nought _).mono ?_
  rintro e w1 ⟨rfl, hb⟩
  have L := bnext L hb rfl rfl rfl rfl
  clear hb
  go_wp2
  go_ret
  exact ⟨rfl, ⟨L.os, L.tape, L.output, L.size, L.block⟩⟩
theorem pair_nought (w : World) : Calls Try.prog 28 #[.int .u64 0, .int .u64 0] w fun e w' => e = .returned (.int .i64 2) ∧ Below w.heap.size w w' := by
  have L := Below.refl w.heap.size w
  go_enter Try.func28, Try.ntmps28
  go_wp2_with fail
  refine (class_nought _).mono ?_
  rintro e w1 ⟨rfl, hb⟩
  have L := bnext L hb rfl rfl rfl rfl
  clear hb
  go_wp2_with fail
  refine (class_nought _).mono ?_
  rintro e w2 ⟨rfl, hb⟩
  have L := bnext L hb rfl rfl rfl rfl
  clear hb
  go_wp2
  go_ret
  exact ⟨rfl, ⟨L.os, L.tape, L.output, L.size, L.block⟩⟩

set_option maxHeartbeats 3200000 in
theorem lawAwake_calls (w : World) : Calls Try.prog 30 #[] w fun e w' => e = .returned (.bool true) ∧ Below w.heap.size w w' := by
  go_enter Try.func30, Try.ntmps30
  go_wp2_with fail
  refine (new_calls _ _).mono ?_
  rintro e w1 ⟨rfl, rfl⟩
  have L := (Below.refl w.heap.size w).alloc (Nat.le_refl _) (.cells #[.int .i64 7, .int .i64 0, .int .i64 0, .int .i64 0, .int .i64 0, .int .i64 0, .int .i64 0] 70)
  have S := SB.new w 70 7 0 0 0 0 0 0
  go_wp2_with fail
  go_loopg [2] 3 (fun k n wr => ((k = 3 ∧ n = .int .i64 0 ∧ SB wr w.heap.size 70 7 0 0 0 0 0 0) ∨ (k = 2 ∧ n = .int .i64 1 ∧ SB wr w.heap.size 70 7 0 1 0 0 1 1) ∨ (k = 1 ∧ n = .int .i64 2 ∧ SB wr w.heap.size 70 7 0 2 0 0 1 2) ∨ (k = 0 ∧ n = .int .i64 3 ∧ SB wr w.heap.size 70 7 1 3 0 0 0 0)) ∧ Below w.heap.size w wr)
  case atStart => exact ⟨.inl ⟨rfl, rfl, S⟩, L⟩
  case round =>
    clear S L
    obtain ⟨hrel, L⟩ := hrel
    rcases hrel with ⟨rfl, rfl, S⟩ | ⟨rfl, rfl, S⟩ | ⟨rfl, rfl, S⟩ | ⟨rfl, rfl, S⟩
    · go_wp2_with fail
      refine (on_new1 _ _ _ _ _ _ _ _ S rfl).mono ?_
      rintro x w2 ⟨rfl, S, C⟩
      have L := Chg.below L (Nat.le_refl _) L.size C
      rw [show wrap64 (0 + 1) = 1 by unfold wrap64; decide] at S
      go_wp2
      go_roundg 2
      case measure => decide
      case rel => exact ⟨.inr (.inl ⟨rfl, rfl, S⟩), L⟩
    · go_wp2_with fail
      refine (on_same11 _ _ _ _ _ _ S).mono ?_
      rintro x w2 ⟨rfl, S, C⟩
      have L := Chg.below L (Nat.le_refl _) L.size C
      rw [show wrap64 (1 + 1) = 2 by unfold wrap64; decide] at S
      go_wp2
      go_roundg 1
      case measure => decide
      case rel => exact ⟨.inr (.inr (.inl ⟨rfl, rfl, S⟩)), L⟩
    · go_wp2_with fail
      refine (on_warm12 _ _ _ _ _ _ S rfl).mono ?_
      rintro x w2 ⟨rfl, S, C⟩
      have L := Chg.below L (Nat.le_refl _) L.size C
      rw [show wrap64 (2 + 1) = 3 by unfold wrap64; decide] at S
      go_wp2
      go_roundg 0
      case measure => decide
      case rel => exact ⟨.inr (.inr (.inr ⟨rfl, rfl, S⟩)), L⟩
    · go_wp2_with fail
      refine (on_fast1 _ _ _ _ _ _ _ _ S).mono ?_
      rintro x w2 ⟨rfl, S, C⟩
      have L := Chg.below L (Nat.le_refl _) L.size C
      rw [show wrap64 (0 + 1) = 1 by unfold wrap64; decide] at S
      go_wp2_with fail
      refine (tell_calls _ _ _ _ _ _ _ _ _ S).mono ?_
      rintro x w3 ⟨rfl, hb⟩
      have L := bnext L hb rfl rfl rfl rfl
      clear hb
      go_wp2_with fail
      refine (pair_nought _).mono ?_
      rintro x w4 ⟨rfl, hb⟩
      have L := bnext L hb rfl rfl rfl rfl
      clear hb
      go_wp2
      go_ret
      exact ⟨by first | rfl | simp, ⟨L.os, L.tape, L.output, L.size, L.block⟩⟩
end Go.Proofs.Ytpoedalbgcpgjaa

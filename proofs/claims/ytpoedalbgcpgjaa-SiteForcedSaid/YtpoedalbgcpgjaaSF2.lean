/- A form that is forced stays till a guard fails; what is forced changes no count. For every input; no condition. -/
import Derived.Test.YtpoedalbgcpgjaaSE
import Derived.Deep.DeepCutAuto
import Derived.Deep.RegionHeld3
namespace Go.Proofs.Ytpoedalbgcpgjaa
open Go.RowKit
set_option linter.unusedVariables false
set_option linter.unusedSimpArgs false
set_option maxRecDepth 100000 in
set_option maxHeartbeats 6400000 in
theorem forced_2true (n p : Int) (n0 : 0 ≤ n) (n1 : n ≤ 100) (d1 : decide (n < 0) = false) (d2 : decide (n > 100) = false) (d3 : (p == 2) = true) (w : World) :
    Calls Try.prog 12 #[.int .i64 2, .int .i64 n, .int .i64 p] w fun e w' => e = .returned (.bool true) ∧ Below w.heap.size w w' := by
  go_enter Try.func12, Try.ntmps12
  go_wp2_with fail
  refine (new_calls _ _).mono ?_
  rintro e wa ⟨rfl, rfl⟩
  have L := (Below.refl w.heap.size w).alloc (Nat.le_refl _) (.cells #[.int .i64 5, .int .i64 0, .int .i64 0, .int .i64 0, .int .i64 0, .int .i64 0, .int .i64 0] 70)
  have S := SB.new w 70 5 0 0 0 0 0 0
  go_wp2_with fail
  refine (force_good _ _ _ _ _ _ _ _ _ _ S (by decide)).mono ?_
  rintro x wb ⟨rfl, S, C⟩
  have L := Chg.below L (Nat.le_refl _) L.size C
  go_wp2_with fail
  refine (tell_calls _ _ _ _ _ _ _ _ _ S).mono ?_
  rintro x wc ⟨rfl, hb⟩
  have L := bnext L hb rfl rfl rfl rfl
  have S := S.step hb rfl
  clear hb
  go_wp2_with fail
  go_loopg [8] n.toNat (fun k i wr => ∃ j : Int, i = .int .i64 j ∧ 0 ≤ j ∧ j ≤ n ∧ k = (n - j).toNat ∧ SB wr w.heap.size 70 5 2 0 j 0 0 0 ∧ Below w.heap.size w wr)
  case atStart => exact ⟨0, rfl, by omega, by omega, by omega, S, L⟩
  case round =>
    clear S L C
    obtain ⟨j, rfl, j0, jn, rfl, S, L⟩ := hrel
    cases dj : decide (j < n)
    · have e : j = n := by simp at dj; omega
      subst e
      have en : (j != j) = false := by simp
      go_wp2_with fail
      refine (tell_calls _ _ _ _ _ _ _ _ _ S).mono ?_
      rintro x wt ⟨rfl, hb⟩
      have L := bnext L hb rfl rfl rfl rfl
      have S := S.step hb rfl
      clear hb
      have ne := Nat.ne_of_lt S.lt
      have lt := Nat.le_of_lt S.lt
      have T := TB.new wt 5 2 0 j 0
      have L := balloc L L.size (.cells #[.int .i64 5, .int .i64 2, .int .i64 0, .int .i64 j, .int .i64 0] 44)
      have S := S.alloc (.cells #[.int .i64 5, .int .i64 2, .int .i64 0, .int .i64 j, .int .i64 0] 44)
      obtain ⟨t0, t1, t2, t3, t4, tf⟩ := T.cells
      go_wp2_with fail
      refine (lawAwake_calls _).mono ?_
      rintro x wz ⟨rfl, hb⟩
      have L := bnext L hb rfl rfl rfl rfl
      clear hb
      go_wp2
      go_ret
      exact ⟨by first | rfl | simp, ⟨L.os, L.tape, L.output, L.size, L.block⟩⟩
    · have lj : j < n := by simpa using dj
      have ej : wrap64 (j + 1) = j + 1 := by unfold wrap64; omega
      have ep : ((2 : Int) != 2) = false := rfl
      go_wp2_with fail
      refine (on_fast2 _ _ _ _ _ _ _ _ S).mono ?_
      rintro x w2 ⟨rfl, S, C⟩
      have L := Chg.below L (Nat.le_refl _) L.size C
      rw [ej] at S
      go_wp2
      go_roundg (n - (j + 1)).toNat
      case measure => omega
      case rel => exact ⟨j + 1, by first | rfl | rw [ej], by omega, by omega, rfl, S, L⟩
set_option maxRecDepth 100000 in
set_option maxHeartbeats 6400000 in
theorem forced_2false (n p : Int) (n0 : 0 ≤ n) (n1 : n ≤ 100) (d1 : decide (n < 0) = false) (d2 : decide (n > 100) = false) (d3 : (p == 2) = false) (w : World) :
    Calls Try.prog 12 #[.int .i64 2, .int .i64 n, .int .i64 p] w fun e w' => e = .returned (.bool true) ∧ Below w.heap.size w w' := by
  have hp : p ≠ 2 := by simpa using d3
  go_enter Try.func12, Try.ntmps12
  go_wp2_with fail
  refine (new_calls _ _).mono ?_
  rintro e wa ⟨rfl, rfl⟩
  have L := (Below.refl w.heap.size w).alloc (Nat.le_refl _) (.cells #[.int .i64 5, .int .i64 0, .int .i64 0, .int .i64 0, .int .i64 0, .int .i64 0, .int .i64 0] 70)
  have S := SB.new w 70 5 0 0 0 0 0 0
  go_wp2_with fail
  refine (force_good _ _ _ _ _ _ _ _ _ _ S (by decide)).mono ?_
  rintro x wb ⟨rfl, S, C⟩
  have L := Chg.below L (Nat.le_refl _) L.size C
  go_wp2_with fail
  refine (tell_calls _ _ _ _ _ _ _ _ _ S).mono ?_
  rintro x wc ⟨rfl, hb⟩
  have L := bnext L hb rfl rfl rfl rfl
  have S := S.step hb rfl
  clear hb
  go_wp2_with fail
  go_loopg [8] n.toNat (fun k i wr => ∃ j : Int, i = .int .i64 j ∧ 0 ≤ j ∧ j ≤ n ∧ k = (n - j).toNat ∧ SB wr w.heap.size 70 5 2 0 j 0 0 0 ∧ Below w.heap.size w wr)
  case atStart => exact ⟨0, rfl, by omega, by omega, by omega, S, L⟩
  case round =>
    clear S L C
    obtain ⟨j, rfl, j0, jn, rfl, S, L⟩ := hrel
    cases dj : decide (j < n)
    · have e : j = n := by simp at dj; omega
      subst e
      have en : (j != j) = false := by simp
      go_wp2_with fail
      refine (tell_calls _ _ _ _ _ _ _ _ _ S).mono ?_
      rintro x wt ⟨rfl, hb⟩
      have L := bnext L hb rfl rfl rfl rfl
      have S := S.step hb rfl
      clear hb
      have ne := Nat.ne_of_lt S.lt
      have lt := Nat.le_of_lt S.lt
      have T := TB.new wt 5 2 0 j 0
      have L := balloc L L.size (.cells #[.int .i64 5, .int .i64 2, .int .i64 0, .int .i64 j, .int .i64 0] 44)
      have S := S.alloc (.cells #[.int .i64 5, .int .i64 2, .int .i64 0, .int .i64 j, .int .i64 0] 44)
      obtain ⟨t0, t1, t2, t3, t4, tf⟩ := T.cells
      go_wp2_with fail
      refine (on_fail _ p _ _ _ _ _ _ _ _ S (by decide) (by decide) (fun q => hp q.symm)).mono ?_
      rintro x wd ⟨rfl, ⟨k2, r2, S⟩, C⟩
      rw [w1] at S
      have L := Chg.below L (Nat.le_refl _) L.size C
      have T := T.keep ne.symm C
      obtain ⟨t0, t1, t2, t3, t4, tf⟩ := T.cells
      go_wp2_with fail
      refine (tell_calls _ _ _ _ _ _ _ _ _ S).mono ?_
      rintro x we ⟨rfl, hb⟩
      have L := bnext L hb rfl rfl rfl rfl
      have S := S.step hb rfl
      have T := T.step hb rfl
      clear hb
      obtain ⟨t0, t1, t2, t3, t4, tf⟩ := T.cells
      go_upto_region 18 with fail
      have C2 := puts_chg we wt.heap.size 5 0 1 j 1
      have S := S.keep ne C2
      have T := T.put 5 0 1 j 1
      have L := Chg.below L lt L.size C2
      unfold puts at S T L
      clear C2 t0 t1 t2 t3 t4 tf
      generalize (((((we.setCell ⟨wt.heap.size, 0, none⟩ (.int .i64 5)).setCell ⟨wt.heap.size, 1, none⟩ (.int .i64 0)).setCell ⟨wt.heap.size, 2, none⟩ (.int .i64 1)).setCell ⟨wt.heap.size, 3, none⟩ (.int .i64 j)).setCell ⟨wt.heap.size, 4, none⟩ (.int .i64 1)) = W5 at S T L ⊢
      obtain ⟨t0, t1, t2, t3, t4, tf⟩ := T.cells
      have S : SB W5.drew w.heap.size 70 5 0 1 j 1 k2 r2 := S
      go_wp2_with fail
      go_region_held3 (fun w' => w'.cell? ⟨wt.heap.size, 0, none⟩ = some (.int .i64 5) ∧ w'.cell? ⟨wt.heap.size, 1, none⟩ = some (.int .i64 0) ∧ w'.cell? ⟨wt.heap.size, 2, none⟩ = some (.int .i64 1) ∧ w'.cell? ⟨wt.heap.size, 3, none⟩ = some (.int .i64 j) ∧ w'.cell? ⟨wt.heap.size, 4, none⟩ = some (.int .i64 1)) (first | exact ⟨t0, t1, t2, t3, t4⟩ | go_keep) (first | (go_at_call 43; refine (force_bad _ _ _ _ _ _ _ _ _ _ S (by decide)).mono ?_; rintro x wg ⟨rfl, rfl⟩) | (go_at_call 32; refine (tell_calls _ _ _ _ _ _ _ _ _ S).mono ?_; rintro x wh ⟨rfl, hb⟩; have L := bnext L hb rfl rfl rfl rfl; have T := T.step hb rfl; obtain ⟨t0, t1, t2, t3, t4, tf⟩ := T.cells; clear hb) | (go_at_call 30; refine (lawAwake_calls _).mono ?_; rintro x wh ⟨rfl, hb⟩; have L := bnext L hb rfl rfl rfl rfl; have T := T.step hb rfl; obtain ⟨t0, t1, t2, t3, t4, tf⟩ := T.cells; clear hb))
      all_goals
        go_wp2
        go_ret
        exact ⟨by first | rfl | simp, ⟨L.os, L.tape, L.output, L.size, L.block⟩⟩
    · have lj : j < n := by simpa using dj
      have ej : wrap64 (j + 1) = j + 1 := by unfold wrap64; omega
      have ep : ((2 : Int) != 2) = false := rfl
      go_wp2_with fail
      refine (on_fast2 _ _ _ _ _ _ _ _ S).mono ?_
      rintro x w2 ⟨rfl, S, C⟩
      have L := Chg.below L (Nat.le_refl _) L.size C
      rw [ej] at S
      go_wp2
      go_roundg (n - (j + 1)).toNat
      case measure => omega
      case rel => exact ⟨j + 1, by first | rfl | rw [ej], by omega, by omega, rfl, S, L⟩
end Go.Proofs.Ytpoedalbgcpgjaa

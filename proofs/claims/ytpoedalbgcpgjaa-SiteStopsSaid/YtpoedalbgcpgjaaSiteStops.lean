/- Guards fail at most four times in a site that is not forced; then its form stays generic. For every input; no condition. -/
import Derived.Test.YtpoedalbgcpgjaaStops
import Derived.Deep.LoopGhost
import Derived.Deep.DeepCutAuto
import Derived.OpenShut
namespace Go.Proofs.Ytpoedalbgcpgjaa
open Go.RowKit
set_option linter.unusedVariables false
set_option linter.unusedSimpArgs false

theorem stops_long (a : Option Addr) (len cap : Nat) (d0 : decide ((len : Int) > 500) = true) (w : World) :
    Calls Try.prog 8 #[.slice a len cap] w fun e w' => e = .returned (.bool true) ∧ Below w.heap.size w w' := by
  have L := Below.refl w.heap.size w
  go_enter Try.func8, Try.ntmps8
  go_wp2
  go_ret
  exact ⟨rfl, L⟩
set_option maxHeartbeats 1600000 in
theorem stops_zero (a : Option Addr) (cap : Nat) (w : World) :
    Calls Try.prog 8 #[.slice a 0 cap] w fun e w' => e = .returned (.bool true) ∧ Below w.heap.size w w' := by
  go_enter Try.func8, Try.ntmps8
  go_wp2_with fail
  refine (new_calls _ _).mono ?_
  rintro e wa ⟨rfl, rfl⟩
  have L := (Below.refl w.heap.size w).alloc (Nat.le_refl _) (.cells #[.int .i64 0, .int .i64 0, .int .i64 0, .int .i64 0, .int .i64 0, .int .i64 0, .int .i64 0] 70)
  have S := SB.new w 70 0 0 0 0 0 0 0
  go_wp2_with fail
  go_loopg [4] 0 (fun q i wr => i = .int .i64 0 ∧ Below w.heap.size w wr)
  case atStart => exact ⟨rfl, L⟩
  case round =>
    clear S L
    obtain ⟨rfl, L⟩ := hrel
    go_wp2_with fail
    refine (lawAwake_calls _).mono ?_
    rintro x wz ⟨rfl, hb2⟩
    have L := bnext L hb2 rfl rfl rfl rfl
    clear hb2
    go_wp2
    go_ret
    exact ⟨by first | rfl | simp, ⟨L.os, L.tape, L.output, L.size, L.block⟩⟩
set_option maxRecDepth 100000 in
set_option maxHeartbeats 12800000 in
theorem stops_some (b off len cap : Nat) (zs : List Int) (hz : len ≤ zs.length) (hlen : len ≤ 500) (d0 : decide ((len : Int) > 500) = false) (w : World)
    (hb : b < w.heap.size) (hc : ∀ i : Nat, i < zs.length → w.cell? ⟨b, off + i, none⟩ = some (.int .i64 (zs.getD i 0))) :
    Calls Try.prog 8 #[.slice (some ⟨b, off, none⟩) len cap] w fun e w' => e = .returned (.bool true) ∧ Below w.heap.size w w' := by
  go_enter Try.func8, Try.ntmps8
  go_wp2_with fail
  refine (new_calls _ _).mono ?_
  rintro e wa ⟨rfl, rfl⟩
  have L := (Below.refl w.heap.size w).alloc (Nat.le_refl _) (.cells #[.int .i64 0, .int .i64 0, .int .i64 0, .int .i64 0, .int .i64 0, .int .i64 0, .int .i64 0] 70)
  have S := SB.new w 70 0 0 0 0 0 0 0
  go_wp2_with fail
  go_loopg [4] len (fun q i wr => ∃ (j : Nat) (f e h l k r : Int), i = .int .i64 j ∧ j + q = len ∧ Inv j f e h l k r ∧ SB wr w.heap.size 70 0 f e h l k r ∧ Below w.heap.size w wr)
  case atStart => exact ⟨0, 0, 0, 0, 0, 0, 0, rfl, by omega, by unfold Inv; omega, S, L⟩
  case round =>
    clear S L
    obtain ⟨j, f, e, h, l, k, r, rfl, hq, I, S, L⟩ := hrel
    by_cases lj : j < len
    rotate_left
    · have dj : decide ((j : Int) < (len : Int)) = false := decide_eq_false (by omega)
      have dj2 : decide (j < len) = false := decide_eq_false lj
      clear hq
      go_wp2_with fail
      refine (lawAwake_calls _).mono ?_
      rintro x wz ⟨rfl, hb2⟩
      have L := bnext L hb2 rfl rfl rfl rfl
      clear hb2
      go_wp2
      go_ret
      exact ⟨by first | rfl | simp, ⟨L.os, L.tape, L.output, L.size, L.block⟩⟩

    · have dj : decide ((j : Int) < (len : Int)) = true := decide_eq_true (by omega)
      have dj2 : decide (j < len) = true := decide_eq_true lj
      have cj := below_cell L (p := ⟨b, off + j, none⟩) hb (hc j (by omega))
      go_wp2_with fail
      refine (tell_calls _ _ _ _ _ _ _ _ _ S).mono ?_
      rintro x wt ⟨rfl, hb2⟩
      have L := bnext L hb2 rfl rfl rfl rfl
      have S := S.step hb2 rfl
      clear hb2
      have ne := Nat.ne_of_lt S.lt
      have lt := Nat.le_of_lt S.lt
      have T := TB.new wt 0 f e h l
      have L := balloc L L.size (.cells #[.int .i64 0, .int .i64 f, .int .i64 e, .int .i64 h, .int .i64 l] 44)
      have S := S.alloc (.cells #[.int .i64 0, .int .i64 f, .int .i64 e, .int .i64 h, .int .i64 l] 44)
      have cj := below_cell L (p := ⟨b, off + j, none⟩) hb (hc j (by omega))
      generalize zs.getD j 0 = z at cj
      have hr : 0 ≤ r ∧ r ≤ 3 := by unfold Inv at I; omega
      have hO := on_calls _ z f 0 e h l k r _ S hr
      rcases ho : onP z f e h l k r with ⟨x, f2, e2, h2, l2, k2, r2⟩
      rw [ho] at hO
      dsimp only at hO
      obtain ⟨I2, g1, g2, g3⟩ := onP_facts I (by omega) ho
      have b1 : decide (l2 > 4) = false := decide_eq_false (by unfold Inv at I2; omega)
      have b2 : decide (l2 < l) = false := decide_eq_false (by omega)
      have b3 : (wrap64 (e2 + h2) != wrap64 (wrap64 (e + h) + 1)) = false := by
        unfold Inv at I I2
        rw [w_id (show 0 ≤ e2 + h2 by omega) (by omega), w_id (show 0 ≤ e + h by omega) (by omega), w_id (show 0 ≤ e + h + 1 by omega) (by omega)]
        exact bne_eq_false_iff_eq.2 (by omega)
      have wj : wrap64 ((j : Int) + 1) = ((j + 1 : Nat) : Int) := by unfold wrap64; omega
      clear ho
      go_wp2_with fail
      refine Calls.mono hO ?_
      clear hO hr
      rintro y wd ⟨rfl, S, C⟩
      have L := Chg.below L (Nat.le_refl _) L.size C
      have T := T.keep ne.symm C
      clear C
      go_wp2_with fail
      refine (tell_calls _ _ _ _ _ _ _ _ _ S).mono ?_
      rintro x' wu ⟨rfl, hb2⟩
      have L := bnext L hb2 rfl rfl rfl rfl
      have S := S.step hb2 rfl
      have T := T.step hb2 rfl
      clear hb2
      have T2 := TB.new wu 0 f2 e2 h2 l2
      have L := balloc L L.size (.cells #[.int .i64 0, .int .i64 f2, .int .i64 e2, .int .i64 h2, .int .i64 l2] 44)
      have S := S.alloc (.cells #[.int .i64 0, .int .i64 f2, .int .i64 e2, .int .i64 h2, .int .i64 l2] 44)
      have T := T.alloc (.cells #[.int .i64 0, .int .i64 f2, .int .i64 e2, .int .i64 h2, .int .i64 l2] 44)
      obtain ⟨t0, t1, t2, t3, t4, tf⟩ := T.cells
      obtain ⟨q0, q1, q2, q3, q4, qf⟩ := T2.cells
      cases b4 : (l == 4)
      · cases b5 : (x != 0)
        · clear g1 g2 g3 I
          go_wp2
          go_roundg (len - (j + 1))
          case measure => omega
          case rel => exact ⟨j + 1, f2, e2, h2, l2, k2, r2, by first | rfl | rw [wj], by omega, by push_cast; exact I2, S, L⟩

        · have b6 : (x != f) = false := bne_eq_false_iff_eq.2 (g3 (by simpa using b5)).1
          have b7 : (f2 != f) = false := bne_eq_false_iff_eq.2 (g3 (by simpa using b5)).2
          clear g1 g2 g3 I
          go_wp2
          go_roundg (len - (j + 1))
          case measure => omega
          case rel => exact ⟨j + 1, f2, e2, h2, l2, k2, r2, by first | rfl | rw [wj], by omega, by push_cast; exact I2, S, L⟩

      · have b5 : (x != 0) = false := bne_eq_false_iff_eq.2 (g2 (by simpa using b4)).1
        have b6 : (f2 != 0) = false := bne_eq_false_iff_eq.2 (g2 (by simpa using b4)).2
        clear g1 g2 g3 I
        go_wp2
        go_roundg (len - (j + 1))
        case measure => omega
        case rel => exact ⟨j + 1, f2, e2, h2, l2, k2, r2, by first | rfl | rw [wj], by omega, by push_cast; exact I2, S, L⟩
theorem siteStops_walk (a : Option Addr) (len cap : Nat) (zs : List Int) (w : World)
    (h : (a = none ∧ len = 0 ∧ cap = 0 ∧ zs = []) ∨ ∃ x, a = some x ∧ len ≤ cap ∧ cap ≤ maxLen ∧ zs.length = cap ∧ (∀ i, i < zs.length → w.cell? (x.add i) = some (.int .i64 (zs.getD i 0))) ∧ ∀ n ∈ zs, (Lit.int .i64 n).wf = true) :
    Calls Try.prog 8 #[.slice a len cap] w fun e w' => e = .returned (.bool true) ∧ Below w.heap.size w w' := by
  by_cases c : len > 500
  · exact stops_long a len cap (decide_eq_true (by omega)) w
  rcases h with ⟨rfl, rfl, rfl, rfl⟩ | ⟨x, rfl, h1, h2, h3, h4, h5⟩
  · exact stops_zero none 0 w
  by_cases z : len = 0
  · subst z; exact stops_zero (some x) cap w
  obtain ⟨b, off, rfl, hc⟩ := ints_at h4 (by omega)
  have hb : b < w.heap.size := World.block_lt_of_cell? w _ (hc 0 (by omega))
  exact stops_some b off len cap zs (by omega) (by omega) (decide_eq_false (by omega)) w hb hc
end Go.Proofs.Ytpoedalbgcpgjaa

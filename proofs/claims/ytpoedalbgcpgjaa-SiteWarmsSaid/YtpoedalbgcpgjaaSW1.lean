/- Among pairs of one kind, one behind the other, at most three are done in the generic form. For every input; no condition. -/
import Derived.Test.YtpoedalbgcpgjaaSG
import Derived.Test.YtpoedalbgcpgjaaActs
import Derived.Deep.LoopGhost
import Derived.Deep.DeepCutAuto
namespace Go.Proofs.Ytpoedalbgcpgjaa
open Go.RowKit
set_option linter.unusedVariables false
set_option linter.unusedSimpArgs false

set_option maxRecDepth 100000 in
set_option maxHeartbeats 12800000 in
theorem warms_1 (b off len cap : Nat) (n : Int) (hlen : len ≤ 500) (d0 : decide ((len : Int) > 500) = false) (n0 : 0 ≤ n) (n1 : n ≤ 100) (dn : decide (n < 0) = false) (dm : decide (n > 100) = false) (w : World)
    (hb : b < w.heap.size) (hc : ∀ i, i < len → ∃ (q : Bool) (n : Int), w.cell? ⟨b, off + i * 2, none⟩ = some (.bool q) ∧ w.cell? ⟨b, off + i * 2 + 1, none⟩ = some (.int .i64 n)) :
    Calls Try.prog 11 #[.slice (some ⟨b, off, none⟩) len cap, .int .i64 1, .int .i64 n] w fun e w' => e = .returned (.bool true) ∧ Below w.heap.size w w' := by
  go_enter Try.func11, Try.ntmps11
  go_wp2_with fail
  refine (new_calls _ _).mono ?_
  rintro e wa ⟨rfl, rfl⟩
  have L := (Below.refl w.heap.size w).alloc (Nat.le_refl _) (.cells #[.int .i64 0, .int .i64 0, .int .i64 0, .int .i64 0, .int .i64 0, .int .i64 0, .int .i64 0] 70)
  have S := SB.new w 70 0 0 0 0 0 0 0
  go_wp2_with fail
  go_loopg [8] len (fun q i wr => ∃ (j : Nat) (f e h l k r : Int), i = .int .i64 j ∧ j + q = len ∧ Inv2 j f e h l k r ∧ SB wr w.heap.size 70 0 f e h l k r ∧ Below w.heap.size w wr)
  case atStart => exact ⟨0, 0, 0, 0, 0, 0, 0, rfl, by omega, by unfold Inv2; omega, S, L⟩
  case round =>
    clear S L
    obtain ⟨j, f, e, h, l, k, r, rfl, hq, I, S, L⟩ := hrel
    by_cases lj : j < len
    · have dj : decide ((j : Int) < (len : Int)) = true := decide_eq_true (by omega)
      have dj2 : decide (j < len) = true := decide_eq_true lj
      have wj : wrap64 ((j : Int) + 1) = ((j + 1 : Nat) : Int) := by unfold wrap64; omega
      obtain ⟨qb, v, x0, x1⟩ := hc j lj
      have c0 := below_cell L (p := ⟨b, off + j * 2, none⟩) hb x0
      have c1 := below_cell L (p := ⟨b, off + j * 2 + 1, none⟩) hb x1
      cases qb
      · go_wp2_with fail
        refine (on_any _ v j 0 f e h l k r _ S I (by omega)).mono ?_
        rintro y wv ⟨cc, f2, e2, h2, l2, k2, r2, rfl, S, C, I2⟩
        have L := Chg.below L (Nat.le_refl _) L.size C
        clear C
        go_wp2
        go_roundg (len - (j + 1))
        case measure => omega
        case rel => exact ⟨j + 1, f2, e2, h2, l2, k2, r2, by first | rfl | rw [wj], by omega, by push_cast; exact I2, S, L⟩
      · go_wp2_with fail
        refine (force_any _ v j 0 f e h l k r _ S I (by omega)).mono ?_
        rintro y wv ⟨cc, f2, e2, h2, l2, k2, r2, rfl, S, C, I2⟩
        have L := Chg.below L (Nat.le_refl _) L.size C
        clear C
        go_wp2
        go_roundg (len - (j + 1))
        case measure => omega
        case rel => exact ⟨j + 1, f2, e2, h2, l2, k2, r2, by first | rfl | rw [wj], by omega, by push_cast; exact I2, S, L⟩
    · have dj : decide ((j : Int) < (len : Int)) = false := decide_eq_false (by omega)
      have dj2 : decide (j < len) = false := decide_eq_false lj
      have hj : (j : Int) ≤ 500 := by omega
      clear hq
      go_wp2_with fail
      refine (tell_calls _ _ _ _ _ _ _ _ _ S).mono ?_
      rintro x wt ⟨rfl, hb2⟩
      have L := bnext L hb2 rfl rfl rfl rfl
      have S := S.step hb2 rfl
      clear hb2
      have ne := Nat.ne_of_lt S.lt
      have T := TB.new wt 0 f e h l
      have L := balloc L L.size (.cells #[.int .i64 0, .int .i64 f, .int .i64 e, .int .i64 h, .int .i64 l] 44)
      have S := S.alloc (.cells #[.int .i64 0, .int .i64 f, .int .i64 e, .int .i64 h, .int .i64 l] 44)
      obtain ⟨t0, t1, t2, t3, t4, tf⟩ := T.cells
      cases b1 : decide (l ≥ 4)
      · have hl : l < 4 := by simp at b1; omega
        cases b2 : (f != 0)
        · have hf : f = 0 := by simpa using b2
          subst hf
          have bd : 0 ≤ e ∧ 0 ≤ h ∧ e + h ≤ 600 ∧ 0 ≤ l ∧ l < 4 := by unfold Inv2 at I; omega
          have I0 : Inv3 1 0 e h l 0 e h l k r := by unfold Inv3; unfold Inv2 at I; omega
          clear I
          go_wp2_with fail
          go_loopg [10] n.toNat (fun q i wr => ∃ (j f2 e2 h2 l2 k2 r2 : Int), i = .int .i64 j ∧ 0 ≤ j ∧ j ≤ n ∧ q = (n - j).toNat ∧ Inv3 1 j e h l f2 e2 h2 l2 k2 r2 ∧ SB wr w.heap.size 70 0 f2 e2 h2 l2 k2 r2 ∧ TB wr wt.heap.size 0 0 e h l ∧ Below w.heap.size w wr)
          case atStart => exact ⟨0, 0, e, h, l, k, r, rfl, by omega, by omega, by omega, I0, S, T, L⟩
          case round =>
            clear S L T I0 t0 t1 t2 t3 t4 tf
            obtain ⟨j, f2, e2, h2, l2, k2, r2, rfl, j0, jn, rfl, I, S, T, L⟩ := hrel
            cases dj : decide (j < n)
            · have ej : j = n := by simp at dj; omega
              subst ej
              have b1 : (l2 != l) = false := bne_eq_false_iff_eq.2 (by unfold Inv3 at I; omega)
              have b2 : decide (wrap64 (e2 - e) > 3) = false := decide_eq_false (by
                unfold Inv3 at I
                rw [w_id (show 0 ≤ e2 - e by omega) (by omega)]; omega)
              have b3 : (wrap64 (e2 + h2) != wrap64 (wrap64 (e + h) + j)) = false := bne_eq_false_iff_eq.2 (by
                unfold Inv3 at I
                rw [w_id (show 0 ≤ e2 + h2 by omega) (by omega), w_id (show 0 ≤ e + h by omega) (by omega), w_id (show 0 ≤ e + h + j by omega) (by omega)]; omega)
              have b4 : ¬ j < 3 → (f2 == 1) = true := fun q => beq_iff_eq.2 (by unfold Inv3 at I; omega)
              clear I bd j0 jn dj
              go_wp2_with fail
              refine (tell_calls _ _ _ _ _ _ _ _ _ S).mono ?_
              rintro x wu ⟨rfl, hb2⟩
              have L := bnext L hb2 rfl rfl rfl rfl
              have S := S.step hb2 rfl
              have T := (T.step hb2 rfl).alloc (.cells #[.int .i64 0, .int .i64 f2, .int .i64 e2, .int .i64 h2, .int .i64 l2] 44)
              clear hb2
              have T2 := TB.new wu 0 f2 e2 h2 l2
              have L := balloc L L.size (.cells #[.int .i64 0, .int .i64 f2, .int .i64 e2, .int .i64 h2, .int .i64 l2] 44)
              obtain ⟨t0, t1, t2, t3, t4, tf⟩ := T.cells
              obtain ⟨q0, q1, q2, q3, q4, qf⟩ := T2.cells
              cases b5 : decide (j < 3)
              · have b6 : (f2 == 1) = true := b4 (by simpa using b5)
                clear b4
                go_wp2_with fail
                refine (lawAwake_calls _).mono ?_
                rintro x wz ⟨rfl, hb2⟩
                have L := bnext L hb2 rfl rfl rfl rfl
                clear hb2
                go_wp2
                go_ret
                exact ⟨by first | rfl | simp, ⟨L.os, L.tape, L.output, L.size, L.block⟩⟩

              · clear b4
                go_wp2_with fail
                refine (lawAwake_calls _).mono ?_
                rintro x wz ⟨rfl, hb2⟩
                have L := bnext L hb2 rfl rfl rfl rfl
                clear hb2
                go_wp2
                go_ret
                exact ⟨by first | rfl | simp, ⟨L.os, L.tape, L.output, L.size, L.block⟩⟩

            · have lj : j < n := by simpa using dj
              have ej : wrap64 (j + 1) = j + 1 := by unfold wrap64; omega
              go_wp2_with fail
              refine (on_kind _ 1 j e h l 0 f2 e2 h2 l2 k2 r2 _ S (by decide) I (by omega) (by omega)).mono ?_
              rintro y wv ⟨cc, f3, e3, h3, l3, k3, r3, rfl, S, C, I⟩
              have L := Chg.below L (Nat.le_refl _) L.size C
              have T := T.keep ne.symm C
              clear C
              go_wp2
              go_roundg (n - (j + 1)).toNat
              case measure => omega
              case rel => exact ⟨j + 1, f3, e3, h3, l3, k3, r3, by first | rfl | rw [ej], by omega, by omega, rfl, I, S, T, L⟩

        · cases b3 : (f != 1)
          · have hf : f = 1 := by simpa using b3
            subst hf
            have bd : 0 ≤ e ∧ 0 ≤ h ∧ e + h ≤ 600 ∧ 0 ≤ l ∧ l < 4 := by unfold Inv2 at I; omega
            have I0 : Inv3 1 0 e h l 1 e h l k r := by unfold Inv3; unfold Inv2 at I; omega
            clear I
            go_wp2_with fail
            go_loopg [10] n.toNat (fun q i wr => ∃ (j f2 e2 h2 l2 k2 r2 : Int), i = .int .i64 j ∧ 0 ≤ j ∧ j ≤ n ∧ q = (n - j).toNat ∧ Inv3 1 j e h l f2 e2 h2 l2 k2 r2 ∧ SB wr w.heap.size 70 0 f2 e2 h2 l2 k2 r2 ∧ TB wr wt.heap.size 0 1 e h l ∧ Below w.heap.size w wr)
            case atStart => exact ⟨0, 1, e, h, l, k, r, rfl, by omega, by omega, by omega, I0, S, T, L⟩
            case round =>
              clear S L T I0 t0 t1 t2 t3 t4 tf
              obtain ⟨j, f2, e2, h2, l2, k2, r2, rfl, j0, jn, rfl, I, S, T, L⟩ := hrel
              cases dj : decide (j < n)
              · have ej : j = n := by simp at dj; omega
                subst ej
                have b1 : (l2 != l) = false := bne_eq_false_iff_eq.2 (by unfold Inv3 at I; omega)
                have b2 : decide (wrap64 (e2 - e) > 3) = false := decide_eq_false (by
                  unfold Inv3 at I
                  rw [w_id (show 0 ≤ e2 - e by omega) (by omega)]; omega)
                have b3 : (wrap64 (e2 + h2) != wrap64 (wrap64 (e + h) + j)) = false := bne_eq_false_iff_eq.2 (by
                  unfold Inv3 at I
                  rw [w_id (show 0 ≤ e2 + h2 by omega) (by omega), w_id (show 0 ≤ e + h by omega) (by omega), w_id (show 0 ≤ e + h + j by omega) (by omega)]; omega)
                have b4 : ¬ j < 3 → (f2 == 1) = true := fun q => beq_iff_eq.2 (by unfold Inv3 at I; omega)
                clear I bd j0 jn dj
                go_wp2_with fail
                refine (tell_calls _ _ _ _ _ _ _ _ _ S).mono ?_
                rintro x wu ⟨rfl, hb2⟩
                have L := bnext L hb2 rfl rfl rfl rfl
                have S := S.step hb2 rfl
                have T := (T.step hb2 rfl).alloc (.cells #[.int .i64 0, .int .i64 f2, .int .i64 e2, .int .i64 h2, .int .i64 l2] 44)
                clear hb2
                have T2 := TB.new wu 0 f2 e2 h2 l2
                have L := balloc L L.size (.cells #[.int .i64 0, .int .i64 f2, .int .i64 e2, .int .i64 h2, .int .i64 l2] 44)
                obtain ⟨t0, t1, t2, t3, t4, tf⟩ := T.cells
                obtain ⟨q0, q1, q2, q3, q4, qf⟩ := T2.cells
                cases b5 : decide (j < 3)
                · have b6 : (f2 == 1) = true := b4 (by simpa using b5)
                  clear b4
                  go_wp2_with fail
                  refine (lawAwake_calls _).mono ?_
                  rintro x wz ⟨rfl, hb2⟩
                  have L := bnext L hb2 rfl rfl rfl rfl
                  clear hb2
                  go_wp2
                  go_ret
                  exact ⟨by first | rfl | simp, ⟨L.os, L.tape, L.output, L.size, L.block⟩⟩

                · clear b4
                  go_wp2_with fail
                  refine (lawAwake_calls _).mono ?_
                  rintro x wz ⟨rfl, hb2⟩
                  have L := bnext L hb2 rfl rfl rfl rfl
                  clear hb2
                  go_wp2
                  go_ret
                  exact ⟨by first | rfl | simp, ⟨L.os, L.tape, L.output, L.size, L.block⟩⟩

              · have lj : j < n := by simpa using dj
                have ej : wrap64 (j + 1) = j + 1 := by unfold wrap64; omega
                go_wp2_with fail
                refine (on_kind _ 1 j e h l 0 f2 e2 h2 l2 k2 r2 _ S (by decide) I (by omega) (by omega)).mono ?_
                rintro y wv ⟨cc, f3, e3, h3, l3, k3, r3, rfl, S, C, I⟩
                have L := Chg.below L (Nat.le_refl _) L.size C
                have T := T.keep ne.symm C
                clear C
                go_wp2
                go_roundg (n - (j + 1)).toNat
                case measure => omega
                case rel => exact ⟨j + 1, f3, e3, h3, l3, k3, r3, by first | rfl | rw [ej], by omega, by omega, rfl, I, S, T, L⟩

          · clear I
            go_wp2
            go_ret
            exact ⟨by first | rfl | simp, ⟨L.os, L.tape, L.output, L.size, L.block⟩⟩

      · clear I
        go_wp2
        go_ret
        exact ⟨by first | rfl | simp, ⟨L.os, L.tape, L.output, L.size, L.block⟩⟩

set_option maxRecDepth 100000 in
set_option maxHeartbeats 12800000 in
theorem warms_zero1 (a : Option Addr) (cap : Nat) (n : Int) (n0 : 0 ≤ n) (n1 : n ≤ 100) (dn : decide (n < 0) = false) (dm : decide (n > 100) = false) (w : World) :
    Calls Try.prog 11 #[.slice a 0 cap, .int .i64 1, .int .i64 n] w fun e w' => e = .returned (.bool true) ∧ Below w.heap.size w w' := by
  go_enter Try.func11, Try.ntmps11
  go_wp2_with fail
  refine (new_calls _ _).mono ?_
  rintro e wa ⟨rfl, rfl⟩
  have L := (Below.refl w.heap.size w).alloc (Nat.le_refl _) (.cells #[.int .i64 0, .int .i64 0, .int .i64 0, .int .i64 0, .int .i64 0, .int .i64 0, .int .i64 0] 70)
  have S := SB.new w 70 0 0 0 0 0 0 0
  go_wp2_with fail
  go_loopg [8] 0 (fun q i wr => ∃ (j : Nat) (f e h l k r : Int), i = .int .i64 j ∧ j = 0 ∧ Inv2 j f e h l k r ∧ SB wr w.heap.size 70 0 f e h l k r ∧ Below w.heap.size w wr)
  case atStart => exact ⟨0, 0, 0, 0, 0, 0, 0, rfl, by omega, by unfold Inv2; omega, S, L⟩
  case round =>
    clear S L
    obtain ⟨j, f, e, h, l, k, r, rfl, hq, I, S, L⟩ := hrel
    subst hq
    ·
      go_wp2_with fail
      refine (tell_calls _ _ _ _ _ _ _ _ _ S).mono ?_
      rintro x wt ⟨rfl, hb2⟩
      have L := bnext L hb2 rfl rfl rfl rfl
      have S := S.step hb2 rfl
      clear hb2
      have ne := Nat.ne_of_lt S.lt
      have T := TB.new wt 0 f e h l
      have L := balloc L L.size (.cells #[.int .i64 0, .int .i64 f, .int .i64 e, .int .i64 h, .int .i64 l] 44)
      have S := S.alloc (.cells #[.int .i64 0, .int .i64 f, .int .i64 e, .int .i64 h, .int .i64 l] 44)
      obtain ⟨t0, t1, t2, t3, t4, tf⟩ := T.cells
      cases b1 : decide (l ≥ 4)
      · have hl : l < 4 := by simp at b1; omega
        cases b2 : (f != 0)
        · have hf : f = 0 := by simpa using b2
          subst hf
          have bd : 0 ≤ e ∧ 0 ≤ h ∧ e + h ≤ 600 ∧ 0 ≤ l ∧ l < 4 := by unfold Inv2 at I; omega
          have I0 : Inv3 1 0 e h l 0 e h l k r := by unfold Inv3; unfold Inv2 at I; omega
          clear I
          go_wp2_with fail
          go_loopg [10] n.toNat (fun q i wr => ∃ (j f2 e2 h2 l2 k2 r2 : Int), i = .int .i64 j ∧ 0 ≤ j ∧ j ≤ n ∧ q = (n - j).toNat ∧ Inv3 1 j e h l f2 e2 h2 l2 k2 r2 ∧ SB wr w.heap.size 70 0 f2 e2 h2 l2 k2 r2 ∧ TB wr wt.heap.size 0 0 e h l ∧ Below w.heap.size w wr)
          case atStart => exact ⟨0, 0, e, h, l, k, r, rfl, by omega, by omega, by omega, I0, S, T, L⟩
          case round =>
            clear S L T I0 t0 t1 t2 t3 t4 tf
            obtain ⟨j, f2, e2, h2, l2, k2, r2, rfl, j0, jn, rfl, I, S, T, L⟩ := hrel
            cases dj : decide (j < n)
            · have ej : j = n := by simp at dj; omega
              subst ej
              have b1 : (l2 != l) = false := bne_eq_false_iff_eq.2 (by unfold Inv3 at I; omega)
              have b2 : decide (wrap64 (e2 - e) > 3) = false := decide_eq_false (by
                unfold Inv3 at I
                rw [w_id (show 0 ≤ e2 - e by omega) (by omega)]; omega)
              have b3 : (wrap64 (e2 + h2) != wrap64 (wrap64 (e + h) + j)) = false := bne_eq_false_iff_eq.2 (by
                unfold Inv3 at I
                rw [w_id (show 0 ≤ e2 + h2 by omega) (by omega), w_id (show 0 ≤ e + h by omega) (by omega), w_id (show 0 ≤ e + h + j by omega) (by omega)]; omega)
              have b4 : ¬ j < 3 → (f2 == 1) = true := fun q => beq_iff_eq.2 (by unfold Inv3 at I; omega)
              clear I bd j0 jn dj
              go_wp2_with fail
              refine (tell_calls _ _ _ _ _ _ _ _ _ S).mono ?_
              rintro x wu ⟨rfl, hb2⟩
              have L := bnext L hb2 rfl rfl rfl rfl
              have S := S.step hb2 rfl
              have T := (T.step hb2 rfl).alloc (.cells #[.int .i64 0, .int .i64 f2, .int .i64 e2, .int .i64 h2, .int .i64 l2] 44)
              clear hb2
              have T2 := TB.new wu 0 f2 e2 h2 l2
              have L := balloc L L.size (.cells #[.int .i64 0, .int .i64 f2, .int .i64 e2, .int .i64 h2, .int .i64 l2] 44)
              obtain ⟨t0, t1, t2, t3, t4, tf⟩ := T.cells
              obtain ⟨q0, q1, q2, q3, q4, qf⟩ := T2.cells
              cases b5 : decide (j < 3)
              · have b6 : (f2 == 1) = true := b4 (by simpa using b5)
                clear b4
                go_wp2_with fail
                refine (lawAwake_calls _).mono ?_
                rintro x wz ⟨rfl, hb2⟩
                have L := bnext L hb2 rfl rfl rfl rfl
                clear hb2
                go_wp2
                go_ret
                exact ⟨by first | rfl | simp, ⟨L.os, L.tape, L.output, L.size, L.block⟩⟩

              · clear b4
                go_wp2_with fail
                refine (lawAwake_calls _).mono ?_
                rintro x wz ⟨rfl, hb2⟩
                have L := bnext L hb2 rfl rfl rfl rfl
                clear hb2
                go_wp2
                go_ret
                exact ⟨by first | rfl | simp, ⟨L.os, L.tape, L.output, L.size, L.block⟩⟩

            · have lj : j < n := by simpa using dj
              have ej : wrap64 (j + 1) = j + 1 := by unfold wrap64; omega
              go_wp2_with fail
              refine (on_kind _ 1 j e h l 0 f2 e2 h2 l2 k2 r2 _ S (by decide) I (by omega) (by omega)).mono ?_
              rintro y wv ⟨cc, f3, e3, h3, l3, k3, r3, rfl, S, C, I⟩
              have L := Chg.below L (Nat.le_refl _) L.size C
              have T := T.keep ne.symm C
              clear C
              go_wp2
              go_roundg (n - (j + 1)).toNat
              case measure => omega
              case rel => exact ⟨j + 1, f3, e3, h3, l3, k3, r3, by first | rfl | rw [ej], by omega, by omega, rfl, I, S, T, L⟩

        · cases b3 : (f != 1)
          · have hf : f = 1 := by simpa using b3
            subst hf
            have bd : 0 ≤ e ∧ 0 ≤ h ∧ e + h ≤ 600 ∧ 0 ≤ l ∧ l < 4 := by unfold Inv2 at I; omega
            have I0 : Inv3 1 0 e h l 1 e h l k r := by unfold Inv3; unfold Inv2 at I; omega
            clear I
            go_wp2_with fail
            go_loopg [10] n.toNat (fun q i wr => ∃ (j f2 e2 h2 l2 k2 r2 : Int), i = .int .i64 j ∧ 0 ≤ j ∧ j ≤ n ∧ q = (n - j).toNat ∧ Inv3 1 j e h l f2 e2 h2 l2 k2 r2 ∧ SB wr w.heap.size 70 0 f2 e2 h2 l2 k2 r2 ∧ TB wr wt.heap.size 0 1 e h l ∧ Below w.heap.size w wr)
            case atStart => exact ⟨0, 1, e, h, l, k, r, rfl, by omega, by omega, by omega, I0, S, T, L⟩
            case round =>
              clear S L T I0 t0 t1 t2 t3 t4 tf
              obtain ⟨j, f2, e2, h2, l2, k2, r2, rfl, j0, jn, rfl, I, S, T, L⟩ := hrel
              cases dj : decide (j < n)
              · have ej : j = n := by simp at dj; omega
                subst ej
                have b1 : (l2 != l) = false := bne_eq_false_iff_eq.2 (by unfold Inv3 at I; omega)
                have b2 : decide (wrap64 (e2 - e) > 3) = false := decide_eq_false (by
                  unfold Inv3 at I
                  rw [w_id (show 0 ≤ e2 - e by omega) (by omega)]; omega)
                have b3 : (wrap64 (e2 + h2) != wrap64 (wrap64 (e + h) + j)) = false := bne_eq_false_iff_eq.2 (by
                  unfold Inv3 at I
                  rw [w_id (show 0 ≤ e2 + h2 by omega) (by omega), w_id (show 0 ≤ e + h by omega) (by omega), w_id (show 0 ≤ e + h + j by omega) (by omega)]; omega)
                have b4 : ¬ j < 3 → (f2 == 1) = true := fun q => beq_iff_eq.2 (by unfold Inv3 at I; omega)
                clear I bd j0 jn dj
                go_wp2_with fail
                refine (tell_calls _ _ _ _ _ _ _ _ _ S).mono ?_
                rintro x wu ⟨rfl, hb2⟩
                have L := bnext L hb2 rfl rfl rfl rfl
                have S := S.step hb2 rfl
                have T := (T.step hb2 rfl).alloc (.cells #[.int .i64 0, .int .i64 f2, .int .i64 e2, .int .i64 h2, .int .i64 l2] 44)
                clear hb2
                have T2 := TB.new wu 0 f2 e2 h2 l2
                have L := balloc L L.size (.cells #[.int .i64 0, .int .i64 f2, .int .i64 e2, .int .i64 h2, .int .i64 l2] 44)
                obtain ⟨t0, t1, t2, t3, t4, tf⟩ := T.cells
                obtain ⟨q0, q1, q2, q3, q4, qf⟩ := T2.cells
                cases b5 : decide (j < 3)
                · have b6 : (f2 == 1) = true := b4 (by simpa using b5)
                  clear b4
                  go_wp2_with fail
                  refine (lawAwake_calls _).mono ?_
                  rintro x wz ⟨rfl, hb2⟩
                  have L := bnext L hb2 rfl rfl rfl rfl
                  clear hb2
                  go_wp2
                  go_ret
                  exact ⟨by first | rfl | simp, ⟨L.os, L.tape, L.output, L.size, L.block⟩⟩

                · clear b4
                  go_wp2_with fail
                  refine (lawAwake_calls _).mono ?_
                  rintro x wz ⟨rfl, hb2⟩
                  have L := bnext L hb2 rfl rfl rfl rfl
                  clear hb2
                  go_wp2
                  go_ret
                  exact ⟨by first | rfl | simp, ⟨L.os, L.tape, L.output, L.size, L.block⟩⟩

              · have lj : j < n := by simpa using dj
                have ej : wrap64 (j + 1) = j + 1 := by unfold wrap64; omega
                go_wp2_with fail
                refine (on_kind _ 1 j e h l 0 f2 e2 h2 l2 k2 r2 _ S (by decide) I (by omega) (by omega)).mono ?_
                rintro y wv ⟨cc, f3, e3, h3, l3, k3, r3, rfl, S, C, I⟩
                have L := Chg.below L (Nat.le_refl _) L.size C
                have T := T.keep ne.symm C
                clear C
                go_wp2
                go_roundg (n - (j + 1)).toNat
                case measure => omega
                case rel => exact ⟨j + 1, f3, e3, h3, l3, k3, r3, by first | rfl | rw [ej], by omega, by omega, rfl, I, S, T, L⟩

          · clear I
            go_wp2
            go_ret
            exact ⟨by first | rfl | simp, ⟨L.os, L.tape, L.output, L.size, L.block⟩⟩

      · clear I
        go_wp2
        go_ret
        exact ⟨by first | rfl | simp, ⟨L.os, L.tape, L.output, L.size, L.block⟩⟩

end Go.Proofs.Ytpoedalbgcpgjaa

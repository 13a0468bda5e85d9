/- Whatever pairs come and whatever is forced: each answer of a site, and what is told behind it, is the document's. For every input; no condition. -/
import Derived.Test.YtpoedalbgcpgjaaSG
import Derived.Test.YtpoedalbgcpgjaaActs
import Derived.Deep.LoopGhost
import Derived.Deep.DeepCutAuto
import Derived.Deep.RegionHeld3
namespace Go.Proofs.Ytpoedalbgcpgjaa
open Go.RowKit
set_option linter.unusedVariables false
set_option linter.unusedSimpArgs false

theorem drewB {B : Nat} {w W : World} (L : Below B w W) : Below B w W.drew := ⟨L.os, L.tape, L.output, L.size, L.block⟩
theorem SB.drew {W : World} {g : Nat} {t : TypeId} {a f e h l k r : Int} (s : SB W g t a f e h l k r) : SB W.drew g t a f e h l k r := s
theorem plays_long (at0 : Int) (a : Option Addr) (len cap : Nat) (d0 : decide ((len : Int) > 500) = true) (w : World) :
    Calls Try.prog 10 #[.int .i64 at0, .slice a len cap] w fun e w' => e = .returned (.bool true) ∧ Below w.heap.size w w' := by
  have L := Below.refl w.heap.size w
  go_enter Try.func10, Try.ntmps10
  go_wp2
  go_ret
  exact ⟨rfl, L⟩
set_option maxRecDepth 100000 in
set_option maxHeartbeats 12800000 in
theorem plays_zero (at0 : Int) (a : Option Addr) (cap : Nat) (w : World) :
    Calls Try.prog 10 #[.int .i64 at0, .slice a 0 cap] w fun e w' => e = .returned (.bool true) ∧ Below w.heap.size w w' := by
  go_enter Try.func10, Try.ntmps10
  go_wp2_with fail
  refine (new_calls _ _).mono ?_
  rintro e wa ⟨rfl, rfl⟩
  have L := (Below.refl w.heap.size w).alloc (Nat.le_refl _) (.cells #[.int .i64 at0, .int .i64 0, .int .i64 0, .int .i64 0, .int .i64 0, .int .i64 0, .int .i64 0] 70)
  have L := balloc L L.size (.cells #[.int .i64 at0, .int .i64 0, .int .i64 0, .int .i64 0, .int .i64 0, .int .i64 0, .int .i64 0] 57)
  have S := (SB.new w 70 at0 0 0 0 0 0 0).alloc (.cells #[.int .i64 at0, .int .i64 0, .int .i64 0, .int .i64 0, .int .i64 0, .int .i64 0, .int .i64 0] 57)
  have R := SB.new (w.alloc (.cells #[.int .i64 at0, .int .i64 0, .int .i64 0, .int .i64 0, .int .i64 0, .int .i64 0, .int .i64 0] 70)) 57 at0 0 0 0 0 0 0
  rw [alloc_size] at R
  go_upto_region 5 with fail
  go_cut [27] (fun s1 wx => s1 = .bool false ∧ SB wx w.heap.size 70 at0 0 0 0 0 0 0 ∧ SB wx (w.heap.size + 1) 57 at0 0 0 0 0 0 0 ∧ Below w.heap.size w wx)
  case first =>
    have S := S.drew
    have R := R.drew
    have L := drewB L
    obtain ⟨r0, r1, r2, r3, r4, r5, r6, rf⟩ := R.cells
    go_region_held3 (fun w' => w'.cell? ⟨w.heap.size + 1, 0, none⟩ = some (.int .i64 at0) ∧ w'.cell? ⟨w.heap.size + 1, 1, none⟩ = some (.int .i64 0) ∧ w'.cell? ⟨w.heap.size + 1, 2, none⟩ = some (.int .i64 0) ∧ w'.cell? ⟨w.heap.size + 1, 3, none⟩ = some (.int .i64 0) ∧ w'.cell? ⟨w.heap.size + 1, 4, none⟩ = some (.int .i64 0)) (first | exact ⟨r0, r1, r2, r3, r4⟩ | go_keep) (first | (go_at_call 32; refine (tell_calls _ _ _ _ _ _ _ _ _ S).mono ?_; rintro y wv ⟨rfl, hb2⟩; have L := bnext L hb2 rfl rfl rfl rfl; have S := S.step hb2 rfl; have R := R.step hb2 rfl; obtain ⟨r0, r1, r2, r3, r4, r5, r6, rf⟩ := R.cells; clear hb2))
    all_goals (go_wp2_with fail; go_meet; exact ⟨by first | rfl | simp, S, R, L⟩)
  case rest =>
    obtain ⟨rfl, S, R, L⟩ := hcut
    go_wp2_with fail
    go_loopg [7] 0 (fun q i wr => i = .int .i64 0 ∧ Below w.heap.size w wr)
    case atStart => exact ⟨rfl, L⟩
    case round =>
      clear S R L
      obtain ⟨rfl, L⟩ := hrel
      go_wp2_with fail
      refine (lawAwake_calls _).mono ?_
      rintro x wz ⟨rfl, hb2⟩
      have L := bnext L hb2 rfl rfl rfl rfl
      clear hb2
      go_wp2
      go_ret
      exact ⟨by first | rfl | simp, ⟨L.os, L.tape, L.output, L.size, L.block⟩⟩
set_option maxRecDepth 100000 in
set_option maxHeartbeats 12800000 in
theorem plays_some (at0 : Int) (b off len cap : Nat) (hlen : len ≤ 500) (d0 : decide ((len : Int) > 500) = false) (w : World)
    (hb : b < w.heap.size) (hc : ∀ i, i < len → ∃ (q : Bool) (n : Int), w.cell? ⟨b, off + i * 2, none⟩ = some (.bool q) ∧ w.cell? ⟨b, off + i * 2 + 1, none⟩ = some (.int .i64 n)) :
    Calls Try.prog 10 #[.int .i64 at0, .slice (some ⟨b, off, none⟩) len cap] w fun e w' => e = .returned (.bool true) ∧ Below w.heap.size w w' := by
  go_enter Try.func10, Try.ntmps10
  go_wp2_with fail
  refine (new_calls _ _).mono ?_
  rintro e wa ⟨rfl, rfl⟩
  have L := (Below.refl w.heap.size w).alloc (Nat.le_refl _) (.cells #[.int .i64 at0, .int .i64 0, .int .i64 0, .int .i64 0, .int .i64 0, .int .i64 0, .int .i64 0] 70)
  have L := balloc L L.size (.cells #[.int .i64 at0, .int .i64 0, .int .i64 0, .int .i64 0, .int .i64 0, .int .i64 0, .int .i64 0] 57)
  have S := (SB.new w 70 at0 0 0 0 0 0 0).alloc (.cells #[.int .i64 at0, .int .i64 0, .int .i64 0, .int .i64 0, .int .i64 0, .int .i64 0, .int .i64 0] 57)
  have R := SB.new (w.alloc (.cells #[.int .i64 at0, .int .i64 0, .int .i64 0, .int .i64 0, .int .i64 0, .int .i64 0, .int .i64 0] 70)) 57 at0 0 0 0 0 0 0
  rw [alloc_size] at R
  go_upto_region 5 with fail
  go_cut [27] (fun s1 wx => s1 = .bool false ∧ SB wx w.heap.size 70 at0 0 0 0 0 0 0 ∧ SB wx (w.heap.size + 1) 57 at0 0 0 0 0 0 0 ∧ Below w.heap.size w wx)
  case first =>
    have S := S.drew
    have R := R.drew
    have L := drewB L
    obtain ⟨r0, r1, r2, r3, r4, r5, r6, rf⟩ := R.cells
    go_region_held3 (fun w' => w'.cell? ⟨w.heap.size + 1, 0, none⟩ = some (.int .i64 at0) ∧ w'.cell? ⟨w.heap.size + 1, 1, none⟩ = some (.int .i64 0) ∧ w'.cell? ⟨w.heap.size + 1, 2, none⟩ = some (.int .i64 0) ∧ w'.cell? ⟨w.heap.size + 1, 3, none⟩ = some (.int .i64 0) ∧ w'.cell? ⟨w.heap.size + 1, 4, none⟩ = some (.int .i64 0)) (first | exact ⟨r0, r1, r2, r3, r4⟩ | go_keep) (first | (go_at_call 32; refine (tell_calls _ _ _ _ _ _ _ _ _ S).mono ?_; rintro y wv ⟨rfl, hb2⟩; have L := bnext L hb2 rfl rfl rfl rfl; have S := S.step hb2 rfl; have R := R.step hb2 rfl; obtain ⟨r0, r1, r2, r3, r4, r5, r6, rf⟩ := R.cells; clear hb2))
    all_goals (go_wp2_with fail; go_meet; exact ⟨by first | rfl | simp, S, R, L⟩)
  case rest =>
    obtain ⟨rfl, S, R, L⟩ := hcut
    go_wp2_with fail
    go_loopg [7] len (fun q i wr => ∃ (j : Nat) (f e h l k k' r : Int), i = .int .i64 j ∧ j + q = len ∧ Alike r k k' ∧ SB wr w.heap.size 70 at0 f e h l k r ∧ SB wr (w.heap.size + 1) 57 at0 f e h l k' r ∧ Below w.heap.size w wr)
    case atStart => exact ⟨0, 0, 0, 0, 0, 0, 0, 0, rfl, by omega, ⟨by decide, by decide, fun _ => rfl⟩, S, R, L⟩
    case round =>
      clear S R L
      obtain ⟨j, f, e, h, l, k, k', r, rfl, hq, AL, S, R, L⟩ := hrel
      by_cases lj : j < len
      rotate_left
      · have dj : decide ((j : Int) < (len : Int)) = false := decide_eq_false (by omega)
        have dj2 : decide (j < len) = false := decide_eq_false lj
        clear hq
        go_wp2_with fail
        refine (lawAwake_calls _).mono ?_
        rintro x wz ⟨rfl, hb2⟩
        have L := bnext L hb2 rfl rfl rfl rfl
        clear hb2
        go_wp2
        go_ret
        exact ⟨by first | rfl | simp, ⟨L.os, L.tape, L.output, L.size, L.block⟩⟩

      · have dj : decide ((j : Int) < (len : Int)) = true := decide_eq_true (by omega)
        have dj2 : decide (j < len) = true := decide_eq_true lj
        have wj : wrap64 ((j : Int) + 1) = ((j + 1 : Nat) : Int) := by unfold wrap64; omega
        obtain ⟨qb, v, x0, x1⟩ := hc j lj
        have c0 := below_cell L (p := ⟨b, off + j * 2, none⟩) hb x0
        have c1 := below_cell L (p := ⟨b, off + j * 2 + 1, none⟩) hb x1
        cases qb
        · obtain ⟨x, f2, e2, h2, l2, k2, k3, r2, AL2, o1, o2⟩ := both_on v f e h l k k' r AL
          have ra : 0 ≤ r ∧ r ≤ 3 := ⟨AL.1, AL.2.1⟩
          have on1 := fun (W : World) (S : SB W w.heap.size 70 at0 f e h l k r) => on_calls _ v f at0 e h l k r W S ra
          have on2 := fun (W : World) (R : SB W (w.heap.size + 1) 57 at0 f e h l k' r) => ref_calls _ v f at0 e h l k' r W R ra
          rw [o1] at on1
          rw [o2] at on2
          dsimp only at on1 on2
          clear o1 o2 ra
          have AL := AL2
          clear AL2
          go_upto_region 13 with fail
          go_cut [68] (fun s1 wx => s1 = .bool false ∧ SB wx w.heap.size 70 at0 f2 e2 h2 l2 k2 r2 ∧ SB wx (w.heap.size + 1) 57 at0 f2 e2 h2 l2 k3 r2 ∧ Below w.heap.size w wx)
          case first =>
            have S := S.drew
            have R := R.drew
            have L := drewB L
            go_region_held3 (fun w' => w'.cell? ⟨b, off + j * 2 + 1, none⟩ = some (.int .i64 v)) (first | exact c1 | go_keep) (first | (go_at_call 33; refine (on1 _ S).mono ?_; rintro y wv ⟨rfl, S, C⟩; have L := Chg.below L (Nat.le_refl _) L.size C; have R := R.keep (by omega) C; have c1 := below_cell L (p := ⟨b, off + j * 2 + 1, none⟩) hb x1; clear C) | (go_at_call 45; refine (on2 _ R).mono ?_; rintro y wv ⟨rfl, R, C⟩; have L := Chg.below L (by omega) L.size C; have S := S.keep (by omega) C; have c1 := below_cell L (p := ⟨b, off + j * 2 + 1, none⟩) hb x1; clear C))
            all_goals (go_wp2_with fail; go_meet; exact ⟨by first | rfl | simp, S, R, L⟩)
          case rest =>
            obtain ⟨rfl, S, R, L⟩ := hcut
            go_upto_region 15 with fail
            go_cut [75] (fun s1 wx => s1 = .bool false ∧ SB wx w.heap.size 70 at0 f2 e2 h2 l2 k2 r2 ∧ SB wx (w.heap.size + 1) 57 at0 f2 e2 h2 l2 k3 r2 ∧ Below w.heap.size w wx)
            case first =>
              have S := S.drew
              have R := R.drew
              have L := drewB L
              obtain ⟨r0, r1, r2, r3, r4, r5, r6, rf⟩ := R.cells
              go_region_held3 (fun w' => w'.cell? ⟨w.heap.size + 1, 0, none⟩ = some (.int .i64 at0) ∧ w'.cell? ⟨w.heap.size + 1, 1, none⟩ = some (.int .i64 f2) ∧ w'.cell? ⟨w.heap.size + 1, 2, none⟩ = some (.int .i64 e2) ∧ w'.cell? ⟨w.heap.size + 1, 3, none⟩ = some (.int .i64 h2) ∧ w'.cell? ⟨w.heap.size + 1, 4, none⟩ = some (.int .i64 l2)) (first | exact ⟨r0, r1, r2, r3, r4⟩ | go_keep) (first | (go_at_call 32; refine (tell_calls _ _ _ _ _ _ _ _ _ S).mono ?_; rintro y wv ⟨rfl, hb2⟩; have L := bnext L hb2 rfl rfl rfl rfl; have S := S.step hb2 rfl; have R := R.step hb2 rfl; obtain ⟨r0, r1, r2, r3, r4, r5, r6, rf⟩ := R.cells; clear hb2))
              all_goals (go_wp2_with fail; go_meet; exact ⟨by first | rfl | simp, S, R, L⟩)
            case rest =>
              obtain ⟨rfl, S, R, L⟩ := hcut
              go_wp2
              go_roundg (len - (j + 1))
              case measure => omega
              case rel => exact ⟨j + 1, f2, e2, h2, l2, k2, k3, r2, by first | rfl | rw [wj], by omega, AL, S, R, L⟩

        · by_cases hv : 0 ≤ v ∧ v ≤ 2
          · have AL2 : Alike 0 0 k' := ⟨by decide, by decide, fun q => absurd rfl q⟩
            have AL := AL2
            clear AL2
            go_upto_region 11 with fail
            go_cut [53] (fun s1 wx => s1 = .bool false ∧ SB wx w.heap.size 70 at0 v e h l 0 0 ∧ SB wx (w.heap.size + 1) 57 at0 v e h l k' 0 ∧ Below w.heap.size w wx)
            case first =>
              have S := S.drew
              have R := R.drew
              have L := drewB L
              go_region_held3 (fun w' => w'.cell? ⟨b, off + j * 2 + 1, none⟩ = some (.int .i64 v)) (first | exact c1 | go_keep) (first | (go_at_call 43; refine (force_good _ v _ _ _ _ _ _ _ _ S hv).mono ?_; rintro y wv ⟨rfl, S, C⟩; have L := Chg.below L (Nat.le_refl _) L.size C; have R := R.keep (by omega) C; have c1 := below_cell L (p := ⟨b, off + j * 2 + 1, none⟩) hb x1; clear C) | (go_at_call 44; refine (refForce_good _ v _ _ _ _ _ _ _ _ R hv).mono ?_; rintro y wv ⟨rfl, R, C⟩; have L := Chg.below L (by omega) L.size C; have S := S.keep (by omega) C; have c1 := below_cell L (p := ⟨b, off + j * 2 + 1, none⟩) hb x1; clear C))
              all_goals (go_wp2_with fail; go_meet; exact ⟨by first | rfl | simp, S, R, L⟩)
            case rest =>
              obtain ⟨rfl, S, R, L⟩ := hcut
              go_upto_region 15 with fail
              go_cut [75] (fun s1 wx => s1 = .bool false ∧ SB wx w.heap.size 70 at0 v e h l 0 0 ∧ SB wx (w.heap.size + 1) 57 at0 v e h l k' 0 ∧ Below w.heap.size w wx)
              case first =>
                have S := S.drew
                have R := R.drew
                have L := drewB L
                obtain ⟨r0, r1, r2, r3, r4, r5, r6, rf⟩ := R.cells
                go_region_held3 (fun w' => w'.cell? ⟨w.heap.size + 1, 0, none⟩ = some (.int .i64 at0) ∧ w'.cell? ⟨w.heap.size + 1, 1, none⟩ = some (.int .i64 v) ∧ w'.cell? ⟨w.heap.size + 1, 2, none⟩ = some (.int .i64 e) ∧ w'.cell? ⟨w.heap.size + 1, 3, none⟩ = some (.int .i64 h) ∧ w'.cell? ⟨w.heap.size + 1, 4, none⟩ = some (.int .i64 l)) (first | exact ⟨r0, r1, r2, r3, r4⟩ | go_keep) (first | (go_at_call 32; refine (tell_calls _ _ _ _ _ _ _ _ _ S).mono ?_; rintro y wv ⟨rfl, hb2⟩; have L := bnext L hb2 rfl rfl rfl rfl; have S := S.step hb2 rfl; have R := R.step hb2 rfl; obtain ⟨r0, r1, r2, r3, r4, r5, r6, rf⟩ := R.cells; clear hb2))
                all_goals (go_wp2_with fail; go_meet; exact ⟨by first | rfl | simp, S, R, L⟩)
              case rest =>
                obtain ⟨rfl, S, R, L⟩ := hcut
                go_wp2
                go_roundg (len - (j + 1))
                case measure => omega
                case rel => exact ⟨j + 1, v, e, h, l, 0, k', 0, by first | rfl | rw [wj], by omega, AL, S, R, L⟩

          ·
            go_upto_region 11 with fail
            go_cut [53] (fun s1 wx => s1 = .bool false ∧ SB wx w.heap.size 70 at0 f e h l k r ∧ SB wx (w.heap.size + 1) 57 at0 f e h l k' r ∧ Below w.heap.size w wx)
            case first =>
              have S := S.drew
              have R := R.drew
              have L := drewB L
              go_region_held3 (fun w' => w'.cell? ⟨b, off + j * 2 + 1, none⟩ = some (.int .i64 v)) (first | exact c1 | go_keep) (first | (go_at_call 43; refine (force_bad _ _ _ _ _ _ _ _ _ _ S hv).mono ?_; rintro y wv ⟨rfl, rfl⟩) | (go_at_call 44; refine (refForce_bad _ _ _ _ _ _ _ _ _ _ R hv).mono ?_; rintro y wv ⟨rfl, rfl⟩))
              all_goals (go_wp2_with fail; go_meet; exact ⟨by first | rfl | simp, S, R, L⟩)
            case rest =>
              obtain ⟨rfl, S, R, L⟩ := hcut
              go_upto_region 15 with fail
              go_cut [75] (fun s1 wx => s1 = .bool false ∧ SB wx w.heap.size 70 at0 f e h l k r ∧ SB wx (w.heap.size + 1) 57 at0 f e h l k' r ∧ Below w.heap.size w wx)
              case first =>
                have S := S.drew
                have R := R.drew
                have L := drewB L
                obtain ⟨r0, r1, r2, r3, r4, r5, r6, rf⟩ := R.cells
                go_region_held3 (fun w' => w'.cell? ⟨w.heap.size + 1, 0, none⟩ = some (.int .i64 at0) ∧ w'.cell? ⟨w.heap.size + 1, 1, none⟩ = some (.int .i64 f) ∧ w'.cell? ⟨w.heap.size + 1, 2, none⟩ = some (.int .i64 e) ∧ w'.cell? ⟨w.heap.size + 1, 3, none⟩ = some (.int .i64 h) ∧ w'.cell? ⟨w.heap.size + 1, 4, none⟩ = some (.int .i64 l)) (first | exact ⟨r0, r1, r2, r3, r4⟩ | go_keep) (first | (go_at_call 32; refine (tell_calls _ _ _ _ _ _ _ _ _ S).mono ?_; rintro y wv ⟨rfl, hb2⟩; have L := bnext L hb2 rfl rfl rfl rfl; have S := S.step hb2 rfl; have R := R.step hb2 rfl; obtain ⟨r0, r1, r2, r3, r4, r5, r6, rf⟩ := R.cells; clear hb2))
                all_goals (go_wp2_with fail; go_meet; exact ⟨by first | rfl | simp, S, R, L⟩)
              case rest =>
                obtain ⟨rfl, S, R, L⟩ := hcut
                go_wp2
                go_roundg (len - (j + 1))
                case measure => omega
                case rel => exact ⟨j + 1, f, e, h, l, k, k', r, by first | rfl | rw [wj], by omega, AL, S, R, L⟩

theorem sitePlays_walk (at0 : Int) (a : Option Addr) (len cap : Nat) (w : World) (_ : (Lit.int .i64 at0).wf = true) (h : IsActs w a len) :
    Calls Try.prog 10 #[.int .i64 at0, .slice a len cap] w fun e w' => e = .returned (.bool true) ∧ Below w.heap.size w w' := by
  by_cases c : len > 500
  · exact plays_long at0 a len cap (decide_eq_true (by omega)) w
  by_cases z : len = 0
  · subst z; exact plays_zero at0 a cap w
  rcases h with h | ⟨x, rfl, hx⟩
  · exact absurd h z
  obtain ⟨b, off, rfl, hb, hc⟩ := acts_at hx (by omega)
  exact plays_some at0 b off len cap (by omega) (decide_eq_false (by omega)) w hb hc
end Go.Proofs.Ytpoedalbgcpgjaa

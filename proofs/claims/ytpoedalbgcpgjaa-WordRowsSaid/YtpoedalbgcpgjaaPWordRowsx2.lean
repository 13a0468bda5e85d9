-- PRINTED BY print.sh 35421559b90ae4d0a3588c463048766b98c2df88dd9212a6774a882060cdf62d: not written by this session
import Derived.Test.YtpoedalbgcpgjaaPWordRowsx0
import Derived.Test.YtpoedalbgcpgjaaPWordRowsx1
namespace Go.Proofs.Ytpoedalbgcpgjaa.PWordRows
open Go.RowKit Go.Proofs.YtpoedalbgcpgjaaW.PrintWords Go.Proofs.YtpoedalbgcpgjaaW.PrintLast Go.Proofs.YtpoedalbgcpgjaaW.PrintMore
attribute [local go_sem] max2_int min2_int max_two min_two max_three min_three max_four min_four   -- for this text's walks alone
set_option linter.unusedVariables false
set_option linter.unusedSimpArgs false

/-! ### casketlaw1_WordRows: function 4 -/
mutual
def casketlaw1_WordRows.j0 : Nat → Int → ByteArray → Int → Bool → Bool → Option (Bool)
  | 0, _, _, _, _, _ => none
  | k + 1, x0, x1, x5, x6, x36 => if x36 = true then ((word_FromInt.f (wrap64 (x0 + 1))).bind fun bt111 => (if x6 = true then (if bt111.2 = true then (if bt111.1 = (IntKind.u64.wrap (x5 + 1)) then (casketlaw1_WordRows.j1 k x0 x1 x5 x6) else (some false)) else (some false)) else (some false))) else (casketlaw1_WordRows.j1 k x0 x1 x5 x6)
def casketlaw1_WordRows.j1 : Nat → Int → ByteArray → Int → Bool → Option (Bool)
  | 0, _, _, _, _ => none
  | k + 1, x0, x1, x5, x6 => if x0 = (-1) then ((word_FromInt.f 0).bind fun bt113 => (if x6 = true then (if bt113.2 = true then (if (IntKind.u64.wrap (x5 - bt113.1)) = 281474976710655 then (casketlaw1_WordRows.j2 k x1) else (some false)) else (some false)) else (some false))) else (casketlaw1_WordRows.j2 k x1)
def casketlaw1_WordRows.j2 : Nat → ByteArray → Option (Bool)
  | 0, _ => none
  | k + 1, x1 => (word_FromText.f k x1).bind fun bt115 => (if (bt115.2 != (decide ((x1.size : Int) ≤ 5))) = true then (some false) else (if bt115.2 = true then (if (Go.bits .and .u64 (bt115.1 / 1099511627776) 255) = (IntKind.u64.wrap ((x1.size : Int))) then (casketlaw1_WordRows.l0 k x1 bt115.1 0) else (some false)) else (if bt115.1 = 0 then ((casketlaw1_awake.f k).bind fun t117 => (some t117)) else (some false))))
def casketlaw1_WordRows.l0 : Nat → ByteArray → Int → Int → Option (Bool)
  | 0, _, _, _ => none
  | k + 1, x1, x11, x13 => if x13 < 5 then (if x13 < (x1.size : Int) then (if 0 ≤ x13 then (if 0 ≤ (wrap64 (8 * x13)) then (if ((shr .u64 x11 (wrap64 (8 * x13))) % 256) = (bt x1 x13) then (casketlaw1_WordRows.l0 k x1 x11 (wrap64 (x13 + 1))) else (some false)) else (none)) else (none)) else (if 0 ≤ (wrap64 (8 * x13)) then (if ((shr .u64 x11 (wrap64 (8 * x13))) % 256) = 0 then (casketlaw1_WordRows.l0 k x1 x11 (wrap64 (x13 + 1))) else (some false)) else (none))) else ((casketlaw1_awake.f k).bind fun t118 => (some t118))
end
def casketlaw1_WordRows.f (k : Nat) (a0 : Int) (a1 : ByteArray) : Option (Bool) := if (a1.size : Int) > 100 then (some true) else ((word_FromInt.f a0).bind fun bt109 => (if a0 ≥ 0 then (if a0 < 140737488355327 then (casketlaw1_WordRows.j0 k a0 a1 bt109.1 bt109.2 true) else (if a0 < (-1) then (casketlaw1_WordRows.j0 k a0 a1 bt109.1 bt109.2 (decide (a0 ≥ (-140737488355328)))) else (casketlaw1_WordRows.j0 k a0 a1 bt109.1 bt109.2 false))) else (if a0 < (-1) then (casketlaw1_WordRows.j0 k a0 a1 bt109.1 bt109.2 (decide (a0 ≥ (-140737488355328)))) else (casketlaw1_WordRows.j0 k a0 a1 bt109.1 bt109.2 false))))
theorem casketlaw1_WordRows.mono_l : ∀ k, (∀ y0 y1 y2 y3 y4, LeO (casketlaw1_WordRows.j0 k y0 y1 y2 y3 y4) (casketlaw1_WordRows.j0 (k + 1) y0 y1 y2 y3 y4)) ∧ (∀ y0 y1 y2 y3, LeO (casketlaw1_WordRows.j1 k y0 y1 y2 y3) (casketlaw1_WordRows.j1 (k + 1) y0 y1 y2 y3)) ∧ (∀ y0, LeO (casketlaw1_WordRows.j2 k y0) (casketlaw1_WordRows.j2 (k + 1) y0)) ∧ (∀ y0 y1 y2, LeO (casketlaw1_WordRows.l0 k y0 y1 y2) (casketlaw1_WordRows.l0 (k + 1) y0 y1 y2))
  | 0 => ⟨fun _ _ _ _ _ r h => by simp [casketlaw1_WordRows.j0] at h, fun _ _ _ _ r h => by simp [casketlaw1_WordRows.j1] at h, fun _ r h => by simp [casketlaw1_WordRows.j2] at h, fun _ _ _ r h => by simp [casketlaw1_WordRows.l0] at h⟩
  | k + 1 => by
    obtain ⟨ih0, ih1, ih2, ih3⟩ := casketlaw1_WordRows.mono_l k
    refine ⟨?_, ?_, ?_, ?_⟩
    · intro y0 y1 y2 y3 y4
      unfold casketlaw1_WordRows.j0
      repeat' first
      | (with_reducible exact ih0 _ _ _ _ _)
      | (with_reducible exact ih1 _ _ _ _)
      | (with_reducible exact ih2 _)
      | (with_reducible exact ih3 _ _ _)
      | (with_reducible exact casketlaw1_awake.mono _)
      | (with_reducible exact word_FromText.mono _ _)
      | (with_reducible exact LeO.refl _)
      | (with_reducible exact LeO.none _)
      | (with_reducible refine LeO.ite ?_ ?_)
      | (with_reducible refine LeO.bind ?_ (fun _ => ?_))
      | exact ih0 _ _ _ _ _
      | exact ih1 _ _ _ _
      | exact ih2 _
      | exact ih3 _ _ _
      | exact casketlaw1_awake.mono _
      | exact word_FromText.mono _ _
      | exact LeO.none _
      | refine LeO.ite ?_ ?_
      | refine LeO.bind ?_ (fun _ => ?_)
    · intro y0 y1 y2 y3
      unfold casketlaw1_WordRows.j1
      repeat' first
      | (with_reducible exact ih0 _ _ _ _ _)
      | (with_reducible exact ih1 _ _ _ _)
      | (with_reducible exact ih2 _)
      | (with_reducible exact ih3 _ _ _)
      | (with_reducible exact casketlaw1_awake.mono _)
      | (with_reducible exact word_FromText.mono _ _)
      | (with_reducible exact LeO.refl _)
      | (with_reducible exact LeO.none _)
      | (with_reducible refine LeO.ite ?_ ?_)
      | (with_reducible refine LeO.bind ?_ (fun _ => ?_))
      | exact ih0 _ _ _ _ _
      | exact ih1 _ _ _ _
      | exact ih2 _
      | exact ih3 _ _ _
      | exact casketlaw1_awake.mono _
      | exact word_FromText.mono _ _
      | exact LeO.none _
      | refine LeO.ite ?_ ?_
      | refine LeO.bind ?_ (fun _ => ?_)
    · intro y0
      unfold casketlaw1_WordRows.j2
      repeat' first
      | (with_reducible exact ih0 _ _ _ _ _)
      | (with_reducible exact ih1 _ _ _ _)
      | (with_reducible exact ih2 _)
      | (with_reducible exact ih3 _ _ _)
      | (with_reducible exact casketlaw1_awake.mono _)
      | (with_reducible exact word_FromText.mono _ _)
      | (with_reducible exact LeO.refl _)
      | (with_reducible exact LeO.none _)
      | (with_reducible refine LeO.ite ?_ ?_)
      | (with_reducible refine LeO.bind ?_ (fun _ => ?_))
      | exact ih0 _ _ _ _ _
      | exact ih1 _ _ _ _
      | exact ih2 _
      | exact ih3 _ _ _
      | exact casketlaw1_awake.mono _
      | exact word_FromText.mono _ _
      | exact LeO.none _
      | refine LeO.ite ?_ ?_
      | refine LeO.bind ?_ (fun _ => ?_)
    · intro y0 y1 y2
      unfold casketlaw1_WordRows.l0
      repeat' first
      | (with_reducible exact ih0 _ _ _ _ _)
      | (with_reducible exact ih1 _ _ _ _)
      | (with_reducible exact ih2 _)
      | (with_reducible exact ih3 _ _ _)
      | (with_reducible exact casketlaw1_awake.mono _)
      | (with_reducible exact word_FromText.mono _ _)
      | (with_reducible exact LeO.refl _)
      | (with_reducible exact LeO.none _)
      | (with_reducible refine LeO.ite ?_ ?_)
      | (with_reducible refine LeO.bind ?_ (fun _ => ?_))
      | exact ih0 _ _ _ _ _
      | exact ih1 _ _ _ _
      | exact ih2 _
      | exact ih3 _ _ _
      | exact casketlaw1_awake.mono _
      | exact word_FromText.mono _ _
      | exact LeO.none _
      | refine LeO.ite ?_ ?_
      | refine LeO.bind ?_ (fun _ => ?_)
theorem casketlaw1_WordRows.mono : ∀ a0 a1 k, LeO (casketlaw1_WordRows.f k a0 a1) (casketlaw1_WordRows.f (k + 1) a0 a1) := by
  intro a0 a1 k
  obtain ⟨ih0, ih1, ih2, ih3⟩ := casketlaw1_WordRows.mono_l k
  unfold casketlaw1_WordRows.f
  repeat' first
      | (with_reducible exact ih0 _ _ _ _ _)
      | (with_reducible exact ih1 _ _ _ _)
      | (with_reducible exact ih2 _)
      | (with_reducible exact ih3 _ _ _)
      | (with_reducible exact casketlaw1_awake.mono _)
      | (with_reducible exact word_FromText.mono _ _)
      | (with_reducible exact LeO.refl _)
      | (with_reducible exact LeO.none _)
      | (with_reducible refine LeO.ite ?_ ?_)
      | (with_reducible refine LeO.bind ?_ (fun _ => ?_))
      | exact ih0 _ _ _ _ _
      | exact ih1 _ _ _ _
      | exact ih2 _
      | exact ih3 _ _ _
      | exact casketlaw1_awake.mono _
      | exact word_FromText.mono _ _
      | exact LeO.none _
      | refine LeO.ite ?_ ?_
      | refine LeO.bind ?_ (fun _ => ?_)
set_option maxHeartbeats 8000000 in
set_option maxRecDepth 100000 in
theorem casketlaw1_WordRows.calls (k : Nat) (a0 : Int) (a1 : ByteArray) (r : Bool) (w : World) (h : casketlaw1_WordRows.f k a0 a1 = some r) :
    Calls Try.prog 4 #[.int .i64 a0, .string a1] w fun e w' => e = .returned (.bool r) ∧ Drawn0 w w' := by
  have H : (if (a1.size : Int) > 100 then (some true) else ((word_FromInt.f a0).bind fun bt109 => (if a0 ≥ 0 then (if a0 < 140737488355327 then (casketlaw1_WordRows.j0 k a0 a1 bt109.1 bt109.2 true) else (if a0 < (-1) then (casketlaw1_WordRows.j0 k a0 a1 bt109.1 bt109.2 (decide (a0 ≥ (-140737488355328)))) else (casketlaw1_WordRows.j0 k a0 a1 bt109.1 bt109.2 false))) else (if a0 < (-1) then (casketlaw1_WordRows.j0 k a0 a1 bt109.1 bt109.2 (decide (a0 ≥ (-140737488355328)))) else (casketlaw1_WordRows.j0 k a0 a1 bt109.1 bt109.2 false))))) = some r := h
  clear h
  by_cases c3 : (a1.size : Int) > 100
  · rw [if_pos c3] at H
    have c3b0 : decide (100 < (a1.size : Int)) = true := decide_eq_true c3
    have c3b1 : decide (100 < a1.size) = true := decide_eq_true (by omega)
    clear c3
    obtain rfl := Option.some.inj H
    go_enter Try.func4, Try.ntmps4
    go_wp2
    go_ret
    exact ⟨by first | rfl | (simp; done) | (simp [*]; done), by repeat (first | exact Drawn0.refl _ | apply Drawn0.step)⟩
  · rw [if_neg c3] at H
    have c3b0 : decide (100 < (a1.size : Int)) = false := decide_eq_false c3
    have c3b1 : decide (100 < a1.size) = false := decide_eq_false (by omega)
    clear c3
    replace H := Option.bind_eq_some_iff.mp H
    obtain ⟨⟨t109, t110⟩, A40, H⟩ := H
    replace H : (if a0 ≥ 0 then (if a0 < 140737488355327 then (casketlaw1_WordRows.j0 k a0 a1 t109 t110 true) else (if a0 < (-1) then (casketlaw1_WordRows.j0 k a0 a1 t109 t110 (decide (a0 ≥ (-140737488355328)))) else (casketlaw1_WordRows.j0 k a0 a1 t109 t110 false))) else (if a0 < (-1) then (casketlaw1_WordRows.j0 k a0 a1 t109 t110 (decide (a0 ≥ (-140737488355328)))) else (casketlaw1_WordRows.j0 k a0 a1 t109 t110 false))) = some r := H
    have A4 := Aside0.mk A40
    clear A40
    have HC5 := Aside0.mk H
    clear H
    go_enter Try.func4, Try.ntmps4
    go_upto_region 4 with (first | ((with_reducible refine gate_callee (f := 16) rfl ?_); refine goesL_ (some 20) rfl rfl Try.func16 (by kernel_rfl) rfl #[.int .i64 a0] rfl (by (try simp only [List.map_toArray, List.map_cons, List.map_nil]); first | done | rfl | (simp only [List.length_drop, List.length_take]; rfl)) ?_; (with_reducible refine (word_FromInt.calls a0 t109 t110 _ A4.out).mono ?_); rintro e w' ⟨rfl, ⟨nd, rfl⟩⟩; refine ⟨_, rfl, ?_⟩))
    (try simp only [Act.put, List.setIfInBounds_toArray, List.set_cons_zero, List.set_cons_succ])
    go_cut [36] (fun v36 wc => ∃ (kq : Nat) (x36_4 : Bool), v36 = .bool x36_4 ∧ Aside0 (casketlaw1_WordRows.j0 kq a0 a1 t109 t110 x36_4 = some r) ∧ Aside0 (kq ≤ k) ∧ Drawn0 w wc)
    case first =>
      have H := HC5.out
      clear HC5
      by_cases c6 : a0 ≥ 0
      · rw [if_pos c6] at H
        have c6b0 : decide (0 ≤ a0) = true := decide_eq_true c6
        clear c6
        (first | rw [c6b0] | (simp only [i64_w, i32_w]; rw [c6b0]) | skip)
        by_cases c7 : a0 < 140737488355327
        · rw [if_pos c7] at H
          have c7b0 : decide (a0 < 140737488355327) = true := decide_eq_true c7
          clear c7
          have H' := Aside0.mk H
          clear H
          go_wp2
          go_meet
          case rel => exact ⟨_, (true), (by first | rfl | (simp; done) | (simp [*]; done)), H', ⟨by first | omega | exact Nat.le_refl _⟩, by repeat (first | exact Drawn0.refl _ | apply Drawn0.step)⟩
        · rw [if_neg c7] at H
          have c7b0 : decide (a0 < 140737488355327) = false := decide_eq_false c7
          clear c7
          by_cases c8 : a0 < (-1)
          · rw [if_pos c8] at H
            have c8b0 : decide (a0 < (-1)) = true := decide_eq_true c8
            clear c8
            have H' := Aside0.mk H
            clear H
            go_wp2
            go_meet
            case rel => exact ⟨_, (decide (a0 ≥ (-140737488355328))), (by first | rfl | (simp; done) | (simp [*]; done)), H', ⟨by first | omega | exact Nat.le_refl _⟩, by repeat (first | exact Drawn0.refl _ | apply Drawn0.step)⟩
          · rw [if_neg c8] at H
            have c8b0 : decide (a0 < (-1)) = false := decide_eq_false c8
            clear c8
            have H' := Aside0.mk H
            clear H
            go_wp2
            go_meet
            case rel => exact ⟨_, (false), (by first | rfl | (simp; done) | (simp [*]; done)), H', ⟨by first | omega | exact Nat.le_refl _⟩, by repeat (first | exact Drawn0.refl _ | apply Drawn0.step)⟩
      · rw [if_neg c6] at H
        have c6b0 : decide (0 ≤ a0) = false := decide_eq_false c6
        clear c6
        (first | rw [c6b0] | (simp only [i64_w, i32_w]; rw [c6b0]) | skip)
        by_cases c9 : a0 < (-1)
        · rw [if_pos c9] at H
          have c9b0 : decide (a0 < (-1)) = true := decide_eq_true c9
          clear c9
          have H' := Aside0.mk H
          clear H
          go_wp2
          go_meet
          case rel => exact ⟨_, (decide (a0 ≥ (-140737488355328))), (by first | rfl | (simp; done) | (simp [*]; done)), H', ⟨by first | omega | exact Nat.le_refl _⟩, by repeat (first | exact Drawn0.refl _ | apply Drawn0.step)⟩
        · rw [if_neg c9] at H
          have c9b0 : decide (a0 < (-1)) = false := decide_eq_false c9
          clear c9
          have H' := Aside0.mk H
          clear H
          go_wp2
          go_meet
          case rel => exact ⟨_, (false), (by first | rfl | (simp; done) | (simp [*]; done)), H', ⟨by first | omega | exact Nat.le_refl _⟩, by repeat (first | exact Drawn0.refl _ | apply Drawn0.step)⟩
    case rest =>
      clear HC5
      try clear c1
      try clear p2
      try clear c3
      try clear c3b0
      try clear c3b1
      try clear c4
      try clear c6
      try clear c6b0
      try clear c7
      try clear c7b0
      try clear c8
      try clear c8b0
      try clear c9
      try clear c9b0
      obtain ⟨kq, x36_4, rfl, HA, HJ4, ⟨mc4, rfl⟩⟩ := hcut
      cases kq with
      | zero => exact absurd HA.out (by simp [casketlaw1_WordRows.j0])
      | succ kj4 =>
        have H := HA.out
        clear HA
        simp only [casketlaw1_WordRows.j0] at H
        have HC10 := Aside0.mk H
        clear H
        go_upto_if 36 with (fail)
        go_cut [] (fun wc => ∃ (kq : Nat), Aside0 (casketlaw1_WordRows.j1 kq a0 a1 t109 t110 = some r) ∧ Aside0 (kq ≤ kj4) ∧ Drawn0 w wc)
        case first =>
          have H := HC10.out
          clear HC10
          by_cases c11 : x36_4 = true
          · subst c11
            have H1 : ((word_FromInt.f (wrap64 (a0 + 1))).bind fun bt111 => (if t110 = true then (if bt111.2 = true then (if bt111.1 = (IntKind.u64.wrap (t109 + 1)) then (casketlaw1_WordRows.j1 kj4 a0 a1 t109 t110) else (some false)) else (some false)) else (some false))) = some r := by rw [if_pos rfl] at H; exact H
            clear H
            have H := H1
            clear H1
            replace H := Option.bind_eq_some_iff.mp H
            obtain ⟨⟨t111, t112⟩, A120, H⟩ := H
            replace H : (if t110 = true then (if t112 = true then (if t111 = (IntKind.u64.wrap (t109 + 1)) then (casketlaw1_WordRows.j1 kj4 a0 a1 t109 t110) else (some false)) else (some false)) else (some false)) = some r := H
            have A12 := Aside0.mk A120
            clear A120
            by_cases c13 : t110 = true
            · subst c13
              have H1 : (if t112 = true then (if t111 = (IntKind.u64.wrap (t109 + 1)) then (casketlaw1_WordRows.j1 kj4 a0 a1 t109 true) else (some false)) else (some false)) = some r := by rw [if_pos rfl] at H; exact H
              clear H
              have H := H1
              clear H1
              by_cases c14 : t112 = true
              · subst c14
                have H1 : (if t111 = (IntKind.u64.wrap (t109 + 1)) then (casketlaw1_WordRows.j1 kj4 a0 a1 t109 true) else (some false)) = some r := by rw [if_pos rfl] at H; exact H
                clear H
                have H := H1
                clear H1
                by_cases c15 : t111 = (IntKind.u64.wrap (t109 + 1))
                · rw [if_pos c15] at H
                  have c15b0 : (t111 == (IntKind.u64.wrap (t109 + 1))) = true := beq_iff_eq.mpr c15
                  have c15b1 : (t111 != (IntKind.u64.wrap (t109 + 1))) = false := bne_eq_false_iff_eq.mpr c15
                  clear c15
                  (first | rw [c15b0] | (simp only [i64_w, i32_w]; rw [c15b0]) | skip)
                  have H' := Aside0.mk H
                  clear H
                  go_wp2_with (first | ((with_reducible refine gate_callee (f := 16) rfl ?_); refine goesL_ (some 40) rfl rfl Try.func16 (by kernel_rfl) rfl #[.int .i64 (wrap64 (a0 + 1))] rfl (by (try simp only [List.map_toArray, List.map_cons, List.map_nil]); first | done | rfl | (simp only [List.length_drop, List.length_take]; rfl)) ?_; (with_reducible refine (word_FromInt.calls (wrap64 (a0 + 1)) t111 true _ A12.out).mono ?_); rintro e w' ⟨rfl, ⟨nd, rfl⟩⟩; refine ⟨_, rfl, ?_⟩))
                  go_meet
                  case rel => exact ⟨_, H', ⟨by have := HJ4.out; first | omega | exact Nat.le_refl _⟩, by repeat (first | exact Drawn0.refl _ | apply Drawn0.step)⟩
                · rw [if_neg c15] at H
                  have c15b0 : (t111 == (IntKind.u64.wrap (t109 + 1))) = false := beq_eq_false_iff_ne.mpr c15
                  have c15b1 : (t111 != (IntKind.u64.wrap (t109 + 1))) = true := bne_iff_ne.mpr c15
                  (first | rw [c15b0] | (simp only [i64_w, i32_w]; rw [c15b0]) | skip)
                  obtain rfl := Option.some.inj H
                  go_wp2_with (first | ((with_reducible refine gate_callee (f := 16) rfl ?_); refine goesL_ (some 40) rfl rfl Try.func16 (by kernel_rfl) rfl #[.int .i64 (wrap64 (a0 + 1))] rfl (by (try simp only [List.map_toArray, List.map_cons, List.map_nil]); first | done | rfl | (simp only [List.length_drop, List.length_take]; rfl)) ?_; (with_reducible refine (word_FromInt.calls (wrap64 (a0 + 1)) t111 true _ A12.out).mono ?_); rintro e w' ⟨rfl, ⟨nd, rfl⟩⟩; refine ⟨_, rfl, ?_⟩))
                  go_ret
                  exact ⟨by first | rfl | (simp; done) | (simp [*]; done), by repeat (first | exact Drawn0.refl _ | apply Drawn0.step)⟩
              · replace c14 := Bool.eq_false_iff.mpr c14
                subst c14
                have H1 : (some false) = some r := by rw [if_neg (show ¬ (false = true) by decide)] at H; exact H
                clear H
                have H := H1
                clear H1
                obtain rfl := Option.some.inj H
                go_wp2_with (first | ((with_reducible refine gate_callee (f := 16) rfl ?_); refine goesL_ (some 40) rfl rfl Try.func16 (by kernel_rfl) rfl #[.int .i64 (wrap64 (a0 + 1))] rfl (by (try simp only [List.map_toArray, List.map_cons, List.map_nil]); first | done | rfl | (simp only [List.length_drop, List.length_take]; rfl)) ?_; (with_reducible refine (word_FromInt.calls (wrap64 (a0 + 1)) t111 false _ A12.out).mono ?_); rintro e w' ⟨rfl, ⟨nd, rfl⟩⟩; refine ⟨_, rfl, ?_⟩))
                go_ret
                exact ⟨by first | rfl | (simp; done) | (simp [*]; done), by repeat (first | exact Drawn0.refl _ | apply Drawn0.step)⟩
            · replace c13 := Bool.eq_false_iff.mpr c13
              subst c13
              have H1 : (some false) = some r := by rw [if_neg (show ¬ (false = true) by decide)] at H; exact H
              clear H
              have H := H1
              clear H1
              obtain rfl := Option.some.inj H
              go_wp2_with (first | ((with_reducible refine gate_callee (f := 16) rfl ?_); refine goesL_ (some 40) rfl rfl Try.func16 (by kernel_rfl) rfl #[.int .i64 (wrap64 (a0 + 1))] rfl (by (try simp only [List.map_toArray, List.map_cons, List.map_nil]); first | done | rfl | (simp only [List.length_drop, List.length_take]; rfl)) ?_; (with_reducible refine (word_FromInt.calls (wrap64 (a0 + 1)) t111 t112 _ A12.out).mono ?_); rintro e w' ⟨rfl, ⟨nd, rfl⟩⟩; refine ⟨_, rfl, ?_⟩))
              go_ret
              exact ⟨by first | rfl | (simp; done) | (simp [*]; done), by repeat (first | exact Drawn0.refl _ | apply Drawn0.step)⟩
          · replace c11 := Bool.eq_false_iff.mpr c11
            subst c11
            have H1 : (casketlaw1_WordRows.j1 kj4 a0 a1 t109 t110) = some r := by rw [if_neg (show ¬ (false = true) by decide)] at H; exact H
            clear H
            have H := H1
            clear H1
            have H' := Aside0.mk H
            clear H
            go_wp2
            go_meet
            case rel => exact ⟨_, H', ⟨by have := HJ4.out; first | omega | exact Nat.le_refl _⟩, by repeat (first | exact Drawn0.refl _ | apply Drawn0.step)⟩
        case rest =>
          clear HC10
          try clear c1
          try clear p2
          try clear c3
          try clear c3b0
          try clear c3b1
          try clear c4
          try clear c6
          try clear c6b0
          try clear p6
          try clear c7
          try clear c7b0
          try clear c8
          try clear c8b0
          try clear c9
          try clear c9b0
          try clear c11
          try clear c13
          try clear c14
          try clear c15
          try clear c15b0
          try clear c15b1
          try clear p2
          obtain ⟨kq, HA, HJ9, ⟨mc9, rfl⟩⟩ := hcut
          cases kq with
          | zero => exact absurd HA.out (by simp [casketlaw1_WordRows.j1])
          | succ kj9 =>
            have H := HA.out
            clear HA
            simp only [casketlaw1_WordRows.j1] at H
            have HC16 := Aside0.mk H
            clear H
            go_upto_if 56 with (fail)
            go_cut [] (fun wc => ∃ (kq : Nat), Aside0 (casketlaw1_WordRows.j2 kq a1 = some r) ∧ Aside0 (kq ≤ kj9) ∧ Drawn0 w wc)
            case first =>
              have H := HC16.out
              clear HC16
              by_cases c17 : a0 = (-1)
              · rw [if_pos c17] at H
                have c17b0 : (a0 == (-1)) = true := beq_iff_eq.mpr c17
                have c17b1 : (a0 != (-1)) = false := bne_eq_false_iff_eq.mpr c17
                clear c17
                (first | rw [c17b0] | (simp only [i64_w, i32_w]; rw [c17b0]) | skip)
                replace H := Option.bind_eq_some_iff.mp H
                obtain ⟨⟨t113, t114⟩, A180, H⟩ := H
                replace H : (if t110 = true then (if t114 = true then (if (IntKind.u64.wrap (t109 - t113)) = 281474976710655 then (casketlaw1_WordRows.j2 kj9 a1) else (some false)) else (some false)) else (some false)) = some r := H
                have A18 := Aside0.mk A180
                clear A180
                by_cases c19 : t110 = true
                · subst c19
                  have H1 : (if t114 = true then (if (IntKind.u64.wrap (t109 - t113)) = 281474976710655 then (casketlaw1_WordRows.j2 kj9 a1) else (some false)) else (some false)) = some r := by rw [if_pos rfl] at H; exact H
                  clear H
                  have H := H1
                  clear H1
                  by_cases c20 : t114 = true
                  · subst c20
                    have H1 : (if (IntKind.u64.wrap (t109 - t113)) = 281474976710655 then (casketlaw1_WordRows.j2 kj9 a1) else (some false)) = some r := by rw [if_pos rfl] at H; exact H
                    clear H
                    have H := H1
                    clear H1
                    by_cases c21 : (IntKind.u64.wrap (t109 - t113)) = 281474976710655
                    · rw [if_pos c21] at H
                      have c21b0 : ((IntKind.u64.wrap (t109 - t113)) == 281474976710655) = true := beq_iff_eq.mpr c21
                      have c21b1 : ((IntKind.u64.wrap (t109 - t113)) != 281474976710655) = false := bne_eq_false_iff_eq.mpr c21
                      clear c21
                      have H' := Aside0.mk H
                      clear H
                      go_wp2_with (first | ((with_reducible refine gate_callee (f := 16) rfl ?_); refine goesL_ (some 58) rfl rfl Try.func16 (by kernel_rfl) rfl #[.int .i64 0] rfl (by (try simp only [List.map_toArray, List.map_cons, List.map_nil]); first | done | rfl | (simp only [List.length_drop, List.length_take]; rfl)) ?_; (with_reducible refine (word_FromInt.calls 0 t113 true _ A18.out).mono ?_); rintro e w' ⟨rfl, ⟨nd, rfl⟩⟩; refine ⟨_, rfl, ?_⟩))
                      go_meet
                      case rel => exact ⟨_, H', ⟨by have := HJ4.out; have := HJ9.out; first | omega | exact Nat.le_refl _⟩, by repeat (first | exact Drawn0.refl _ | apply Drawn0.step)⟩
                    · rw [if_neg c21] at H
                      have c21b0 : ((IntKind.u64.wrap (t109 - t113)) == 281474976710655) = false := beq_eq_false_iff_ne.mpr c21
                      have c21b1 : ((IntKind.u64.wrap (t109 - t113)) != 281474976710655) = true := bne_iff_ne.mpr c21
                      obtain rfl := Option.some.inj H
                      go_wp2_with (first | ((with_reducible refine gate_callee (f := 16) rfl ?_); refine goesL_ (some 58) rfl rfl Try.func16 (by kernel_rfl) rfl #[.int .i64 0] rfl (by (try simp only [List.map_toArray, List.map_cons, List.map_nil]); first | done | rfl | (simp only [List.length_drop, List.length_take]; rfl)) ?_; (with_reducible refine (word_FromInt.calls 0 t113 true _ A18.out).mono ?_); rintro e w' ⟨rfl, ⟨nd, rfl⟩⟩; refine ⟨_, rfl, ?_⟩))
                      go_ret
                      exact ⟨by first | rfl | (simp; done) | (simp [*]; done), by repeat (first | exact Drawn0.refl _ | apply Drawn0.step)⟩
                  · replace c20 := Bool.eq_false_iff.mpr c20
                    subst c20
                    have H1 : (some false) = some r := by rw [if_neg (show ¬ (false = true) by decide)] at H; exact H
                    clear H
                    have H := H1
                    clear H1
                    obtain rfl := Option.some.inj H
                    go_wp2_with (first | ((with_reducible refine gate_callee (f := 16) rfl ?_); refine goesL_ (some 58) rfl rfl Try.func16 (by kernel_rfl) rfl #[.int .i64 0] rfl (by (try simp only [List.map_toArray, List.map_cons, List.map_nil]); first | done | rfl | (simp only [List.length_drop, List.length_take]; rfl)) ?_; (with_reducible refine (word_FromInt.calls 0 t113 false _ A18.out).mono ?_); rintro e w' ⟨rfl, ⟨nd, rfl⟩⟩; refine ⟨_, rfl, ?_⟩))
                    go_ret
                    exact ⟨by first | rfl | (simp; done) | (simp [*]; done), by repeat (first | exact Drawn0.refl _ | apply Drawn0.step)⟩
                · replace c19 := Bool.eq_false_iff.mpr c19
                  subst c19
                  have H1 : (some false) = some r := by rw [if_neg (show ¬ (false = true) by decide)] at H; exact H
                  clear H
                  have H := H1
                  clear H1
                  obtain rfl := Option.some.inj H
                  go_wp2_with (first | ((with_reducible refine gate_callee (f := 16) rfl ?_); refine goesL_ (some 58) rfl rfl Try.func16 (by kernel_rfl) rfl #[.int .i64 0] rfl (by (try simp only [List.map_toArray, List.map_cons, List.map_nil]); first | done | rfl | (simp only [List.length_drop, List.length_take]; rfl)) ?_; (with_reducible refine (word_FromInt.calls 0 t113 t114 _ A18.out).mono ?_); rintro e w' ⟨rfl, ⟨nd, rfl⟩⟩; refine ⟨_, rfl, ?_⟩))
                  go_ret
                  exact ⟨by first | rfl | (simp; done) | (simp [*]; done), by repeat (first | exact Drawn0.refl _ | apply Drawn0.step)⟩
              · rw [if_neg c17] at H
                have c17b0 : (a0 == (-1)) = false := beq_eq_false_iff_ne.mpr c17
                have c17b1 : (a0 != (-1)) = true := bne_iff_ne.mpr c17
                (first | rw [c17b0] | (simp only [i64_w, i32_w]; rw [c17b0]) | skip)
                have H' := Aside0.mk H
                clear H
                go_wp2
                go_meet
                case rel => exact ⟨_, H', ⟨by have := HJ4.out; have := HJ9.out; first | omega | exact Nat.le_refl _⟩, by repeat (first | exact Drawn0.refl _ | apply Drawn0.step)⟩
            case rest =>
              clear HC16
              try clear c1
              try clear c2
              try clear p2
              try clear c3
              try clear c3b0
              try clear c3b1
              try clear c4
              try clear c6
              try clear c6b0
              try clear p6
              try clear c7
              try clear c7b0
              try clear c8
              try clear c8b0
              try clear c9
              try clear c9b0
              try clear c11
              try clear c13
              try clear c14
              try clear c15
              try clear c15b0
              try clear c15b1
              try clear c16
              try clear c17
              try clear c17b0
              try clear c17b1
              try clear c19
              try clear c20
              try clear c21
              try clear c21b0
              try clear c21b1
              try clear p2
              try clear p6
              obtain ⟨kq, HA, HJ15, ⟨mc15, rfl⟩⟩ := hcut
              cases kq with
              | zero => exact absurd HA.out (by simp [casketlaw1_WordRows.j2])
              | succ kj15 =>
                have H := HA.out
                clear HA
                simp only [casketlaw1_WordRows.j2] at H
                replace H := Option.bind_eq_some_iff.mp H
                obtain ⟨⟨t115, t116⟩, A220, H⟩ := H
                replace H : (if (t116 != (decide ((a1.size : Int) ≤ 5))) = true then (some false) else (if t116 = true then (if (Go.bits .and .u64 (t115 / 1099511627776) 255) = (IntKind.u64.wrap ((a1.size : Int))) then (casketlaw1_WordRows.l0 kj15 a1 t115 0) else (some false)) else (if t115 = 0 then ((casketlaw1_awake.f kj15).bind fun t117 => (some t117)) else (some false)))) = some r := H
                have A22 := Aside0.mk A220
                clear A220
                by_cases c23 : (t116 != (decide ((a1.size : Int) ≤ 5))) = true
                · rw [if_pos c23] at H
                  have c23b0 : (t116 != (decide ((a1.size : Int) ≤ 5))) = true := c23
                  (try (have c23b1 : decide (t116 = (decide ((a1.size : Int) ≤ 5))) = false := by simpa using c23))
                  (try (have c23b2 : (t116 == (decide ((a1.size : Int) ≤ 5))) = false := by simpa using c23))
                  (try (have c23b3 : ¬ (t116 = (decide ((a1.size : Int) ≤ 5))) := by simpa using c23))
                  clear c23
                  obtain rfl := Option.some.inj H
                  go_wp2_with (first | ((with_reducible refine gate_callee (f := 17) rfl ?_); refine goesL_ (some 75) rfl rfl Try.func17 (by kernel_rfl) rfl #[.string a1] rfl (by (try simp only [List.map_toArray, List.map_cons, List.map_nil]); first | done | rfl | (simp only [List.length_drop, List.length_take]; rfl)) ?_; (with_reducible refine (word_FromText.calls kj15 a1 t115 t116 _ A22.out).mono ?_); rintro e w' ⟨rfl, ⟨nd, rfl⟩⟩; refine ⟨_, rfl, ?_⟩))
                  go_ret
                  exact ⟨by first | rfl | (simp; done) | (simp [*]; done), by repeat (first | exact Drawn0.refl _ | apply Drawn0.step)⟩
                · rw [if_neg c23] at H
                  have c23b0 : (t116 != (decide ((a1.size : Int) ≤ 5))) = false := by simpa using c23
                  (try (have c23b1 : decide (t116 = (decide ((a1.size : Int) ≤ 5))) = true := by simpa using c23))
                  (try (have c23b2 : (t116 == (decide ((a1.size : Int) ≤ 5))) = true := by simpa using c23))
                  clear c23
                  by_cases c24 : t116 = true
                  · subst c24
                    have H1 : (if (Go.bits .and .u64 (t115 / 1099511627776) 255) = (IntKind.u64.wrap ((a1.size : Int))) then (casketlaw1_WordRows.l0 kj15 a1 t115 0) else (some false)) = some r := by rw [if_pos rfl] at H; exact H
                    clear H
                    have H := H1
                    clear H1
                    by_cases c25 : (Go.bits .and .u64 (t115 / 1099511627776) 255) = (IntKind.u64.wrap ((a1.size : Int)))
                    · rw [if_pos c25] at H
                      have c25b0 : ((Go.bits .and .u64 (t115 / 1099511627776) 255) == (IntKind.u64.wrap ((a1.size : Int)))) = true := beq_iff_eq.mpr c25
                      have c25b1 : ((Go.bits .and .u64 (t115 / 1099511627776) 255) != (IntKind.u64.wrap ((a1.size : Int)))) = false := bne_eq_false_iff_eq.mpr c25
                      clear c25
                      have H' := Aside0.mk H
                      clear H
                      go_wp2_with (first | ((with_reducible refine gate_callee (f := 17) rfl ?_); refine goesL_ (some 75) rfl rfl Try.func17 (by kernel_rfl) rfl #[.string a1] rfl (by (try simp only [List.map_toArray, List.map_cons, List.map_nil]); first | done | rfl | (simp only [List.length_drop, List.length_take]; rfl)) ?_; (with_reducible refine (word_FromText.calls kj15 a1 t115 true _ A22.out).mono ?_); rintro e w' ⟨rfl, ⟨nd, rfl⟩⟩; refine ⟨_, rfl, ?_⟩))
                      go_loopg [13] kj15 (fun kq v13 w' => ∃ (x13_4 : Int), v13 = .int .i64 x13_4 ∧ Aside0 (casketlaw1_WordRows.l0 kq a1 t115 x13_4 = some r) ∧ Aside0 (kq ≤ kj15) ∧ Drawn0 w w')
                      case atStart => exact ⟨(0), (by first | rfl | (simp; done) | (simp [*]; done)), H', ⟨Nat.le_refl _⟩, by repeat (first | exact Drawn0.refl _ | apply Drawn0.step)⟩
                      case round =>
                        clear H'
                        try clear c1
                        try clear c2
                        try clear p2
                        try clear c3
                        try clear c3b0
                        try clear c3b1
                        try clear c4
                        try clear c6
                        try clear c6b0
                        try clear p6
                        try clear c7
                        try clear c7b0
                        try clear c8
                        try clear c8b0
                        try clear c9
                        try clear c9b0
                        try clear c11
                        try clear c13
                        try clear c14
                        try clear c15
                        try clear c15b0
                        try clear c15b1
                        try clear c16
                        try clear c17
                        try clear c17b0
                        try clear c17b1
                        try clear c19
                        try clear c20
                        try clear c21
                        try clear c21b0
                        try clear c21b1
                        try clear c23
                        try clear c23b0
                        try clear c23b1
                        try clear c23b2
                        try clear c24
                        try clear c25
                        try clear c25b0
                        try clear c25b1
                        try clear p2
                        try clear p6
                        obtain ⟨x13_4, rfl, HA, HK4, ⟨m4, rfl⟩⟩ := hrel
                        cases gk with
                        | zero => exact absurd HA.out (by simp [casketlaw1_WordRows.l0])
                        | succ k4 =>
                          have H := HA.out
                          clear HA
                          simp only [casketlaw1_WordRows.l0] at H
                          by_cases c26 : x13_4 < 5
                          · rw [if_pos c26] at H
                            have c26b0 : decide (x13_4 < 5) = true := decide_eq_true c26
                            clear c26
                            by_cases c27 : x13_4 < (a1.size : Int)
                            · rw [if_pos c27] at H
                              have c27b0 : decide (x13_4 < (a1.size : Int)) = true := decide_eq_true c27
                              clear c27
                              by_cases c28 : 0 ≤ x13_4
                              · rw [if_pos c28] at H
                                have c28b0 : decide (0 ≤ x13_4) = true := decide_eq_true c28
                                clear c28
                                obtain ⟨ji30, hji30⟩ : ∃ j_ : Int, (wrap64 (8 * x13_4)) = j_ := ⟨_, rfl⟩
                                replace H : (if 0 ≤ (ji30) then (if ((shr .u64 t115 (ji30)) % 256) = (bt a1 x13_4) then (casketlaw1_WordRows.l0 k4 a1 t115 (wrap64 (x13_4 + 1))) else (some false)) else (none)) = some r := by first | (rw [hji30] at H; exact H) | (simp only [hji30] at H ⊢; exact H)
                                have hji30w : (IntKind.i64.wrap (8 * x13_4)) = ji30 := (i64_w _).trans hji30
                                by_cases c31 : 0 ≤ (ji30)
                                · rw [if_pos c31] at H
                                  have c31b0 := eq_true c31
                                  have c31b1 : decide (0 ≤ (ji30)) = true := decide_eq_true c31
                                  clear c31
                                  obtain ⟨ji32, hji32⟩ : ∃ j_ : Int, (shr .u64 t115 (ji30)) = j_ := ⟨_, rfl⟩
                                  replace H : (if ((ji32) % 256) = (bt a1 x13_4) then (casketlaw1_WordRows.l0 k4 a1 t115 (wrap64 (x13_4 + 1))) else (some false)) = some r := by first | (rw [hji32] at H; exact H) | (simp only [hji32] at H ⊢; exact H)
                                  have hji32_ : (t115 / 2 ^ min (ji30).toNat 64) = ji32 := hji32
                                  have hji32z : (ji30) ≤ 64 → (t115 / 2 ^ (ji30).toNat) = ji32 := shr_small hji32
                                  by_cases c33 : ((ji32) % 256) = (bt a1 x13_4)
                                  · rw [if_pos c33] at H
                                    have c33b0 : (((ji32) % 256) == (bt a1 x13_4)) = true := beq_iff_eq.mpr c33
                                    have c33b1 : (((ji32) % 256) != (bt a1 x13_4)) = false := bne_eq_false_iff_eq.mpr c33
                                    clear c33
                                    have H' := Aside0.mk H
                                    clear H
                                    have p29 : 0 ≤ (x13_4 : Int) := of_decide_eq_true (by first | (with_reducible assumption) | assumption)
                                    have q29 : x13_4 < (a1.size : Int) := of_decide_eq_true (by first | (with_reducible assumption) | assumption)
                                    have hx29 := bt_at a1 x13_4
                                    replace p29 := eq_true p29
                                    replace q29 := eq_true q29
                                    go_wp2
                                    go_roundg k4
                                    case measure => have := HJ4.out; have := HJ9.out; have := HJ15.out; have := HK4.out; omega
                                    case rel => exact ⟨(wrap64 (x13_4 + 1)), (by first | rfl | (simp; done) | (simp [*]; done)), H', ⟨by have := HJ4.out; have := HJ9.out; have := HJ15.out; have := HK4.out; omega⟩, by repeat (first | exact Drawn0.refl _ | apply Drawn0.step)⟩
                                  · rw [if_neg c33] at H
                                    have c33b0 : (((ji32) % 256) == (bt a1 x13_4)) = false := beq_eq_false_iff_ne.mpr c33
                                    have c33b1 : (((ji32) % 256) != (bt a1 x13_4)) = true := bne_iff_ne.mpr c33
                                    obtain rfl := Option.some.inj H
                                    have p29 : 0 ≤ (x13_4 : Int) := of_decide_eq_true (by first | (with_reducible assumption) | assumption)
                                    have q29 : x13_4 < (a1.size : Int) := of_decide_eq_true (by first | (with_reducible assumption) | assumption)
                                    have hx29 := bt_at a1 x13_4
                                    replace p29 := eq_true p29
                                    replace q29 := eq_true q29
                                    go_wp2
                                    go_ret
                                    exact ⟨by first | rfl | (simp; done) | (simp only [← hji30, ← hji32] <;> (first | rfl | simp)) | (simp [*]; done), by repeat (first | exact Drawn0.refl _ | apply Drawn0.step)⟩
                                · rw [if_neg c31] at H
                                  exact absurd H (by simp)
                              · rw [if_neg c28] at H
                                exact absurd H (by simp)
                            · rw [if_neg c27] at H
                              have c27b0 : decide (x13_4 < (a1.size : Int)) = false := decide_eq_false c27
                              clear c27
                              obtain ⟨ji34, hji34⟩ : ∃ j_ : Int, (wrap64 (8 * x13_4)) = j_ := ⟨_, rfl⟩
                              replace H : (if 0 ≤ (ji34) then (if ((shr .u64 t115 (ji34)) % 256) = 0 then (casketlaw1_WordRows.l0 k4 a1 t115 (wrap64 (x13_4 + 1))) else (some false)) else (none)) = some r := by first | (rw [hji34] at H; exact H) | (simp only [hji34] at H ⊢; exact H)
                              have hji34w : (IntKind.i64.wrap (8 * x13_4)) = ji34 := (i64_w _).trans hji34
                              by_cases c35 : 0 ≤ (ji34)
                              · rw [if_pos c35] at H
                                have c35b0 := eq_true c35
                                have c35b1 : decide (0 ≤ (ji34)) = true := decide_eq_true c35
                                clear c35
                                obtain ⟨ji36, hji36⟩ : ∃ j_ : Int, (shr .u64 t115 (ji34)) = j_ := ⟨_, rfl⟩
                                replace H : (if ((ji36) % 256) = 0 then (casketlaw1_WordRows.l0 k4 a1 t115 (wrap64 (x13_4 + 1))) else (some false)) = some r := by first | (rw [hji36] at H; exact H) | (simp only [hji36] at H ⊢; exact H)
                                have hji36_ : (t115 / 2 ^ min (ji34).toNat 64) = ji36 := hji36
                                have hji36z : (ji34) ≤ 64 → (t115 / 2 ^ (ji34).toNat) = ji36 := shr_small hji36
                                by_cases c37 : ((ji36) % 256) = 0
                                · rw [if_pos c37] at H
                                  have c37b0 : (((ji36) % 256) == 0) = true := beq_iff_eq.mpr c37
                                  have c37b1 : (((ji36) % 256) != 0) = false := bne_eq_false_iff_eq.mpr c37
                                  clear c37
                                  have H' := Aside0.mk H
                                  clear H
                                  go_wp2
                                  go_roundg k4
                                  case measure => have := HJ4.out; have := HJ9.out; have := HJ15.out; have := HK4.out; omega
                                  case rel => exact ⟨(wrap64 (x13_4 + 1)), (by first | rfl | (simp; done) | (simp [*]; done)), H', ⟨by have := HJ4.out; have := HJ9.out; have := HJ15.out; have := HK4.out; omega⟩, by repeat (first | exact Drawn0.refl _ | apply Drawn0.step)⟩
                                · rw [if_neg c37] at H
                                  have c37b0 : (((ji36) % 256) == 0) = false := beq_eq_false_iff_ne.mpr c37
                                  have c37b1 : (((ji36) % 256) != 0) = true := bne_iff_ne.mpr c37
                                  obtain rfl := Option.some.inj H
                                  go_wp2
                                  go_ret
                                  exact ⟨by first | rfl | (simp; done) | (simp only [← hji34, ← hji36] <;> (first | rfl | simp)) | (simp [*]; done), by repeat (first | exact Drawn0.refl _ | apply Drawn0.step)⟩
                              · rw [if_neg c35] at H
                                exact absurd H (by simp)
                          · rw [if_neg c26] at H
                            have c26b0 : decide (x13_4 < 5) = false := decide_eq_false c26
                            clear c26
                            replace H := Option.bind_eq_some_iff.mp H
                            obtain ⟨t118, A380, H⟩ := H
                            replace H : (some t118) = some r := H
                            have A38 := Aside0.mk A380
                            clear A380
                            obtain rfl := Option.some.inj H
                            go_wp2_with (first | ((with_reducible refine gate_callee (f := 15) rfl ?_); refine goesL_ (some 115) rfl rfl Try.func15 (by kernel_rfl) rfl #[] rfl (by (try simp only [List.map_toArray, List.map_cons, List.map_nil]); first | done | rfl | (simp only [List.length_drop, List.length_take]; rfl)) ?_; (with_reducible refine (casketlaw1_awake.calls k4  t118 _ A38.out).mono ?_); rintro e w' ⟨rfl, ⟨nd, rfl⟩⟩; refine ⟨_, rfl, ?_⟩))
                            go_ret
                            exact ⟨by first | rfl | (simp; done) | (simp [*]; done), by repeat (first | exact Drawn0.refl _ | apply Drawn0.step)⟩
                    · rw [if_neg c25] at H
                      have c25b0 : ((Go.bits .and .u64 (t115 / 1099511627776) 255) == (IntKind.u64.wrap ((a1.size : Int)))) = false := beq_eq_false_iff_ne.mpr c25
                      have c25b1 : ((Go.bits .and .u64 (t115 / 1099511627776) 255) != (IntKind.u64.wrap ((a1.size : Int)))) = true := bne_iff_ne.mpr c25
                      obtain rfl := Option.some.inj H
                      go_wp2_with (first | ((with_reducible refine gate_callee (f := 17) rfl ?_); refine goesL_ (some 75) rfl rfl Try.func17 (by kernel_rfl) rfl #[.string a1] rfl (by (try simp only [List.map_toArray, List.map_cons, List.map_nil]); first | done | rfl | (simp only [List.length_drop, List.length_take]; rfl)) ?_; (with_reducible refine (word_FromText.calls kj15 a1 t115 true _ A22.out).mono ?_); rintro e w' ⟨rfl, ⟨nd, rfl⟩⟩; refine ⟨_, rfl, ?_⟩))
                      go_ret
                      exact ⟨by first | rfl | (simp; done) | (simp [*]; done), by repeat (first | exact Drawn0.refl _ | apply Drawn0.step)⟩
                  · replace c24 := Bool.eq_false_iff.mpr c24
                    subst c24
                    have H1 : (if t115 = 0 then ((casketlaw1_awake.f kj15).bind fun t117 => (some t117)) else (some false)) = some r := by rw [if_neg (show ¬ (false = true) by decide)] at H; exact H
                    clear H
                    have H := H1
                    clear H1
                    by_cases c39 : t115 = 0
                    · rw [if_pos c39] at H
                      have c39b0 : (t115 == 0) = true := beq_iff_eq.mpr c39
                      have c39b1 : (t115 != 0) = false := bne_eq_false_iff_eq.mpr c39
                      clear c39
                      replace H := Option.bind_eq_some_iff.mp H
                      obtain ⟨t117, A400, H⟩ := H
                      replace H : (some t117) = some r := H
                      have A40 := Aside0.mk A400
                      clear A400
                      obtain rfl := Option.some.inj H
                      go_wp2_with (first | ((with_reducible refine gate_callee (f := 17) rfl ?_); refine goesL_ (some 75) rfl rfl Try.func17 (by kernel_rfl) rfl #[.string a1] rfl (by (try simp only [List.map_toArray, List.map_cons, List.map_nil]); first | done | rfl | (simp only [List.length_drop, List.length_take]; rfl)) ?_; (with_reducible refine (word_FromText.calls kj15 a1 t115 false _ A22.out).mono ?_); rintro e w' ⟨rfl, ⟨nd, rfl⟩⟩; refine ⟨_, rfl, ?_⟩) | (go_at_call 15; (with_reducible refine (casketlaw1_awake.calls kj15  t117 _ A40.out).mono ?_); rintro e w' ⟨rfl, ⟨nd, rfl⟩⟩))
                      go_ret
                      exact ⟨by first | rfl | (simp; done) | (simp [*]; done), by repeat (first | exact Drawn0.refl _ | apply Drawn0.step)⟩
                    · rw [if_neg c39] at H
                      have c39b0 : (t115 == 0) = false := beq_eq_false_iff_ne.mpr c39
                      have c39b1 : (t115 != 0) = true := bne_iff_ne.mpr c39
                      obtain rfl := Option.some.inj H
                      go_wp2_with (first | ((with_reducible refine gate_callee (f := 17) rfl ?_); refine goesL_ (some 75) rfl rfl Try.func17 (by kernel_rfl) rfl #[.string a1] rfl (by (try simp only [List.map_toArray, List.map_cons, List.map_nil]); first | done | rfl | (simp only [List.length_drop, List.length_take]; rfl)) ?_; (with_reducible refine (word_FromText.calls kj15 a1 t115 false _ A22.out).mono ?_); rintro e w' ⟨rfl, ⟨nd, rfl⟩⟩; refine ⟨_, rfl, ?_⟩))
                      go_ret
                      exact ⟨by first | rfl | (simp; done) | (simp [*]; done), by repeat (first | exact Drawn0.refl _ | apply Drawn0.step)⟩

/-- THE ONE PURE STATEMENT of casketlaw1_WordRows: yours. -/
def casketlaw1_WordRows.Pure : Prop := ∀ (a0 : Int) (a1 : ByteArray), (Lit.int .i64 a0).wf = true → a1.size ≤ 140737488351232 → ∃ k, casketlaw1_WordRows.f k a0 a1 = some true
theorem casketlaw1_WordRows.walk (P : casketlaw1_WordRows.Pure) (a0 : Int) (a1 : ByteArray) (w : World) (w0 : (Lit.int .i64 a0).wf = true) (w1 : a1.size ≤ 140737488351232) :
    Calls Try.prog 4 #[.int .i64 a0, .string a1] w fun e w' => e = .returned (.bool true) ∧ Below w.heap.size w w' := by
  obtain ⟨k, h⟩ := P a0 a1 w0 w1
  refine (casketlaw1_WordRows.calls k a0 a1 true w h).mono ?_
  rintro e w' ⟨rfl, hd⟩
  exact ⟨rfl, hd.below⟩

end Go.Proofs.Ytpoedalbgcpgjaa.PWordRows

/- The printed contracts of the functions that WordClasses reaches (began as the text that print.sh wrote), with one step of ToText's walk mended: what the row of bytes reads as is laid behind the draw. -/
import Derived.Test.YtpoedalbgcpgjaaPWordClassesx0
import Derived.Test.YtpoedalbgcpgjaaPWordClassesx1
namespace Go.Proofs.Ytpoedalbgcpgjaa.PWordClasses
open Go.RowKit Go.Proofs.YtpoedalbgcpgjaaW.PrintWords Go.Proofs.YtpoedalbgcpgjaaW.PrintLast Go.Proofs.YtpoedalbgcpgjaaW.PrintMore
attribute [local go_sem] max2_int min2_int max_two min_two max_three min_three max_four min_four   -- for this text's walks alone
set_option linter.unusedVariables false
set_option linter.unusedSimpArgs false

/-! ### casketref1_Class: function 34 -/
mutual
def casketref1_Class.j0 : Nat → Int → Bool → Option (Int)
  | 0, _, _ => none
  | k + 1, x0, x12 => if x12 = true then (some 1) else (if x0 < 18444492273895866368 then (some 7) else (if (IntKind.u64.wrap (Int.tdiv (IntKind.u64.wrap (x0 - 18444492273895866368)) 281474976710656)) = 0 then (casketref1_Class.j1 k (IntKind.u64.wrap (Int.tdiv (IntKind.u64.wrap (x0 - 18444492273895866368)) 281474976710656)) (Int.tmod x0 281474976710656) ((Int.tmod x0 281474976710656) == 0)) else (casketref1_Class.j1 k (IntKind.u64.wrap (Int.tdiv (IntKind.u64.wrap (x0 - 18444492273895866368)) 281474976710656)) (Int.tmod x0 281474976710656) false)))
def casketref1_Class.j1 : Nat → Int → Int → Bool → Option (Int)
  | 0, _, _, _ => none
  | k + 1, x3, x4, x25 => if x25 = true then (some 3) else (if x3 = 0 then (casketref1_Class.j2 k x3 x4 (decide (x4 ≤ 2))) else (casketref1_Class.j2 k x3 x4 false))
def casketref1_Class.j2 : Nat → Int → Int → Bool → Option (Int)
  | 0, _, _, _ => none
  | k + 1, x3, x4, x31 => if x31 = true then (some 4) else (if x3 = 1 then (some 2) else (if x3 = 2 then ((casketref1_power.f k 40).bind fun t110 => (if t110 = 0 then (none) else (if (wrap64 (IntKind.u64.wrap (Int.tdiv x4 t110))) ≤ 5 then ((casketref1_power.f k 40).bind fun t111 => (if t111 = 0 then (none) else ((casketref1_power.f k (wrap64 (8 * (wrap64 (IntKind.u64.wrap (Int.tdiv x4 t110)))))).bind fun t112 => (casketref1_Class.j3 k x3 (decide ((Int.tmod x4 t111) < t112)))))) else (casketref1_Class.j3 k x3 false)))) else (if x3 = 3 then (some 6) else (some 7))))
def casketref1_Class.j3 : Nat → Int → Bool → Option (Int)
  | 0, _, _ => none
  | k + 1, x3, x50 => if x50 = true then (some 5) else (if x3 = 3 then (some 6) else (some 7))
end
def casketref1_Class.f (k : Nat) (a0 : Int) : Option (Int) := (casketref1_NaN.f a0).bind fun t109 => (if t109 = true then (casketref1_Class.j0 k a0 (a0 == 9221120237041090560)) else (casketref1_Class.j0 k a0 true))
theorem casketref1_Class.mono_l : ∀ k, (∀ y0 y1, LeO (casketref1_Class.j0 k y0 y1) (casketref1_Class.j0 (k + 1) y0 y1)) ∧ (∀ y0 y1 y2, LeO (casketref1_Class.j1 k y0 y1 y2) (casketref1_Class.j1 (k + 1) y0 y1 y2)) ∧ (∀ y0 y1 y2, LeO (casketref1_Class.j2 k y0 y1 y2) (casketref1_Class.j2 (k + 1) y0 y1 y2)) ∧ (∀ y0 y1, LeO (casketref1_Class.j3 k y0 y1) (casketref1_Class.j3 (k + 1) y0 y1))
  | 0 => ⟨fun _ _ r h => by simp [casketref1_Class.j0] at h, fun _ _ _ r h => by simp [casketref1_Class.j1] at h, fun _ _ _ r h => by simp [casketref1_Class.j2] at h, fun _ _ r h => by simp [casketref1_Class.j3] at h⟩
  | k + 1 => by
    obtain ⟨ih0, ih1, ih2, ih3⟩ := casketref1_Class.mono_l k
    refine ⟨?_, ?_, ?_, ?_⟩
    · intro y0 y1
      unfold casketref1_Class.j0
      repeat' first
      | (with_reducible exact ih0 _ _)
      | (with_reducible exact ih1 _ _ _)
      | (with_reducible exact ih2 _ _ _)
      | (with_reducible exact ih3 _ _)
      | (with_reducible exact casketref1_power.mono _ _)
      | (with_reducible exact LeO.refl _)
      | (with_reducible exact LeO.none _)
      | (with_reducible refine LeO.ite ?_ ?_)
      | (with_reducible refine LeO.bind ?_ (fun _ => ?_))
      | exact ih0 _ _
      | exact ih1 _ _ _
      | exact ih2 _ _ _
      | exact ih3 _ _
      | exact casketref1_power.mono _ _
      | exact LeO.none _
      | refine LeO.ite ?_ ?_
      | refine LeO.bind ?_ (fun _ => ?_)
    · intro y0 y1 y2
      unfold casketref1_Class.j1
      repeat' first
      | (with_reducible exact ih0 _ _)
      | (with_reducible exact ih1 _ _ _)
      | (with_reducible exact ih2 _ _ _)
      | (with_reducible exact ih3 _ _)
      | (with_reducible exact casketref1_power.mono _ _)
      | (with_reducible exact LeO.refl _)
      | (with_reducible exact LeO.none _)
      | (with_reducible refine LeO.ite ?_ ?_)
      | (with_reducible refine LeO.bind ?_ (fun _ => ?_))
      | exact ih0 _ _
      | exact ih1 _ _ _
      | exact ih2 _ _ _
      | exact ih3 _ _
      | exact casketref1_power.mono _ _
      | exact LeO.none _
      | refine LeO.ite ?_ ?_
      | refine LeO.bind ?_ (fun _ => ?_)
    · intro y0 y1 y2
      unfold casketref1_Class.j2
      repeat' first
      | (with_reducible exact ih0 _ _)
      | (with_reducible exact ih1 _ _ _)
      | (with_reducible exact ih2 _ _ _)
      | (with_reducible exact ih3 _ _)
      | (with_reducible exact casketref1_power.mono _ _)
      | (with_reducible exact LeO.refl _)
      | (with_reducible exact LeO.none _)
      | (with_reducible refine LeO.ite ?_ ?_)
      | (with_reducible refine LeO.bind ?_ (fun _ => ?_))
      | exact ih0 _ _
      | exact ih1 _ _ _
      | exact ih2 _ _ _
      | exact ih3 _ _
      | exact casketref1_power.mono _ _
      | exact LeO.none _
      | refine LeO.ite ?_ ?_
      | refine LeO.bind ?_ (fun _ => ?_)
    · intro y0 y1
      unfold casketref1_Class.j3
      repeat' first
      | (with_reducible exact ih0 _ _)
      | (with_reducible exact ih1 _ _ _)
      | (with_reducible exact ih2 _ _ _)
      | (with_reducible exact ih3 _ _)
      | (with_reducible exact casketref1_power.mono _ _)
      | (with_reducible exact LeO.refl _)
      | (with_reducible exact LeO.none _)
      | (with_reducible refine LeO.ite ?_ ?_)
      | (with_reducible refine LeO.bind ?_ (fun _ => ?_))
      | exact ih0 _ _
      | exact ih1 _ _ _
      | exact ih2 _ _ _
      | exact ih3 _ _
      | exact casketref1_power.mono _ _
      | exact LeO.none _
      | refine LeO.ite ?_ ?_
      | refine LeO.bind ?_ (fun _ => ?_)
theorem casketref1_Class.mono : ∀ a0 k, LeO (casketref1_Class.f k a0) (casketref1_Class.f (k + 1) a0) := by
  intro a0 k
  obtain ⟨ih0, ih1, ih2, ih3⟩ := casketref1_Class.mono_l k
  unfold casketref1_Class.f
  repeat' first
      | (with_reducible exact ih0 _ _)
      | (with_reducible exact ih1 _ _ _)
      | (with_reducible exact ih2 _ _ _)
      | (with_reducible exact ih3 _ _)
      | (with_reducible exact casketref1_power.mono _ _)
      | (with_reducible exact LeO.refl _)
      | (with_reducible exact LeO.none _)
      | (with_reducible refine LeO.ite ?_ ?_)
      | (with_reducible refine LeO.bind ?_ (fun _ => ?_))
      | exact ih0 _ _
      | exact ih1 _ _ _
      | exact ih2 _ _ _
      | exact ih3 _ _
      | exact casketref1_power.mono _ _
      | exact LeO.none _
      | refine LeO.ite ?_ ?_
      | refine LeO.bind ?_ (fun _ => ?_)
set_option maxHeartbeats 8000000 in
set_option maxRecDepth 100000 in
theorem casketref1_Class.calls (k : Nat) (a0 : Int) (r : Int) (w : World) (h : casketref1_Class.f k a0 = some r) :
    Calls Try.prog 34 #[.int .u64 a0] w fun e w' => e = .returned (.int .i64 r) ∧ Drawn0 w w' := by
  have H : ((casketref1_NaN.f a0).bind fun t109 => (if t109 = true then (casketref1_Class.j0 k a0 (a0 == 9221120237041090560)) else (casketref1_Class.j0 k a0 true))) = some r := h
  clear h
  have HC2 := Aside0.mk H
  clear H
  go_enter Try.func34, Try.ntmps34
  go_upto_region 1 with (fail)
  repeat (go_quiet (fail); go_upto_region 1 with (fail))
  go_cut [12] (fun v12 wc => ∃ (kq : Nat) (x12_1 : Bool), v12 = .bool x12_1 ∧ Aside0 (casketref1_Class.j0 kq a0 x12_1 = some r) ∧ Aside0 (kq ≤ k) ∧ Drawn0 w wc)
  case first =>
    have H := HC2.out
    clear HC2
    replace H := Option.bind_eq_some_iff.mp H
    obtain ⟨t109, A30, H⟩ := H
    replace H : (if t109 = true then (casketref1_Class.j0 k a0 (a0 == 9221120237041090560)) else (casketref1_Class.j0 k a0 true)) = some r := H
    have A3 := Aside0.mk A30
    clear A30
    by_cases c4 : t109 = true
    · subst c4
      have H1 : (casketref1_Class.j0 k a0 (a0 == 9221120237041090560)) = some r := by rw [if_pos rfl] at H; exact H
      clear H
      have H := H1
      clear H1
      have H' := Aside0.mk H
      clear H
      go_wp2_with (first | (go_at_call 48; (with_reducible refine (casketref1_NaN.calls a0 true _ A3.out).mono ?_); rintro e w' ⟨rfl, ⟨nd, rfl⟩⟩; (try first | exact ⟨rfl, _, World.drewN_drewN _ _ _⟩ | exact ⟨rfl, _, Eq.trans (World.drewN_drewN _ _ _) (congrArg (World.drewN _) (Nat.add_assoc _ _ _))⟩)))
      repeat (go_quiet (first | (go_at_call 48; (with_reducible refine (casketref1_NaN.calls a0 true _ A3.out).mono ?_); rintro e w' ⟨rfl, ⟨nd, rfl⟩⟩; (try first | exact ⟨rfl, _, World.drewN_drewN _ _ _⟩ | exact ⟨rfl, _, Eq.trans (World.drewN_drewN _ _ _) (congrArg (World.drewN _) (Nat.add_assoc _ _ _))⟩))); try go_wp2_with (first | (go_at_call 48; (with_reducible refine (casketref1_NaN.calls a0 true _ A3.out).mono ?_); rintro e w' ⟨rfl, ⟨nd, rfl⟩⟩; (try first | exact ⟨rfl, _, World.drewN_drewN _ _ _⟩ | exact ⟨rfl, _, Eq.trans (World.drewN_drewN _ _ _) (congrArg (World.drewN _) (Nat.add_assoc _ _ _))⟩))))
      go_meet
      case rel => exact ⟨_, ((a0 == 9221120237041090560)), (by first | rfl | (simp; done) | (simp [*]; done)), H', ⟨by first | omega | exact Nat.le_refl _⟩, by repeat (first | exact Drawn0.refl _ | apply Drawn0.step)⟩
    · replace c4 := Bool.eq_false_iff.mpr c4
      subst c4
      have H1 : (casketref1_Class.j0 k a0 true) = some r := by rw [if_neg (show ¬ (false = true) by decide)] at H; exact H
      clear H
      have H := H1
      clear H1
      have H' := Aside0.mk H
      clear H
      go_wp2_with (first | (go_at_call 48; (with_reducible refine (casketref1_NaN.calls a0 false _ A3.out).mono ?_); rintro e w' ⟨rfl, ⟨nd, rfl⟩⟩; (try first | exact ⟨rfl, _, World.drewN_drewN _ _ _⟩ | exact ⟨rfl, _, Eq.trans (World.drewN_drewN _ _ _) (congrArg (World.drewN _) (Nat.add_assoc _ _ _))⟩)))
      repeat (go_quiet (first | (go_at_call 48; (with_reducible refine (casketref1_NaN.calls a0 false _ A3.out).mono ?_); rintro e w' ⟨rfl, ⟨nd, rfl⟩⟩; (try first | exact ⟨rfl, _, World.drewN_drewN _ _ _⟩ | exact ⟨rfl, _, Eq.trans (World.drewN_drewN _ _ _) (congrArg (World.drewN _) (Nat.add_assoc _ _ _))⟩))); try go_wp2_with (first | (go_at_call 48; (with_reducible refine (casketref1_NaN.calls a0 false _ A3.out).mono ?_); rintro e w' ⟨rfl, ⟨nd, rfl⟩⟩; (try first | exact ⟨rfl, _, World.drewN_drewN _ _ _⟩ | exact ⟨rfl, _, Eq.trans (World.drewN_drewN _ _ _) (congrArg (World.drewN _) (Nat.add_assoc _ _ _))⟩))))
      go_meet
      case rel => exact ⟨_, (true), (by first | rfl | (simp; done) | (simp [*]; done)), H', ⟨by first | omega | exact Nat.le_refl _⟩, by repeat (first | exact Drawn0.refl _ | apply Drawn0.step)⟩
  case rest =>
    clear HC2
    try clear p2
    try clear c3
    try clear c4
    obtain ⟨kq, x12_1, rfl, HA, HJ1, ⟨mc1, rfl⟩⟩ := hcut
    cases kq with
    | zero => exact absurd HA.out (by simp [casketref1_Class.j0])
    | succ kj1 =>
      have H := HA.out
      clear HA
      simp only [casketref1_Class.j0] at H
      by_cases c5 : x12_1 = true
      · subst c5
        have H1 : (some 1) = some r := by rw [if_pos rfl] at H; exact H
        clear H
        have H := H1
        clear H1
        obtain rfl := Option.some.inj H
        go_wp2
        repeat (go_quiet (fail); try go_wp2)
        go_ret
        exact ⟨by first | rfl | (simp; done) | (simp [*]; done), by repeat (first | exact Drawn0.refl _ | apply Drawn0.step)⟩
      · replace c5 := Bool.eq_false_iff.mpr c5
        subst c5
        have H1 : (if a0 < 18444492273895866368 then (some 7) else (if (IntKind.u64.wrap (Int.tdiv (IntKind.u64.wrap (a0 - 18444492273895866368)) 281474976710656)) = 0 then (casketref1_Class.j1 kj1 (IntKind.u64.wrap (Int.tdiv (IntKind.u64.wrap (a0 - 18444492273895866368)) 281474976710656)) (Int.tmod a0 281474976710656) ((Int.tmod a0 281474976710656) == 0)) else (casketref1_Class.j1 kj1 (IntKind.u64.wrap (Int.tdiv (IntKind.u64.wrap (a0 - 18444492273895866368)) 281474976710656)) (Int.tmod a0 281474976710656) false))) = some r := by rw [if_neg (show ¬ (false = true) by decide)] at H; exact H
        clear H
        have H := H1
        clear H1
        by_cases c6 : a0 < 18444492273895866368
        · rw [if_pos c6] at H
          have c6b0 : decide (a0 < 18444492273895866368) = true := decide_eq_true c6
          clear c6
          obtain rfl := Option.some.inj H
          go_wp2
          repeat (go_quiet (fail); try go_wp2)
          go_ret
          exact ⟨by first | rfl | (simp; done) | (simp [*]; done), by repeat (first | exact Drawn0.refl _ | apply Drawn0.step)⟩
        · rw [if_neg c6] at H
          have c6b0 : decide (a0 < 18444492273895866368) = false := decide_eq_false c6
          clear c6
          have HC7 := Aside0.mk H
          clear H
          go_upto_region 6 with (fail)
          repeat (go_quiet (fail); go_upto_region 6 with (fail))
          go_cut [25] (fun v25 wc => ∃ (kq : Nat) (x25_6 : Bool), v25 = .bool x25_6 ∧ Aside0 (casketref1_Class.j1 kq (IntKind.u64.wrap (Int.tdiv (IntKind.u64.wrap (a0 - 18444492273895866368)) 281474976710656)) (Int.tmod a0 281474976710656) x25_6 = some r) ∧ Aside0 (kq ≤ kj1) ∧ Drawn0 w wc)
          case first =>
            have H := HC7.out
            clear HC7
            by_cases c8 : (IntKind.u64.wrap (Int.tdiv (IntKind.u64.wrap (a0 - 18444492273895866368)) 281474976710656)) = 0
            · rw [if_pos c8] at H
              have c8b0 : ((IntKind.u64.wrap (Int.tdiv (IntKind.u64.wrap (a0 - 18444492273895866368)) 281474976710656)) == 0) = true := beq_iff_eq.mpr c8
              have c8b1 : ((IntKind.u64.wrap (Int.tdiv (IntKind.u64.wrap (a0 - 18444492273895866368)) 281474976710656)) != 0) = false := bne_eq_false_iff_eq.mpr c8
              clear c8
              (first | rw [c8b0] | (simp only [i64_w, i32_w]; rw [c8b0]) | skip)
              have H' := Aside0.mk H
              clear H
              go_wp2
              repeat (go_quiet (fail); try go_wp2)
              go_meet
              case rel => exact ⟨_, (((Int.tmod a0 281474976710656) == 0)), (by first | rfl | (simp; done) | (simp [*]; done)), H', ⟨by have := HJ1.out; first | omega | exact Nat.le_refl _⟩, by repeat (first | exact Drawn0.refl _ | apply Drawn0.step)⟩
            · rw [if_neg c8] at H
              have c8b0 : ((IntKind.u64.wrap (Int.tdiv (IntKind.u64.wrap (a0 - 18444492273895866368)) 281474976710656)) == 0) = false := beq_eq_false_iff_ne.mpr c8
              have c8b1 : ((IntKind.u64.wrap (Int.tdiv (IntKind.u64.wrap (a0 - 18444492273895866368)) 281474976710656)) != 0) = true := bne_iff_ne.mpr c8
              (first | rw [c8b0] | (simp only [i64_w, i32_w]; rw [c8b0]) | skip)
              have H' := Aside0.mk H
              clear H
              go_wp2
              repeat (go_quiet (fail); try go_wp2)
              go_meet
              case rel => exact ⟨_, (false), (by first | rfl | (simp; done) | (simp [*]; done)), H', ⟨by have := HJ1.out; first | omega | exact Nat.le_refl _⟩, by repeat (first | exact Drawn0.refl _ | apply Drawn0.step)⟩
          case rest =>
            clear HC7
            try clear c1
            try clear p2
            try clear c3
            try clear c4
            try clear c5
            try clear c6
            try clear c6b0
            try clear c8
            try clear c8b0
            try clear c8b1
            try clear p2
            obtain ⟨kq, x25_6, rfl, HA, HJ6, ⟨mc6, rfl⟩⟩ := hcut
            cases kq with
            | zero => exact absurd HA.out (by simp [casketref1_Class.j1])
            | succ kj6 =>
              have H := HA.out
              clear HA
              simp only [casketref1_Class.j1] at H
              by_cases c9 : x25_6 = true
              · subst c9
                have H1 : (some 3) = some r := by rw [if_pos rfl] at H; exact H
                clear H
                have H := H1
                clear H1
                obtain rfl := Option.some.inj H
                go_wp2
                repeat (go_quiet (fail); try go_wp2)
                go_ret
                exact ⟨by first | rfl | (simp; done) | (simp [*]; done), by repeat (first | exact Drawn0.refl _ | apply Drawn0.step)⟩
              · replace c9 := Bool.eq_false_iff.mpr c9
                subst c9
                have H1 : (if (IntKind.u64.wrap (Int.tdiv (IntKind.u64.wrap (a0 - 18444492273895866368)) 281474976710656)) = 0 then (casketref1_Class.j2 kj6 (IntKind.u64.wrap (Int.tdiv (IntKind.u64.wrap (a0 - 18444492273895866368)) 281474976710656)) (Int.tmod a0 281474976710656) (decide ((Int.tmod a0 281474976710656) ≤ 2))) else (casketref1_Class.j2 kj6 (IntKind.u64.wrap (Int.tdiv (IntKind.u64.wrap (a0 - 18444492273895866368)) 281474976710656)) (Int.tmod a0 281474976710656) false)) = some r := by rw [if_neg (show ¬ (false = true) by decide)] at H; exact H
                clear H
                have H := H1
                clear H1
                have HC10 := Aside0.mk H
                clear H
                go_upto_region 8 with (fail)
                repeat (go_quiet (fail); go_upto_region 8 with (fail))
                go_cut [31] (fun v31 wc => ∃ (kq : Nat) (x31_9 : Bool), v31 = .bool x31_9 ∧ Aside0 (casketref1_Class.j2 kq (IntKind.u64.wrap (Int.tdiv (IntKind.u64.wrap (a0 - 18444492273895866368)) 281474976710656)) (Int.tmod a0 281474976710656) x31_9 = some r) ∧ Aside0 (kq ≤ kj6) ∧ Drawn0 w wc)
                case first =>
                  have H := HC10.out
                  clear HC10
                  by_cases c11 : (IntKind.u64.wrap (Int.tdiv (IntKind.u64.wrap (a0 - 18444492273895866368)) 281474976710656)) = 0
                  · rw [if_pos c11] at H
                    have c11b0 : ((IntKind.u64.wrap (Int.tdiv (IntKind.u64.wrap (a0 - 18444492273895866368)) 281474976710656)) == 0) = true := beq_iff_eq.mpr c11
                    have c11b1 : ((IntKind.u64.wrap (Int.tdiv (IntKind.u64.wrap (a0 - 18444492273895866368)) 281474976710656)) != 0) = false := bne_eq_false_iff_eq.mpr c11
                    clear c11
                    (first | rw [c11b0] | (simp only [i64_w, i32_w]; rw [c11b0]) | skip)
                    have H' := Aside0.mk H
                    clear H
                    go_wp2
                    repeat (go_quiet (fail); try go_wp2)
                    go_meet
                    case rel => exact ⟨_, (decide ((Int.tmod a0 281474976710656) ≤ 2)), (by first | rfl | (simp; done) | (simp [*]; done)), H', ⟨by have := HJ1.out; have := HJ6.out; first | omega | exact Nat.le_refl _⟩, by repeat (first | exact Drawn0.refl _ | apply Drawn0.step)⟩
                  · rw [if_neg c11] at H
                    have c11b0 : ((IntKind.u64.wrap (Int.tdiv (IntKind.u64.wrap (a0 - 18444492273895866368)) 281474976710656)) == 0) = false := beq_eq_false_iff_ne.mpr c11
                    have c11b1 : ((IntKind.u64.wrap (Int.tdiv (IntKind.u64.wrap (a0 - 18444492273895866368)) 281474976710656)) != 0) = true := bne_iff_ne.mpr c11
                    (first | rw [c11b0] | (simp only [i64_w, i32_w]; rw [c11b0]) | skip)
                    have H' := Aside0.mk H
                    clear H
                    go_wp2
                    repeat (go_quiet (fail); try go_wp2)
                    go_meet
                    case rel => exact ⟨_, (false), (by first | rfl | (simp; done) | (simp [*]; done)), H', ⟨by have := HJ1.out; have := HJ6.out; first | omega | exact Nat.le_refl _⟩, by repeat (first | exact Drawn0.refl _ | apply Drawn0.step)⟩
                case rest =>
                  clear HC10
                  try clear c1
                  try clear p2
                  try clear c3
                  try clear c4
                  try clear c5
                  try clear c6
                  try clear c6b0
                  try clear c8
                  try clear c8b0
                  try clear c8b1
                  try clear c9
                  try clear c11
                  try clear c11b0
                  try clear c11b1
                  try clear p2
                  obtain ⟨kq, x31_9, rfl, HA, HJ9, ⟨mc9, rfl⟩⟩ := hcut
                  cases kq with
                  | zero => exact absurd HA.out (by simp [casketref1_Class.j2])
                  | succ kj9 =>
                    have H := HA.out
                    clear HA
                    simp only [casketref1_Class.j2] at H
                    by_cases c12 : x31_9 = true
                    · subst c12
                      have H1 : (some 4) = some r := by rw [if_pos rfl] at H; exact H
                      clear H
                      have H := H1
                      clear H1
                      obtain rfl := Option.some.inj H
                      go_wp2
                      repeat (go_quiet (fail); try go_wp2)
                      go_ret
                      exact ⟨by first | rfl | (simp; done) | (simp [*]; done), by repeat (first | exact Drawn0.refl _ | apply Drawn0.step)⟩
                    · replace c12 := Bool.eq_false_iff.mpr c12
                      subst c12
                      have H1 : (if (IntKind.u64.wrap (Int.tdiv (IntKind.u64.wrap (a0 - 18444492273895866368)) 281474976710656)) = 1 then (some 2) else (if (IntKind.u64.wrap (Int.tdiv (IntKind.u64.wrap (a0 - 18444492273895866368)) 281474976710656)) = 2 then ((casketref1_power.f kj9 40).bind fun t110 => (if t110 = 0 then (none) else (if (wrap64 (IntKind.u64.wrap (Int.tdiv (Int.tmod a0 281474976710656) t110))) ≤ 5 then ((casketref1_power.f kj9 40).bind fun t111 => (if t111 = 0 then (none) else ((casketref1_power.f kj9 (wrap64 (8 * (wrap64 (IntKind.u64.wrap (Int.tdiv (Int.tmod a0 281474976710656) t110)))))).bind fun t112 => (casketref1_Class.j3 kj9 (IntKind.u64.wrap (Int.tdiv (IntKind.u64.wrap (a0 - 18444492273895866368)) 281474976710656)) (decide ((Int.tmod (Int.tmod a0 281474976710656) t111) < t112)))))) else (casketref1_Class.j3 kj9 (IntKind.u64.wrap (Int.tdiv (IntKind.u64.wrap (a0 - 18444492273895866368)) 281474976710656)) false)))) else (if (IntKind.u64.wrap (Int.tdiv (IntKind.u64.wrap (a0 - 18444492273895866368)) 281474976710656)) = 3 then (some 6) else (some 7)))) = some r := by rw [if_neg (show ¬ (false = true) by decide)] at H; exact H
                      clear H
                      have H := H1
                      clear H1
                      by_cases c13 : (IntKind.u64.wrap (Int.tdiv (IntKind.u64.wrap (a0 - 18444492273895866368)) 281474976710656)) = 1
                      · rw [if_pos c13] at H
                        have c13b0 : ((IntKind.u64.wrap (Int.tdiv (IntKind.u64.wrap (a0 - 18444492273895866368)) 281474976710656)) == 1) = true := beq_iff_eq.mpr c13
                        have c13b1 : ((IntKind.u64.wrap (Int.tdiv (IntKind.u64.wrap (a0 - 18444492273895866368)) 281474976710656)) != 1) = false := bne_eq_false_iff_eq.mpr c13
                        clear c13
                        obtain rfl := Option.some.inj H
                        go_wp2
                        repeat (go_quiet (fail); try go_wp2)
                        go_ret
                        exact ⟨by first | rfl | (simp; done) | (simp [*]; done), by repeat (first | exact Drawn0.refl _ | apply Drawn0.step)⟩
                      · rw [if_neg c13] at H
                        have c13b0 : ((IntKind.u64.wrap (Int.tdiv (IntKind.u64.wrap (a0 - 18444492273895866368)) 281474976710656)) == 1) = false := beq_eq_false_iff_ne.mpr c13
                        have c13b1 : ((IntKind.u64.wrap (Int.tdiv (IntKind.u64.wrap (a0 - 18444492273895866368)) 281474976710656)) != 1) = true := bne_iff_ne.mpr c13
                        by_cases c14 : (IntKind.u64.wrap (Int.tdiv (IntKind.u64.wrap (a0 - 18444492273895866368)) 281474976710656)) = 2
                        · rw [if_pos c14] at H
                          have c14b0 : ((IntKind.u64.wrap (Int.tdiv (IntKind.u64.wrap (a0 - 18444492273895866368)) 281474976710656)) == 2) = true := beq_iff_eq.mpr c14
                          have c14b1 : ((IntKind.u64.wrap (Int.tdiv (IntKind.u64.wrap (a0 - 18444492273895866368)) 281474976710656)) != 2) = false := bne_eq_false_iff_eq.mpr c14
                          clear c14
                          replace H := Option.bind_eq_some_iff.mp H
                          obtain ⟨t110, A150, H⟩ := H
                          replace H : (if t110 = 0 then (none) else (if (wrap64 (IntKind.u64.wrap (Int.tdiv (Int.tmod a0 281474976710656) t110))) ≤ 5 then ((casketref1_power.f kj9 40).bind fun t111 => (if t111 = 0 then (none) else ((casketref1_power.f kj9 (wrap64 (8 * (wrap64 (IntKind.u64.wrap (Int.tdiv (Int.tmod a0 281474976710656) t110)))))).bind fun t112 => (casketref1_Class.j3 kj9 (IntKind.u64.wrap (Int.tdiv (IntKind.u64.wrap (a0 - 18444492273895866368)) 281474976710656)) (decide ((Int.tmod (Int.tmod a0 281474976710656) t111) < t112)))))) else (casketref1_Class.j3 kj9 (IntKind.u64.wrap (Int.tdiv (IntKind.u64.wrap (a0 - 18444492273895866368)) 281474976710656)) false))) = some r := H
                          have A15 := Aside0.mk A150
                          clear A150
                          by_cases c16 : t110 = 0
                          · rw [if_pos c16] at H
                            exact absurd H (by simp)
                          · rw [if_neg c16] at H
                            have c16b0 : (t110 == 0) = false := beq_eq_false_iff_ne.mpr c16
                            have c16b1 : (t110 != 0) = true := bne_iff_ne.mpr c16
                            have HC17 := Aside0.mk H
                            clear H
                            go_upto_region 14 with (first | (go_at_call 50; (with_reducible refine (casketref1_power.calls kj9 40 t110 _ A15.out).mono ?_); rintro e w' ⟨rfl, ⟨nd, rfl⟩⟩; (try first | exact ⟨rfl, _, World.drewN_drewN _ _ _⟩ | exact ⟨rfl, _, Eq.trans (World.drewN_drewN _ _ _) (congrArg (World.drewN _) (Nat.add_assoc _ _ _))⟩)))
                            repeat (go_quiet (first | (go_at_call 50; (with_reducible refine (casketref1_power.calls kj9 40 t110 _ A15.out).mono ?_); rintro e w' ⟨rfl, ⟨nd, rfl⟩⟩; (try first | exact ⟨rfl, _, World.drewN_drewN _ _ _⟩ | exact ⟨rfl, _, Eq.trans (World.drewN_drewN _ _ _) (congrArg (World.drewN _) (Nat.add_assoc _ _ _))⟩))); go_upto_region 14 with (first | (go_at_call 50; (with_reducible refine (casketref1_power.calls kj9 40 t110 _ A15.out).mono ?_); rintro e w' ⟨rfl, ⟨nd, rfl⟩⟩; (try first | exact ⟨rfl, _, World.drewN_drewN _ _ _⟩ | exact ⟨rfl, _, Eq.trans (World.drewN_drewN _ _ _) (congrArg (World.drewN _) (Nat.add_assoc _ _ _))⟩))))
                            (try simp only [Act.put, List.setIfInBounds_toArray, List.set_cons_zero, List.set_cons_succ])
                            go_cut [50] (fun v50 wc => ∃ (kq : Nat) (x50_16 : Bool), v50 = .bool x50_16 ∧ Aside0 (casketref1_Class.j3 kq (IntKind.u64.wrap (Int.tdiv (IntKind.u64.wrap (a0 - 18444492273895866368)) 281474976710656)) x50_16 = some r) ∧ Aside0 (kq ≤ kj9) ∧ Drawn0 w wc)
                            case first =>
                              have H := HC17.out
                              clear HC17
                              by_cases c18 : (wrap64 (IntKind.u64.wrap (Int.tdiv (Int.tmod a0 281474976710656) t110))) ≤ 5
                              · rw [if_pos c18] at H
                                have c18b0 : decide ((wrap64 (IntKind.u64.wrap (Int.tdiv (Int.tmod a0 281474976710656) t110))) ≤ 5) = true := decide_eq_true c18
                                clear c18
                                (first | rw [c18b0] | (simp only [i64_w, i32_w]; rw [c18b0]) | skip)
                                replace H := Option.bind_eq_some_iff.mp H
                                obtain ⟨t111, A190, H⟩ := H
                                replace H : (if t111 = 0 then (none) else ((casketref1_power.f kj9 (wrap64 (8 * (wrap64 (IntKind.u64.wrap (Int.tdiv (Int.tmod a0 281474976710656) t110)))))).bind fun t112 => (casketref1_Class.j3 kj9 (IntKind.u64.wrap (Int.tdiv (IntKind.u64.wrap (a0 - 18444492273895866368)) 281474976710656)) (decide ((Int.tmod (Int.tmod a0 281474976710656) t111) < t112))))) = some r := H
                                have A19 := Aside0.mk A190
                                clear A190
                                by_cases c20 : t111 = 0
                                · rw [if_pos c20] at H
                                  exact absurd H (by simp)
                                · rw [if_neg c20] at H
                                  have c20b0 : (t111 == 0) = false := beq_eq_false_iff_ne.mpr c20
                                  have c20b1 : (t111 != 0) = true := bne_iff_ne.mpr c20
                                  replace H := Option.bind_eq_some_iff.mp H
                                  obtain ⟨t112, A210, H⟩ := H
                                  replace H : (casketref1_Class.j3 kj9 (IntKind.u64.wrap (Int.tdiv (IntKind.u64.wrap (a0 - 18444492273895866368)) 281474976710656)) (decide ((Int.tmod (Int.tmod a0 281474976710656) t111) < t112))) = some r := H
                                  have A21 := Aside0.mk A210
                                  clear A210
                                  have H' := Aside0.mk H
                                  clear H
                                  go_wp2_with (first | (go_at_call 50; (with_reducible refine (casketref1_power.calls kj9 40 t111 _ A19.out).mono ?_); rintro e w' ⟨rfl, ⟨nd, rfl⟩⟩; (try first | exact ⟨rfl, _, World.drewN_drewN _ _ _⟩ | exact ⟨rfl, _, Eq.trans (World.drewN_drewN _ _ _) (congrArg (World.drewN _) (Nat.add_assoc _ _ _))⟩)) | (go_at_call 50; (with_reducible refine (casketref1_power.calls kj9 (wrap64 (8 * (wrap64 (IntKind.u64.wrap (Int.tdiv (Int.tmod a0 281474976710656) t110))))) t112 _ A21.out).mono ?_); rintro e w' ⟨rfl, ⟨nd, rfl⟩⟩; (try first | exact ⟨rfl, _, World.drewN_drewN _ _ _⟩ | exact ⟨rfl, _, Eq.trans (World.drewN_drewN _ _ _) (congrArg (World.drewN _) (Nat.add_assoc _ _ _))⟩)))
                                  repeat (go_quiet (first | (go_at_call 50; (with_reducible refine (casketref1_power.calls kj9 40 t111 _ A19.out).mono ?_); rintro e w' ⟨rfl, ⟨nd, rfl⟩⟩; (try first | exact ⟨rfl, _, World.drewN_drewN _ _ _⟩ | exact ⟨rfl, _, Eq.trans (World.drewN_drewN _ _ _) (congrArg (World.drewN _) (Nat.add_assoc _ _ _))⟩)) | (go_at_call 50; (with_reducible refine (casketref1_power.calls kj9 (wrap64 (8 * (wrap64 (IntKind.u64.wrap (Int.tdiv (Int.tmod a0 281474976710656) t110))))) t112 _ A21.out).mono ?_); rintro e w' ⟨rfl, ⟨nd, rfl⟩⟩; (try first | exact ⟨rfl, _, World.drewN_drewN _ _ _⟩ | exact ⟨rfl, _, Eq.trans (World.drewN_drewN _ _ _) (congrArg (World.drewN _) (Nat.add_assoc _ _ _))⟩))); try go_wp2_with (first | (go_at_call 50; (with_reducible refine (casketref1_power.calls kj9 40 t111 _ A19.out).mono ?_); rintro e w' ⟨rfl, ⟨nd, rfl⟩⟩; (try first | exact ⟨rfl, _, World.drewN_drewN _ _ _⟩ | exact ⟨rfl, _, Eq.trans (World.drewN_drewN _ _ _) (congrArg (World.drewN _) (Nat.add_assoc _ _ _))⟩)) | (go_at_call 50; (with_reducible refine (casketref1_power.calls kj9 (wrap64 (8 * (wrap64 (IntKind.u64.wrap (Int.tdiv (Int.tmod a0 281474976710656) t110))))) t112 _ A21.out).mono ?_); rintro e w' ⟨rfl, ⟨nd, rfl⟩⟩; (try first | exact ⟨rfl, _, World.drewN_drewN _ _ _⟩ | exact ⟨rfl, _, Eq.trans (World.drewN_drewN _ _ _) (congrArg (World.drewN _) (Nat.add_assoc _ _ _))⟩))))
                                  go_meet
                                  case rel => exact ⟨_, (decide ((Int.tmod (Int.tmod a0 281474976710656) t111) < t112)), (by first | rfl | (simp; done) | (simp [*]; done)), H', ⟨by have := HJ1.out; have := HJ6.out; have := HJ9.out; first | omega | exact Nat.le_refl _⟩, by repeat (first | exact Drawn0.refl _ | apply Drawn0.step)⟩
                              · rw [if_neg c18] at H
                                have c18b0 : decide ((wrap64 (IntKind.u64.wrap (Int.tdiv (Int.tmod a0 281474976710656) t110))) ≤ 5) = false := decide_eq_false c18
                                clear c18
                                (first | rw [c18b0] | (simp only [i64_w, i32_w]; rw [c18b0]) | skip)
                                have H' := Aside0.mk H
                                clear H
                                go_wp2
                                repeat (go_quiet (fail); try go_wp2)
                                go_meet
                                case rel => exact ⟨_, (false), (by first | rfl | (simp; done) | (simp [*]; done)), H', ⟨by have := HJ1.out; have := HJ6.out; have := HJ9.out; first | omega | exact Nat.le_refl _⟩, by repeat (first | exact Drawn0.refl _ | apply Drawn0.step)⟩
                            case rest =>
                              clear HC17
                              try clear c1
                              try clear c2
                              try clear p2
                              try clear c3
                              try clear c4
                              try clear c5
                              try clear c6
                              try clear c6b0
                              try clear p6
                              try clear c8
                              try clear c8b0
                              try clear c8b1
                              try clear c9
                              try clear c11
                              try clear c11b0
                              try clear c11b1
                              try clear c12
                              try clear c13
                              try clear c13b0
                              try clear c13b1
                              try clear c14
                              try clear c14b0
                              try clear c14b1
                              try clear c16
                              try clear c16b0
                              try clear c16b1
                              try clear c18
                              try clear c18b0
                              try clear c20
                              try clear c20b0
                              try clear c20b1
                              try clear p2
                              obtain ⟨kq, x50_16, rfl, HA, HJ16, ⟨mc16, rfl⟩⟩ := hcut
                              cases kq with
                              | zero => exact absurd HA.out (by simp [casketref1_Class.j3])
                              | succ kj16 =>
                                have H := HA.out
                                clear HA
                                simp only [casketref1_Class.j3] at H
                                by_cases c22 : x50_16 = true
                                · subst c22
                                  have H1 : (some 5) = some r := by rw [if_pos rfl] at H; exact H
                                  clear H
                                  have H := H1
                                  clear H1
                                  obtain rfl := Option.some.inj H
                                  go_wp2
                                  repeat (go_quiet (fail); try go_wp2)
                                  go_ret
                                  exact ⟨by first | rfl | (simp; done) | (simp [*]; done), by repeat (first | exact Drawn0.refl _ | apply Drawn0.step)⟩
                                · replace c22 := Bool.eq_false_iff.mpr c22
                                  subst c22
                                  have H1 : (if (IntKind.u64.wrap (Int.tdiv (IntKind.u64.wrap (a0 - 18444492273895866368)) 281474976710656)) = 3 then (some 6) else (some 7)) = some r := by rw [if_neg (show ¬ (false = true) by decide)] at H; exact H
                                  clear H
                                  have H := H1
                                  clear H1
                                  by_cases c23 : (IntKind.u64.wrap (Int.tdiv (IntKind.u64.wrap (a0 - 18444492273895866368)) 281474976710656)) = 3
                                  · rw [if_pos c23] at H
                                    have c23b0 : ((IntKind.u64.wrap (Int.tdiv (IntKind.u64.wrap (a0 - 18444492273895866368)) 281474976710656)) == 3) = true := beq_iff_eq.mpr c23
                                    have c23b1 : ((IntKind.u64.wrap (Int.tdiv (IntKind.u64.wrap (a0 - 18444492273895866368)) 281474976710656)) != 3) = false := bne_eq_false_iff_eq.mpr c23
                                    clear c23
                                    obtain rfl := Option.some.inj H
                                    go_wp2
                                    repeat (go_quiet (fail); try go_wp2)
                                    go_ret
                                    exact ⟨by first | rfl | (simp; done) | (simp [*]; done), by repeat (first | exact Drawn0.refl _ | apply Drawn0.step)⟩
                                  · rw [if_neg c23] at H
                                    have c23b0 : ((IntKind.u64.wrap (Int.tdiv (IntKind.u64.wrap (a0 - 18444492273895866368)) 281474976710656)) == 3) = false := beq_eq_false_iff_ne.mpr c23
                                    have c23b1 : ((IntKind.u64.wrap (Int.tdiv (IntKind.u64.wrap (a0 - 18444492273895866368)) 281474976710656)) != 3) = true := bne_iff_ne.mpr c23
                                    obtain rfl := Option.some.inj H
                                    go_wp2
                                    repeat (go_quiet (fail); try go_wp2)
                                    go_ret
                                    exact ⟨by first | rfl | (simp; done) | (simp [*]; done), by repeat (first | exact Drawn0.refl _ | apply Drawn0.step)⟩
                        · rw [if_neg c14] at H
                          have c14b0 : ((IntKind.u64.wrap (Int.tdiv (IntKind.u64.wrap (a0 - 18444492273895866368)) 281474976710656)) == 2) = false := beq_eq_false_iff_ne.mpr c14
                          have c14b1 : ((IntKind.u64.wrap (Int.tdiv (IntKind.u64.wrap (a0 - 18444492273895866368)) 281474976710656)) != 2) = true := bne_iff_ne.mpr c14
                          by_cases c24 : (IntKind.u64.wrap (Int.tdiv (IntKind.u64.wrap (a0 - 18444492273895866368)) 281474976710656)) = 3
                          · rw [if_pos c24] at H
                            have c24b0 : ((IntKind.u64.wrap (Int.tdiv (IntKind.u64.wrap (a0 - 18444492273895866368)) 281474976710656)) == 3) = true := beq_iff_eq.mpr c24
                            have c24b1 : ((IntKind.u64.wrap (Int.tdiv (IntKind.u64.wrap (a0 - 18444492273895866368)) 281474976710656)) != 3) = false := bne_eq_false_iff_eq.mpr c24
                            clear c24
                            obtain rfl := Option.some.inj H
                            go_wp2
                            repeat (go_quiet (fail); try go_wp2)
                            go_ret
                            exact ⟨by first | rfl | (simp; done) | (simp [*]; done), by repeat (first | exact Drawn0.refl _ | apply Drawn0.step)⟩
                          · rw [if_neg c24] at H
                            have c24b0 : ((IntKind.u64.wrap (Int.tdiv (IntKind.u64.wrap (a0 - 18444492273895866368)) 281474976710656)) == 3) = false := beq_eq_false_iff_ne.mpr c24
                            have c24b1 : ((IntKind.u64.wrap (Int.tdiv (IntKind.u64.wrap (a0 - 18444492273895866368)) 281474976710656)) != 3) = true := bne_iff_ne.mpr c24
                            obtain rfl := Option.some.inj H
                            go_wp2
                            repeat (go_quiet (fail); try go_wp2)
                            go_ret
                            exact ⟨by first | rfl | (simp; done) | (simp [*]; done), by repeat (first | exact Drawn0.refl _ | apply Drawn0.step)⟩

/-! ### word_ToInt: function 35 -/
def word_ToInt.f (k : Nat) (a0 : Int) : Option (Int × Bool) := (word_Class.f k a0).bind fun t113 => (if t113 = 2 then (some ((wrap64 (IntKind.u64.wrap (a0 * 65536))) / 65536, true)) else (some (0, false)))
theorem word_ToInt.mono : ∀ a0 k, LeO (word_ToInt.f k a0) (word_ToInt.f (k + 1) a0) := by
  intro a0 k
  unfold word_ToInt.f
  repeat' first
      | (with_reducible exact word_Class.mono _ _)
      | (with_reducible exact LeO.refl _)
      | (with_reducible exact LeO.none _)
      | (with_reducible refine LeO.ite ?_ ?_)
      | (with_reducible refine LeO.bind ?_ (fun _ => ?_))
      | exact word_Class.mono _ _
      | exact LeO.none _
      | refine LeO.ite ?_ ?_
      | refine LeO.bind ?_ (fun _ => ?_)
set_option maxHeartbeats 8000000 in
set_option maxRecDepth 100000 in
theorem word_ToInt.calls (k : Nat) (a0 : Int) (r1 : Int) (r2 : Bool) (w : World) (h : word_ToInt.f k a0 = some (r1, r2)) :
    Calls Try.prog 35 #[.int .u64 a0] w fun e w' => e = .returned (.tuple #[.int .i64 r1, .bool r2]) ∧ Drawn0 w w' := by
  have H : ((word_Class.f k a0).bind fun t113 => (if t113 = 2 then (some ((wrap64 (IntKind.u64.wrap (a0 * 65536))) / 65536, true)) else (some (0, false)))) = some (r1, r2) := h
  clear h
  replace H := Option.bind_eq_some_iff.mp H
  obtain ⟨t113, A20, H⟩ := H
  replace H : (if t113 = 2 then (some ((wrap64 (IntKind.u64.wrap (a0 * 65536))) / 65536, true)) else (some (0, false))) = some (r1, r2) := H
  have A2 := Aside0.mk A20
  clear A20
  by_cases c3 : t113 = 2
  · rw [if_pos c3] at H
    have c3b0 : (t113 == 2) = true := beq_iff_eq.mpr c3
    have c3b1 : (t113 != 2) = false := bne_eq_false_iff_eq.mpr c3
    clear c3
    simp only [Option.some.injEq, Prod.mk.injEq] at H
    obtain ⟨rfl, rfl⟩ := H
    go_enter Try.func35, Try.ntmps35
    go_wp2_with (first | ((with_reducible refine gate_callee (f := 14) rfl ?_); refine goesL_ (some 5) rfl rfl Try.func14 (by kernel_rfl) rfl #[.int .u64 a0] rfl (by (try simp only [List.map_toArray, List.map_cons, List.map_nil]); first | done | rfl | (simp only [List.length_drop, List.length_take]; rfl)) ?_; (with_reducible refine (word_Class.calls k a0 t113 _ A2.out).mono ?_); rintro e w' ⟨rfl, ⟨nd, rfl⟩⟩; refine ⟨_, rfl, ?_⟩))
    go_ret2
    exact ⟨by first | rfl | (simp; done) | (simp [*]; done), by repeat (first | exact Drawn0.refl _ | apply Drawn0.step)⟩
  · rw [if_neg c3] at H
    have c3b0 : (t113 == 2) = false := beq_eq_false_iff_ne.mpr c3
    have c3b1 : (t113 != 2) = true := bne_iff_ne.mpr c3
    simp only [Option.some.injEq, Prod.mk.injEq] at H
    obtain ⟨rfl, rfl⟩ := H
    go_enter Try.func35, Try.ntmps35
    go_wp2_with (first | ((with_reducible refine gate_callee (f := 14) rfl ?_); refine goesL_ (some 5) rfl rfl Try.func14 (by kernel_rfl) rfl #[.int .u64 a0] rfl (by (try simp only [List.map_toArray, List.map_cons, List.map_nil]); first | done | rfl | (simp only [List.length_drop, List.length_take]; rfl)) ?_; (with_reducible refine (word_Class.calls k a0 t113 _ A2.out).mono ?_); rintro e w' ⟨rfl, ⟨nd, rfl⟩⟩; refine ⟨_, rfl, ?_⟩))
    go_ret2
    exact ⟨by first | rfl | (simp; done) | (simp [*]; done), by repeat (first | exact Drawn0.refl _ | apply Drawn0.step)⟩

/-! ### casketref1_ToInt: function 36 -/
def casketref1_ToInt.f (k : Nat) (a0 : Int) : Option (Int × Bool) := (casketref1_Class.f k a0).bind fun t114 => (if t114 = 2 then (if (wrap64 (Int.tmod a0 281474976710656)) ≥ 140737488355328 then (some (wrap64 ((wrap64 (Int.tmod a0 281474976710656)) - 281474976710656), true)) else (some (wrap64 (Int.tmod a0 281474976710656), true))) else (some (0, false)))
theorem casketref1_ToInt.mono : ∀ a0 k, LeO (casketref1_ToInt.f k a0) (casketref1_ToInt.f (k + 1) a0) := by
  intro a0 k
  unfold casketref1_ToInt.f
  repeat' first
      | (with_reducible exact casketref1_Class.mono _ _)
      | (with_reducible exact LeO.refl _)
      | (with_reducible exact LeO.none _)
      | (with_reducible refine LeO.ite ?_ ?_)
      | (with_reducible refine LeO.bind ?_ (fun _ => ?_))
      | exact casketref1_Class.mono _ _
      | exact LeO.none _
      | refine LeO.ite ?_ ?_
      | refine LeO.bind ?_ (fun _ => ?_)
set_option maxHeartbeats 8000000 in
set_option maxRecDepth 100000 in
theorem casketref1_ToInt.calls (k : Nat) (a0 : Int) (r1 : Int) (r2 : Bool) (w : World) (h : casketref1_ToInt.f k a0 = some (r1, r2)) :
    Calls Try.prog 36 #[.int .u64 a0] w fun e w' => e = .returned (.tuple #[.int .i64 r1, .bool r2]) ∧ Drawn0 w w' := by
  have H : ((casketref1_Class.f k a0).bind fun t114 => (if t114 = 2 then (if (wrap64 (Int.tmod a0 281474976710656)) ≥ 140737488355328 then (some (wrap64 ((wrap64 (Int.tmod a0 281474976710656)) - 281474976710656), true)) else (some (wrap64 (Int.tmod a0 281474976710656), true))) else (some (0, false)))) = some (r1, r2) := h
  clear h
  replace H := Option.bind_eq_some_iff.mp H
  obtain ⟨t114, A20, H⟩ := H
  replace H : (if t114 = 2 then (if (wrap64 (Int.tmod a0 281474976710656)) ≥ 140737488355328 then (some (wrap64 ((wrap64 (Int.tmod a0 281474976710656)) - 281474976710656), true)) else (some (wrap64 (Int.tmod a0 281474976710656), true))) else (some (0, false))) = some (r1, r2) := H
  have A2 := Aside0.mk A20
  clear A20
  by_cases c3 : t114 = 2
  · rw [if_pos c3] at H
    have c3b0 : (t114 == 2) = true := beq_iff_eq.mpr c3
    have c3b1 : (t114 != 2) = false := bne_eq_false_iff_eq.mpr c3
    clear c3
    by_cases c4 : (wrap64 (Int.tmod a0 281474976710656)) ≥ 140737488355328
    · rw [if_pos c4] at H
      have c4b0 : decide (140737488355328 ≤ (wrap64 (Int.tmod a0 281474976710656))) = true := decide_eq_true c4
      clear c4
      simp only [Option.some.injEq, Prod.mk.injEq] at H
      obtain ⟨rfl, rfl⟩ := H
      go_enter Try.func36, Try.ntmps36
      go_wp2_with (first | ((with_reducible refine gate_callee (f := 34) rfl ?_); refine goesL_ (some 6) rfl rfl Try.func34 (by kernel_rfl) rfl #[.int .u64 a0] rfl (by (try simp only [List.map_toArray, List.map_cons, List.map_nil]); first | done | rfl | (simp only [List.length_drop, List.length_take]; rfl)) ?_; (with_reducible refine (casketref1_Class.calls k a0 t114 _ A2.out).mono ?_); rintro e w' ⟨rfl, ⟨nd, rfl⟩⟩; refine ⟨_, rfl, ?_⟩))
      go_ret2
      exact ⟨by first | rfl | (simp; done) | (simp [*]; done), by repeat (first | exact Drawn0.refl _ | apply Drawn0.step)⟩
    · rw [if_neg c4] at H
      have c4b0 : decide (140737488355328 ≤ (wrap64 (Int.tmod a0 281474976710656))) = false := decide_eq_false c4
      clear c4
      simp only [Option.some.injEq, Prod.mk.injEq] at H
      obtain ⟨rfl, rfl⟩ := H
      go_enter Try.func36, Try.ntmps36
      go_wp2_with (first | ((with_reducible refine gate_callee (f := 34) rfl ?_); refine goesL_ (some 6) rfl rfl Try.func34 (by kernel_rfl) rfl #[.int .u64 a0] rfl (by (try simp only [List.map_toArray, List.map_cons, List.map_nil]); first | done | rfl | (simp only [List.length_drop, List.length_take]; rfl)) ?_; (with_reducible refine (casketref1_Class.calls k a0 t114 _ A2.out).mono ?_); rintro e w' ⟨rfl, ⟨nd, rfl⟩⟩; refine ⟨_, rfl, ?_⟩))
      go_ret2
      exact ⟨by first | rfl | (simp; done) | (simp [*]; done), by repeat (first | exact Drawn0.refl _ | apply Drawn0.step)⟩
  · rw [if_neg c3] at H
    have c3b0 : (t114 == 2) = false := beq_eq_false_iff_ne.mpr c3
    have c3b1 : (t114 != 2) = true := bne_iff_ne.mpr c3
    simp only [Option.some.injEq, Prod.mk.injEq] at H
    obtain ⟨rfl, rfl⟩ := H
    go_enter Try.func36, Try.ntmps36
    go_wp2_with (first | ((with_reducible refine gate_callee (f := 34) rfl ?_); refine goesL_ (some 6) rfl rfl Try.func34 (by kernel_rfl) rfl #[.int .u64 a0] rfl (by (try simp only [List.map_toArray, List.map_cons, List.map_nil]); first | done | rfl | (simp only [List.length_drop, List.length_take]; rfl)) ?_; (with_reducible refine (casketref1_Class.calls k a0 t114 _ A2.out).mono ?_); rintro e w' ⟨rfl, ⟨nd, rfl⟩⟩; refine ⟨_, rfl, ?_⟩))
    go_ret2
    exact ⟨by first | rfl | (simp; done) | (simp [*]; done), by repeat (first | exact Drawn0.refl _ | apply Drawn0.step)⟩

/-! ### word_FromBool: function 19 -/
def word_FromBool.f (a0 : Bool) : Option (Int) := if a0 = true then ((word_tagged.f 0 2).bind fun t115 => (some t115)) else ((word_tagged.f 0 1).bind fun t116 => (some t116))
set_option maxHeartbeats 8000000 in
set_option maxRecDepth 100000 in
theorem word_FromBool.calls (a0 : Bool) (r : Int) (w : World) (h : word_FromBool.f a0 = some r) :
    Calls Try.prog 19 #[.bool a0] w fun e w' => e = .returned (.int .u64 r) ∧ Drawn0 w w' := by
  have H : (if a0 = true then ((word_tagged.f 0 2).bind fun t115 => (some t115)) else ((word_tagged.f 0 1).bind fun t116 => (some t116))) = some r := h
  clear h
  by_cases c2 : a0 = true
  · subst c2
    have H1 : ((word_tagged.f 0 2).bind fun t115 => (some t115)) = some r := by rw [if_pos rfl] at H; exact H
    clear H
    have H := H1
    clear H1
    replace H := Option.bind_eq_some_iff.mp H
    obtain ⟨t115, A30, H⟩ := H
    replace H : (some t115) = some r := H
    have A3 := Aside0.mk A30
    clear A30
    obtain rfl := Option.some.inj H
    go_enter Try.func19, Try.ntmps19
    go_wp2_with (first | ((with_reducible refine gate_callee (f := 47) rfl ?_); refine goesL_ (some 4) rfl rfl Try.func47 (by kernel_rfl) rfl #[.int .u64 0, .int .u64 2] rfl (by (try simp only [List.map_toArray, List.map_cons, List.map_nil]); first | done | rfl | (simp only [List.length_drop, List.length_take]; rfl)) ?_; (with_reducible refine (word_tagged.calls 0 2 t115 _ A3.out).mono ?_); rintro e w' ⟨rfl, ⟨nd, rfl⟩⟩; refine ⟨_, rfl, ?_⟩))
    go_ret
    exact ⟨by first | rfl | (simp; done) | (simp [*]; done), by repeat (first | exact Drawn0.refl _ | apply Drawn0.step)⟩
  · replace c2 := Bool.eq_false_iff.mpr c2
    subst c2
    have H1 : ((word_tagged.f 0 1).bind fun t116 => (some t116)) = some r := by rw [if_neg (show ¬ (false = true) by decide)] at H; exact H
    clear H
    have H := H1
    clear H1
    replace H := Option.bind_eq_some_iff.mp H
    obtain ⟨t116, A40, H⟩ := H
    replace H : (some t116) = some r := H
    have A4 := Aside0.mk A40
    clear A40
    obtain rfl := Option.some.inj H
    go_enter Try.func19, Try.ntmps19
    go_wp2_with (first | ((with_reducible refine gate_callee (f := 47) rfl ?_); refine goesL_ (some 5) rfl rfl Try.func47 (by kernel_rfl) rfl #[.int .u64 0, .int .u64 1] rfl (by (try simp only [List.map_toArray, List.map_cons, List.map_nil]); first | done | rfl | (simp only [List.length_drop, List.length_take]; rfl)) ?_; (with_reducible refine (word_tagged.calls 0 1 t116 _ A4.out).mono ?_); rintro e w' ⟨rfl, ⟨nd, rfl⟩⟩; refine ⟨_, rfl, ?_⟩))
    go_ret
    exact ⟨by first | rfl | (simp; done) | (simp [*]; done), by repeat (first | exact Drawn0.refl _ | apply Drawn0.step)⟩

/-! ### word_ToBool: function 37 -/
def word_ToBool.f (k : Nat) (a0 : Int) : Option (Bool × Bool) := (word_FromBool.f true).bind fun t117 => ((word_Class.f k a0).bind fun t118 => (some ((a0 == t117), (t118 == 4))))
theorem word_ToBool.mono : ∀ a0 k, LeO (word_ToBool.f k a0) (word_ToBool.f (k + 1) a0) := by
  intro a0 k
  unfold word_ToBool.f
  repeat' first
      | (with_reducible exact word_Class.mono _ _)
      | (with_reducible exact LeO.refl _)
      | (with_reducible exact LeO.none _)
      | (with_reducible refine LeO.ite ?_ ?_)
      | (with_reducible refine LeO.bind ?_ (fun _ => ?_))
      | exact word_Class.mono _ _
      | exact LeO.none _
      | refine LeO.ite ?_ ?_
      | refine LeO.bind ?_ (fun _ => ?_)
set_option maxHeartbeats 8000000 in
set_option maxRecDepth 100000 in
theorem word_ToBool.calls (k : Nat) (a0 : Int) (r1 : Bool) (r2 : Bool) (w : World) (h : word_ToBool.f k a0 = some (r1, r2)) :
    Calls Try.prog 37 #[.int .u64 a0] w fun e w' => e = .returned (.tuple #[.bool r1, .bool r2]) ∧ Drawn0 w w' := by
  have H : ((word_FromBool.f true).bind fun t117 => ((word_Class.f k a0).bind fun t118 => (some ((a0 == t117), (t118 == 4))))) = some (r1, r2) := h
  clear h
  replace H := Option.bind_eq_some_iff.mp H
  obtain ⟨t117, A20, H⟩ := H
  replace H : ((word_Class.f k a0).bind fun t118 => (some ((a0 == t117), (t118 == 4)))) = some (r1, r2) := H
  have A2 := Aside0.mk A20
  clear A20
  replace H := Option.bind_eq_some_iff.mp H
  obtain ⟨t118, A30, H⟩ := H
  replace H : (some ((a0 == t117), (t118 == 4))) = some (r1, r2) := H
  have A3 := Aside0.mk A30
  clear A30
  simp only [Option.some.injEq, Prod.mk.injEq] at H
  obtain ⟨rfl, rfl⟩ := H
  go_enter Try.func37, Try.ntmps37
  go_wp2_with (first | ((with_reducible refine gate_callee (f := 19) rfl ?_); refine goesL_ (some 5) rfl rfl Try.func19 (by kernel_rfl) rfl #[.bool true] rfl (by (try simp only [List.map_toArray, List.map_cons, List.map_nil]); first | done | rfl | (simp only [List.length_drop, List.length_take]; rfl)) ?_; (with_reducible refine (word_FromBool.calls true t117 _ A2.out).mono ?_); rintro e w' ⟨rfl, ⟨nd, rfl⟩⟩; refine ⟨_, rfl, ?_⟩) | ((with_reducible refine gate_callee (f := 14) rfl ?_); refine goesL_ (some 8) rfl rfl Try.func14 (by kernel_rfl) rfl #[.int .u64 a0] rfl (by (try simp only [List.map_toArray, List.map_cons, List.map_nil]); first | done | rfl | (simp only [List.length_drop, List.length_take]; rfl)) ?_; (with_reducible refine (word_Class.calls k a0 t118 _ A3.out).mono ?_); rintro e w' ⟨rfl, ⟨nd, rfl⟩⟩; refine ⟨_, rfl, ?_⟩))
  go_ret2
  exact ⟨by first | rfl | (simp; done) | (simp [*]; done), by repeat (first | exact Drawn0.refl _ | apply Drawn0.step)⟩

/-! ### casketref1_ToBool: function 38 -/
def casketref1_ToBool.f (k : Nat) (a0 : Int) : Option (Bool × Bool) := (casketref1_Class.f k a0).bind fun t119 => (if t119 = 4 then (some ((a0 == 18444492273895866370), true)) else (some (false, false)))
theorem casketref1_ToBool.mono : ∀ a0 k, LeO (casketref1_ToBool.f k a0) (casketref1_ToBool.f (k + 1) a0) := by
  intro a0 k
  unfold casketref1_ToBool.f
  repeat' first
      | (with_reducible exact casketref1_Class.mono _ _)
      | (with_reducible exact LeO.refl _)
      | (with_reducible exact LeO.none _)
      | (with_reducible refine LeO.ite ?_ ?_)
      | (with_reducible refine LeO.bind ?_ (fun _ => ?_))
      | exact casketref1_Class.mono _ _
      | exact LeO.none _
      | refine LeO.ite ?_ ?_
      | refine LeO.bind ?_ (fun _ => ?_)
set_option maxHeartbeats 8000000 in
set_option maxRecDepth 100000 in
theorem casketref1_ToBool.calls (k : Nat) (a0 : Int) (r1 : Bool) (r2 : Bool) (w : World) (h : casketref1_ToBool.f k a0 = some (r1, r2)) :
    Calls Try.prog 38 #[.int .u64 a0] w fun e w' => e = .returned (.tuple #[.bool r1, .bool r2]) ∧ Drawn0 w w' := by
  have H : ((casketref1_Class.f k a0).bind fun t119 => (if t119 = 4 then (some ((a0 == 18444492273895866370), true)) else (some (false, false)))) = some (r1, r2) := h
  clear h
  replace H := Option.bind_eq_some_iff.mp H
  obtain ⟨t119, A20, H⟩ := H
  replace H : (if t119 = 4 then (some ((a0 == 18444492273895866370), true)) else (some (false, false))) = some (r1, r2) := H
  have A2 := Aside0.mk A20
  clear A20
  by_cases c3 : t119 = 4
  · rw [if_pos c3] at H
    have c3b0 : (t119 == 4) = true := beq_iff_eq.mpr c3
    have c3b1 : (t119 != 4) = false := bne_eq_false_iff_eq.mpr c3
    clear c3
    simp only [Option.some.injEq, Prod.mk.injEq] at H
    obtain ⟨rfl, rfl⟩ := H
    go_enter Try.func38, Try.ntmps38
    go_wp2_with (first | ((with_reducible refine gate_callee (f := 34) rfl ?_); refine goesL_ (some 5) rfl rfl Try.func34 (by kernel_rfl) rfl #[.int .u64 a0] rfl (by (try simp only [List.map_toArray, List.map_cons, List.map_nil]); first | done | rfl | (simp only [List.length_drop, List.length_take]; rfl)) ?_; (with_reducible refine (casketref1_Class.calls k a0 t119 _ A2.out).mono ?_); rintro e w' ⟨rfl, ⟨nd, rfl⟩⟩; refine ⟨_, rfl, ?_⟩))
    go_ret2
    exact ⟨by first | rfl | (simp; done) | (simp [*]; done), by repeat (first | exact Drawn0.refl _ | apply Drawn0.step)⟩
  · rw [if_neg c3] at H
    have c3b0 : (t119 == 4) = false := beq_eq_false_iff_ne.mpr c3
    have c3b1 : (t119 != 4) = true := bne_iff_ne.mpr c3
    simp only [Option.some.injEq, Prod.mk.injEq] at H
    obtain ⟨rfl, rfl⟩ := H
    go_enter Try.func38, Try.ntmps38
    go_wp2_with (first | ((with_reducible refine gate_callee (f := 34) rfl ?_); refine goesL_ (some 5) rfl rfl Try.func34 (by kernel_rfl) rfl #[.int .u64 a0] rfl (by (try simp only [List.map_toArray, List.map_cons, List.map_nil]); first | done | rfl | (simp only [List.length_drop, List.length_take]; rfl)) ?_; (with_reducible refine (casketref1_Class.calls k a0 t119 _ A2.out).mono ?_); rintro e w' ⟨rfl, ⟨nd, rfl⟩⟩; refine ⟨_, rfl, ?_⟩))
    go_ret2
    exact ⟨by first | rfl | (simp; done) | (simp [*]; done), by repeat (first | exact Drawn0.refl _ | apply Drawn0.step)⟩

-- NOT PRINTED: function 39 (word_ToText)

/-! ### casketref1_ToText: function 40 -/
def casketref1_ToText.l0 : Nat → Int → List Int → Int → Option (ByteArray × Bool)
  | 0, _, _, _ => none
  | k + 1, x4, x5, x6 => (casketref1_power.f k 40).bind fun t125 => (if t125 = 0 then (none) else (if x6 < (wrap64 (IntKind.u64.wrap (Int.tdiv x4 t125))) then ((casketref1_power.f k (wrap64 (8 * x6))).bind fun t126 => (if t126 = 0 then (none) else (if x5.length < 140737488355328 then (casketref1_ToText.l0 k x4 (x5 ++ [(Int.tmod (IntKind.u64.wrap (Int.tdiv x4 t126)) 256) % 256]) (wrap64 (x6 + 1))) else (none)))) else (some (strOfNums x5, true))))
def casketref1_ToText.f (k : Nat) (a0 : Int) : Option (ByteArray × Bool) := (casketref1_Class.f k a0).bind fun t121 => (if t121 = 5 then (casketref1_ToText.l0 k (Int.tmod a0 281474976710656) (([] : List Int)) 0) else (some ((⟨#[]⟩ : ByteArray), false)))
theorem casketref1_ToText.mono_l : ∀ k, (∀ y0 y1 y2, LeO (casketref1_ToText.l0 k y0 y1 y2) (casketref1_ToText.l0 (k + 1) y0 y1 y2))
  | 0 => fun _ _ _ r h => by simp [casketref1_ToText.l0] at h
  | k + 1 => by
    have ih0 := casketref1_ToText.mono_l k
    · intro y0 y1 y2
      unfold casketref1_ToText.l0
      repeat' first
      | (with_reducible exact ih0 _ _ _)
      | (with_reducible exact casketref1_Class.mono _ _)
      | (with_reducible exact casketref1_power.mono _ _)
      | (with_reducible exact LeO.refl _)
      | (with_reducible exact LeO.none _)
      | (with_reducible refine LeO.ite ?_ ?_)
      | (with_reducible refine LeO.bind ?_ (fun _ => ?_))
      | exact ih0 _ _ _
      | exact casketref1_Class.mono _ _
      | exact casketref1_power.mono _ _
      | exact LeO.none _
      | refine LeO.ite ?_ ?_
      | refine LeO.bind ?_ (fun _ => ?_)
theorem casketref1_ToText.mono : ∀ a0 k, LeO (casketref1_ToText.f k a0) (casketref1_ToText.f (k + 1) a0) := by
  intro a0 k
  have ih0 := casketref1_ToText.mono_l k
  unfold casketref1_ToText.f
  repeat' first
      | (with_reducible exact ih0 _ _ _)
      | (with_reducible exact casketref1_Class.mono _ _)
      | (with_reducible exact casketref1_power.mono _ _)
      | (with_reducible exact LeO.refl _)
      | (with_reducible exact LeO.none _)
      | (with_reducible refine LeO.ite ?_ ?_)
      | (with_reducible refine LeO.bind ?_ (fun _ => ?_))
      | exact ih0 _ _ _
      | exact casketref1_Class.mono _ _
      | exact casketref1_power.mono _ _
      | exact LeO.none _
      | refine LeO.ite ?_ ?_
      | refine LeO.bind ?_ (fun _ => ?_)
set_option maxHeartbeats 8000000 in
set_option maxRecDepth 100000 in
theorem casketref1_ToText.calls (k : Nat) (a0 : Int) (r1 : ByteArray) (r2 : Bool) (w : World) (h : casketref1_ToText.f k a0 = some (r1, r2)) :
    Calls Try.prog 40 #[.int .u64 a0] w fun e w' => e = .returned (.tuple #[.string r1, .bool r2]) ∧ Below w.heap.size w w' := by
  have HB := Aside0.mk (Below.refl w.heap.size w)
  have H : ((casketref1_Class.f k a0).bind fun t121 => (if t121 = 5 then (casketref1_ToText.l0 k (Int.tmod a0 281474976710656) (([] : List Int)) 0) else (some ((⟨#[]⟩ : ByteArray), false)))) = some (r1, r2) := h
  clear h
  replace H := Option.bind_eq_some_iff.mp H
  obtain ⟨t121, A20, H⟩ := H
  replace H : (if t121 = 5 then (casketref1_ToText.l0 k (Int.tmod a0 281474976710656) (([] : List Int)) 0) else (some ((⟨#[]⟩ : ByteArray), false))) = some (r1, r2) := H
  have A2 := Aside0.mk A20
  clear A20
  by_cases c3 : t121 = 5
  · rw [if_pos c3] at H
    have c3b0 : (t121 == 5) = true := beq_iff_eq.mpr c3
    have c3b1 : (t121 != 5) = false := bne_eq_false_iff_eq.mpr c3
    clear c3
    obtain ⟨y122, hy122⟩ : ∃ y_ : List Int, y_ = (([] : List Int)) := ⟨_, rfl⟩
    replace H : (casketref1_ToText.l0 k (Int.tmod a0 281474976710656) y122 0) = some (r1, r2) := by first | (rw [hy122]; with_reducible exact H) | (have H2_ := (Option.bind_some _ _).symm.trans H; rw [hy122]; with_reducible exact H2_) | (have H2_ := (Option.bind_some _ _).symm.trans H; with_reducible exact H2_) | with_reducible exact H | (rw [hy122]; exact H) | exact H
    have Ny122 := Aside0.mk hy122
    clear hy122
    have H' := Aside0.mk H
    clear H
    go_enter Try.func40, Try.ntmps40
    go_wp2_with (first | ((with_reducible refine gate_callee (f := 34) rfl ?_); refine goesL_ (some 8) rfl rfl Try.func34 (by kernel_rfl) rfl #[.int .u64 a0] rfl (by (try simp only [List.map_toArray, List.map_cons, List.map_nil]); first | done | rfl | (simp only [List.length_drop, List.length_take]; rfl)) ?_; (with_reducible refine (casketref1_Class.calls k a0 t121 _ A2.out).mono ?_); rintro e w' ⟨rfl, ⟨nd, rfl⟩⟩; refine ⟨_, rfl, ?_⟩) | ((with_reducible refine gate_dst (N := 12) rfl ?_); refine Kd.R_lit (Kd.int .u8) _ 5 ?hg (N := 12) ?hd (xs := ([] : List Int)) (inner := []) (ok := fun _ => True) (okp := fun _ => True) ?hr ?hp (fun _ hk => hk) trivial (Below.refl _ _) (Nat.le_refl _) (by simp) ?_; (case hd => rfl); (case hg => rfl); (case hr => first | (go_simp; done) | (go_simp; rfl)); (case hp => exact (Reps.none _ _)); intro v123 w4 ho5 hb hg_ hnew_; clear hg_ hnew_; (first | rw [← Ny122.out] at ho5 | (simp only [Int.reduceToNat] at ho5; rw [← Ny122.out] at ho5)); have n0_ := Aside0.mk (Kd.R_lower ho5 (below_size (by repeat (first | (with_reducible first | exact HB.out | apply below_alloc | apply pw_below_drewN | apply below_drew1) | exact HB.out)))); have n1_ := Aside0.mk (below_step (by repeat (first | (with_reducible first | exact HB.out | apply below_alloc | apply pw_below_drewN | apply below_drew1) | exact HB.out)) hb); clear HB; have HO124 := n0_; have HB := n1_; clear n0_ n1_; clear hb ho5))
    go_loopg [5, 6] k (fun kq v5 v6 w' => ∃ (x5_1 : List Int) (x6_1 : Int), v6 = .int .i64 x6_1 ∧ Aside0 (casketref1_ToText.l0 kq (Int.tmod a0 281474976710656) x5_1 x6_1 = some (r1, r2)) ∧ Aside0 (kq ≤ k) ∧ Aside0 (Kd.R (Kd.int .u8) 5 w' w.heap.size (fun _ => True) v5 x5_1) ∧ Aside0 (Below w.heap.size w w'))
    case atStart => exact ⟨(y122), (0), (by first | rfl | (simp; done) | (simp [*]; done)), H', ⟨Nat.le_refl _⟩, ⟨by (with_reducible repeat (first | apply Kd.R_alloc | apply Kd.R_drewN | apply Kd.R_drew)); exact HO124.out⟩, ⟨by repeat (first | (with_reducible first | exact HB.out | apply below_alloc | apply pw_below_drewN | apply below_drew1) | exact HB.out)⟩⟩
    case round =>
      clear H'
      try clear p2
      try clear c3
      try clear c3b0
      try clear c3b1
      try clear c4
      obtain ⟨x5_1, x6_1, rfl, HA, HK1, HO_5, HB⟩ := hrel
      cases gk with
      | zero => exact absurd HA.out (by simp [casketref1_ToText.l0])
      | succ k1 =>
        have H := HA.out
        clear HA
        simp only [casketref1_ToText.l0] at H
        replace H := Option.bind_eq_some_iff.mp H
        obtain ⟨t125, A60, H⟩ := H
        replace H : (if t125 = 0 then (none) else (if x6_1 < (wrap64 (IntKind.u64.wrap (Int.tdiv (Int.tmod a0 281474976710656) t125))) then ((casketref1_power.f k1 (wrap64 (8 * x6_1))).bind fun t126 => (if t126 = 0 then (none) else (if x5_1.length < 140737488355328 then (casketref1_ToText.l0 k1 (Int.tmod a0 281474976710656) (x5_1 ++ [(Int.tmod (IntKind.u64.wrap (Int.tdiv (Int.tmod a0 281474976710656) t126)) 256) % 256]) (wrap64 (x6_1 + 1))) else (none)))) else (some (strOfNums x5_1, true)))) = some (r1, r2) := H
        have A6 := Aside0.mk A60
        clear A60
        by_cases c7 : t125 = 0
        · rw [if_pos c7] at H
          exact absurd H (by simp)
        · rw [if_neg c7] at H
          have c7b0 : (t125 == 0) = false := beq_eq_false_iff_ne.mpr c7
          have c7b1 : (t125 != 0) = true := bne_iff_ne.mpr c7
          by_cases c8 : x6_1 < (wrap64 (IntKind.u64.wrap (Int.tdiv (Int.tmod a0 281474976710656) t125)))
          · rw [if_pos c8] at H
            have c8b0 : decide (x6_1 < (wrap64 (IntKind.u64.wrap (Int.tdiv (Int.tmod a0 281474976710656) t125)))) = true := decide_eq_true c8
            clear c8
            replace H := Option.bind_eq_some_iff.mp H
            obtain ⟨t126, A90, H⟩ := H
            replace H : (if t126 = 0 then (none) else (if x5_1.length < 140737488355328 then (casketref1_ToText.l0 k1 (Int.tmod a0 281474976710656) (x5_1 ++ [(Int.tmod (IntKind.u64.wrap (Int.tdiv (Int.tmod a0 281474976710656) t126)) 256) % 256]) (wrap64 (x6_1 + 1))) else (none))) = some (r1, r2) := H
            have A9 := Aside0.mk A90
            clear A90
            by_cases c10 : t126 = 0
            · rw [if_pos c10] at H
              exact absurd H (by simp)
            · rw [if_neg c10] at H
              have c10b0 : (t126 == 0) = false := beq_eq_false_iff_ne.mpr c10
              have c10b1 : (t126 != 0) = true := bne_iff_ne.mpr c10
              by_cases c11 : x5_1.length < 140737488355328
              · rw [if_pos c11] at H
                have LMc11 := Aside0.mk c11
                clear c11
                obtain ⟨y127, hy127⟩ : ∃ y_ : List Int, y_ = (x5_1 ++ [(Int.tmod (IntKind.u64.wrap (Int.tdiv (Int.tmod a0 281474976710656) t126)) 256) % 256]) := ⟨_, rfl⟩
                replace H : (casketref1_ToText.l0 k1 (Int.tmod a0 281474976710656) y127 (wrap64 (x6_1 + 1))) = some (r1, r2) := by first | (rw [hy127]; with_reducible exact H) | (have H2_ := (Option.bind_some _ _).symm.trans H; rw [hy127]; with_reducible exact H2_) | (have H2_ := (Option.bind_some _ _).symm.trans H; with_reducible exact H2_) | with_reducible exact H | (rw [hy127]; exact H) | exact H
                have Ny127 := Aside0.mk hy127
                clear hy127
                have H' := Aside0.mk H
                clear H
                go_wp2_with (first | ((with_reducible refine gate_callee (f := 50) rfl ?_); refine goesL_ (some 15) rfl rfl Try.func50 (by kernel_rfl) rfl #[.int .i64 40] rfl (by (try simp only [List.map_toArray, List.map_cons, List.map_nil]); first | done | rfl | (simp only [List.length_drop, List.length_take]; rfl)) ?_; (with_reducible refine (casketref1_power.calls k1 40 t125 _ A6.out).mono ?_); rintro e w' ⟨rfl, ⟨nd, rfl⟩⟩; refine ⟨_, rfl, ?_⟩) | ((with_reducible refine gate_callee (f := 50) rfl ?_); refine goesL_ (some 25) rfl rfl Try.func50 (by kernel_rfl) rfl #[.int .i64 (wrap64 (8 * x6_1))] rfl (by (try simp only [List.map_toArray, List.map_cons, List.map_nil]); first | done | rfl | (simp only [List.length_drop, List.length_take]; rfl)) ?_; (with_reducible refine (casketref1_power.calls k1 (wrap64 (8 * x6_1)) t126 _ A9.out).mono ?_); rintro e w' ⟨rfl, ⟨nd, rfl⟩⟩; refine ⟨_, rfl, ?_⟩) | ((with_reducible refine gate_builtin (b := .append) (xs := #[.tmp 21, .tmp 29]) rfl ?_); at_builtin; refine Kd.R_append (Kd.int .u8) (w0 := w) w.heap.size rfl (.tmp 21) (.tmp 29) 73 5 (.int .u8 0) 1 rfl Try.underlying73 info5 rfl (by decide) (by omega) u5 x5_1 ((Int.tmod (IntKind.u64.wrap (Int.tdiv (Int.tmod a0 281474976710656) t126)) 256) % 256) [.int .u8 ((Int.tmod (IntKind.u64.wrap (Int.tdiv (Int.tmod a0 281474976710656) t126)) 256) % 256)] (fun _ => True) (fun _ => False) rfl rfl ?aP (fun _ hk => hk.elim) ?aF ?aO ?aB ?aS ?aL ?_; (case aP => exact rfl); (case aB => exact (by repeat (first | (with_reducible first | exact HB.out | apply below_alloc | apply pw_below_drewN | apply below_drew1) | exact HB.out))); (case aF => exact (fun _ _ => trivial)); (case aO => exact (by (with_reducible repeat (first | apply Kd.R_alloc | apply Kd.R_drewN | apply Kd.R_drew)); exact HO_5.out)); (case aS => exact (below_size (by repeat (first | (with_reducible first | exact HB.out | apply below_alloc | apply pw_below_drewN | apply below_drew1) | exact HB.out)))); (case aL => have := LMc11.out; omega); intro v128 w12 ho hb hg hat; rw [← Ny127.out] at ho; have n0_ := Aside0.mk (hb); have n1_ := Aside0.mk (ho); clear HB; clear HO_5; have HB := n0_; have HO129 := n1_; clear n0_ n1_; clear ho hb hg hat))
                go_roundg k1
                case measure => have := HK1.out; omega
                case rel => exact ⟨(y127), (wrap64 (x6_1 + 1)), (by first | rfl | (simp; done) | (simp [*]; done)), H', ⟨by have := HK1.out; omega⟩, ⟨by (with_reducible repeat (first | apply Kd.R_alloc | apply Kd.R_drewN | apply Kd.R_drew)); exact HO129.out⟩, ⟨by repeat (first | (with_reducible first | exact HB.out | apply below_alloc | apply pw_below_drewN | apply below_drew1) | exact HB.out)⟩⟩
              · rw [if_neg c11] at H
                exact absurd H (by simp)
          · rw [if_neg c8] at H
            have c8b0 : decide (x6_1 < (wrap64 (IntKind.u64.wrap (Int.tdiv (Int.tmod a0 281474976710656) t125)))) = false := decide_eq_false c8
            clear c8
            simp only [Option.some.injEq, Prod.mk.injEq] at H
            obtain ⟨rfl, rfl⟩ := H
            go_wp2_with (first | ((with_reducible refine gate_callee (f := 50) rfl ?_); refine goesL_ (some 15) rfl rfl Try.func50 (by kernel_rfl) rfl #[.int .i64 40] rfl (by (try simp only [List.map_toArray, List.map_cons, List.map_nil]); first | done | rfl | (simp only [List.length_drop, List.length_take]; rfl)) ?_; (with_reducible refine (casketref1_power.calls k1 40 t125 _ A6.out).mono ?_); rintro e w' ⟨rfl, ⟨nd, rfl⟩⟩; refine ⟨_, rfl, ?_⟩; have hcv13 := own_string (P := Try.prog) Try.underlying73 Try.underlying5 Try.underlying9 (Kd.own_of_R (by (with_reducible apply Kd.R_drewN); exact HO_5.out : Kd.R (Kd.int .u8) 5 (World.drewN wr nd) w.heap.size (fun _ => True) _ x5_1))))
            go_ret2
            exact ⟨by first | rfl | (simp [errW_none, errW_some] <;> rfl) | (simp [*, errW_none, errW_some] <;> rfl), by repeat (first | (with_reducible first | exact HB.out | apply below_alloc | apply pw_below_drewN | apply below_drew1) | exact HB.out)⟩
  · rw [if_neg c3] at H
    have c3b0 : (t121 == 5) = false := beq_eq_false_iff_ne.mpr c3
    have c3b1 : (t121 != 5) = true := bne_iff_ne.mpr c3
    simp only [Option.some.injEq, Prod.mk.injEq] at H
    obtain ⟨rfl, rfl⟩ := H
    go_enter Try.func40, Try.ntmps40
    go_wp2_with (first | ((with_reducible refine gate_callee (f := 34) rfl ?_); refine goesL_ (some 8) rfl rfl Try.func34 (by kernel_rfl) rfl #[.int .u64 a0] rfl (by (try simp only [List.map_toArray, List.map_cons, List.map_nil]); first | done | rfl | (simp only [List.length_drop, List.length_take]; rfl)) ?_; (with_reducible refine (casketref1_Class.calls k a0 t121 _ A2.out).mono ?_); rintro e w' ⟨rfl, ⟨nd, rfl⟩⟩; refine ⟨_, rfl, ?_⟩))
    go_ret2
    exact ⟨by first | rfl | (simp [errW_none, errW_some] <;> rfl) | (simp [*, errW_none, errW_some] <;> rfl), by repeat (first | (with_reducible first | exact HB.out | apply below_alloc | apply pw_below_drewN | apply below_drew1) | exact HB.out)⟩

end Go.Proofs.Ytpoedalbgcpgjaa.PWordClasses

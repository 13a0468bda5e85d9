-- PRINTED BY print.sh 35421559b90ae4d0a3588c463048766b98c2df88dd9212a6774a882060cdf62d: not written by this session
import Derived.Test.YtpoedalbgcpgjaaPWordTagsx0
import Derived.Test.YtpoedalbgcpgjaaPWordTagsx1
namespace Go.Proofs.Ytpoedalbgcpgjaa.PWordTags
open Go.RowKit Go.Proofs.YtpoedalbgcpgjaaW.PrintWords Go.Proofs.YtpoedalbgcpgjaaW.PrintLast Go.Proofs.YtpoedalbgcpgjaaW.PrintMore
attribute [local go_sem] max2_int min2_int max_two min_two max_three min_three max_four min_four   -- for this text's walks alone
set_option linter.unusedVariables false
set_option linter.unusedSimpArgs false

/-! ### casketlaw1_WordTags: function 3 -/
def casketlaw1_WordTags.j0 : Nat → Int → Int → Int → Int → Bool → Option (Bool)
  | 0, _, _, _, _, _ => none
  | k + 1, x0, x3, x4, x10, x28 => if x28 = true then (if (x0 / 2251799813685248) = 8191 then (if x4 = 0 then ((casketlaw1_awake.f k).bind fun t113 => (some t113)) else (some false)) else (some false)) else (if x10 = 2 then (if (x0 / 2251799813685248) = 8191 then (if x4 = 1 then ((casketlaw1_awake.f k).bind fun t114 => (some t114)) else (some false)) else (some false)) else (if x10 = 5 then (if (x0 / 2251799813685248) = 8191 then (if x4 = 2 then ((casketlaw1_awake.f k).bind fun t115 => (some t115)) else (some false)) else (some false)) else (if x10 = 6 then (if (x0 / 2251799813685248) = 8191 then (if x4 = 3 then ((casketlaw1_awake.f k).bind fun t116 => (some t116)) else (some false)) else (some false)) else (if x3 = 7 then (if (Go.bits .and .u64 x0 9218868437227405312) = 9218868437227405312 then (if (Go.bits .and .u64 x0 4503599627370495) = 0 then (some false) else ((casketlaw1_awake.f k).bind fun t117 => (some t117))) else (some false)) else (some false)))))
def casketlaw1_WordTags.f (k : Nat) (a0 : Int) : Option (Bool) := (word_Class.f k a0).bind fun t109 => (if t109 = 1 then (if (Go.bits .and .u64 a0 9218868437227405312) = 9218868437227405312 then (if (Go.bits .and .u64 a0 4503599627370495) = 0 then ((casketlaw1_awake.f k).bind fun t110 => (some t110)) else (if a0 = 9221120237041090560 then ((casketlaw1_awake.f k).bind fun t111 => (some t111)) else (some false))) else ((casketlaw1_awake.f k).bind fun t112 => (some t112))) else (if t109 = 3 then (casketlaw1_WordTags.j0 k a0 t109 (Go.bits .and .u64 (a0 / 281474976710656) 7) t109 (t109 == 3)) else (casketlaw1_WordTags.j0 k a0 t109 (Go.bits .and .u64 (a0 / 281474976710656) 7) t109 (t109 == 4))))
theorem casketlaw1_WordTags.mono_l : ∀ k, (∀ y0 y1 y2 y3 y4, LeO (casketlaw1_WordTags.j0 k y0 y1 y2 y3 y4) (casketlaw1_WordTags.j0 (k + 1) y0 y1 y2 y3 y4))
  | 0 => fun _ _ _ _ _ r h => by simp [casketlaw1_WordTags.j0] at h
  | k + 1 => by
    have ih0 := casketlaw1_WordTags.mono_l k
    · intro y0 y1 y2 y3 y4
      unfold casketlaw1_WordTags.j0
      repeat' first
      | (with_reducible exact ih0 _ _ _ _ _)
      | (with_reducible exact casketlaw1_awake.mono _)
      | (with_reducible exact word_Class.mono _ _)
      | (with_reducible exact LeO.refl _)
      | (with_reducible exact LeO.none _)
      | (with_reducible refine LeO.ite ?_ ?_)
      | (with_reducible refine LeO.bind ?_ (fun _ => ?_))
      | exact ih0 _ _ _ _ _
      | exact casketlaw1_awake.mono _
      | exact word_Class.mono _ _
      | exact LeO.none _
      | refine LeO.ite ?_ ?_
      | refine LeO.bind ?_ (fun _ => ?_)
theorem casketlaw1_WordTags.mono : ∀ a0 k, LeO (casketlaw1_WordTags.f k a0) (casketlaw1_WordTags.f (k + 1) a0) := by
  intro a0 k
  have ih0 := casketlaw1_WordTags.mono_l k
  unfold casketlaw1_WordTags.f
  repeat' first
      | (with_reducible exact ih0 _ _ _ _ _)
      | (with_reducible exact casketlaw1_awake.mono _)
      | (with_reducible exact word_Class.mono _ _)
      | (with_reducible exact LeO.refl _)
      | (with_reducible exact LeO.none _)
      | (with_reducible refine LeO.ite ?_ ?_)
      | (with_reducible refine LeO.bind ?_ (fun _ => ?_))
      | exact ih0 _ _ _ _ _
      | exact casketlaw1_awake.mono _
      | exact word_Class.mono _ _
      | exact LeO.none _
      | refine LeO.ite ?_ ?_
      | refine LeO.bind ?_ (fun _ => ?_)
set_option maxHeartbeats 8000000 in
set_option maxRecDepth 100000 in
theorem casketlaw1_WordTags.calls (k : Nat) (a0 : Int) (r : Bool) (w : World) (h : casketlaw1_WordTags.f k a0 = some r) :
    Calls Try.prog 3 #[.int .u64 a0] w fun e w' => e = .returned (.bool r) ∧ Drawn0 w w' := by
  have H : ((word_Class.f k a0).bind fun t109 => (if t109 = 1 then (if (Go.bits .and .u64 a0 9218868437227405312) = 9218868437227405312 then (if (Go.bits .and .u64 a0 4503599627370495) = 0 then ((casketlaw1_awake.f k).bind fun t110 => (some t110)) else (if a0 = 9221120237041090560 then ((casketlaw1_awake.f k).bind fun t111 => (some t111)) else (some false))) else ((casketlaw1_awake.f k).bind fun t112 => (some t112))) else (if t109 = 3 then (casketlaw1_WordTags.j0 k a0 t109 (Go.bits .and .u64 (a0 / 281474976710656) 7) t109 (t109 == 3)) else (casketlaw1_WordTags.j0 k a0 t109 (Go.bits .and .u64 (a0 / 281474976710656) 7) t109 (t109 == 4))))) = some r := h
  clear h
  replace H := Option.bind_eq_some_iff.mp H
  obtain ⟨t109, A20, H⟩ := H
  replace H : (if t109 = 1 then (if (Go.bits .and .u64 a0 9218868437227405312) = 9218868437227405312 then (if (Go.bits .and .u64 a0 4503599627370495) = 0 then ((casketlaw1_awake.f k).bind fun t110 => (some t110)) else (if a0 = 9221120237041090560 then ((casketlaw1_awake.f k).bind fun t111 => (some t111)) else (some false))) else ((casketlaw1_awake.f k).bind fun t112 => (some t112))) else (if t109 = 3 then (casketlaw1_WordTags.j0 k a0 t109 (Go.bits .and .u64 (a0 / 281474976710656) 7) t109 (t109 == 3)) else (casketlaw1_WordTags.j0 k a0 t109 (Go.bits .and .u64 (a0 / 281474976710656) 7) t109 (t109 == 4)))) = some r := H
  have A2 := Aside0.mk A20
  clear A20
  by_cases c3 : t109 = 1
  · rw [if_pos c3] at H
    have c3b0 : (t109 == 1) = true := beq_iff_eq.mpr c3
    have c3b1 : (t109 != 1) = false := bne_eq_false_iff_eq.mpr c3
    clear c3
    by_cases c4 : (Go.bits .and .u64 a0 9218868437227405312) = 9218868437227405312
    · rw [if_pos c4] at H
      have c4b0 : ((Go.bits .and .u64 a0 9218868437227405312) == 9218868437227405312) = true := beq_iff_eq.mpr c4
      have c4b1 : ((Go.bits .and .u64 a0 9218868437227405312) != 9218868437227405312) = false := bne_eq_false_iff_eq.mpr c4
      clear c4
      by_cases c5 : (Go.bits .and .u64 a0 4503599627370495) = 0
      · rw [if_pos c5] at H
        have c5b0 : ((Go.bits .and .u64 a0 4503599627370495) == 0) = true := beq_iff_eq.mpr c5
        have c5b1 : ((Go.bits .and .u64 a0 4503599627370495) != 0) = false := bne_eq_false_iff_eq.mpr c5
        clear c5
        replace H := Option.bind_eq_some_iff.mp H
        obtain ⟨t110, A60, H⟩ := H
        replace H : (some t110) = some r := H
        have A6 := Aside0.mk A60
        clear A60
        obtain rfl := Option.some.inj H
        go_enter Try.func3, Try.ntmps3
        go_wp2_with (first | ((with_reducible refine gate_callee (f := 14) rfl ?_); refine goesL_ (some 6) rfl rfl Try.func14 (by kernel_rfl) rfl #[.int .u64 a0] rfl (by (try simp only [List.map_toArray, List.map_cons, List.map_nil]); first | done | rfl | (simp only [List.length_drop, List.length_take]; rfl)) ?_; (with_reducible refine (word_Class.calls k a0 t109 _ A2.out).mono ?_); rintro e w' ⟨rfl, ⟨nd, rfl⟩⟩; refine ⟨_, rfl, ?_⟩) | (go_at_call 15; (with_reducible refine (casketlaw1_awake.calls k  t110 _ A6.out).mono ?_); rintro e w' ⟨rfl, ⟨nd, rfl⟩⟩))
        go_ret
        exact ⟨by first | rfl | (simp; done) | (simp [*]; done), by repeat (first | exact Drawn0.refl _ | apply Drawn0.step)⟩
      · rw [if_neg c5] at H
        have c5b0 : ((Go.bits .and .u64 a0 4503599627370495) == 0) = false := beq_eq_false_iff_ne.mpr c5
        have c5b1 : ((Go.bits .and .u64 a0 4503599627370495) != 0) = true := bne_iff_ne.mpr c5
        by_cases c7 : a0 = 9221120237041090560
        · rw [if_pos c7] at H
          have c7b0 : (a0 == 9221120237041090560) = true := beq_iff_eq.mpr c7
          have c7b1 : (a0 != 9221120237041090560) = false := bne_eq_false_iff_eq.mpr c7
          clear c7
          replace H := Option.bind_eq_some_iff.mp H
          obtain ⟨t111, A80, H⟩ := H
          replace H : (some t111) = some r := H
          have A8 := Aside0.mk A80
          clear A80
          obtain rfl := Option.some.inj H
          go_enter Try.func3, Try.ntmps3
          go_wp2_with (first | ((with_reducible refine gate_callee (f := 14) rfl ?_); refine goesL_ (some 6) rfl rfl Try.func14 (by kernel_rfl) rfl #[.int .u64 a0] rfl (by (try simp only [List.map_toArray, List.map_cons, List.map_nil]); first | done | rfl | (simp only [List.length_drop, List.length_take]; rfl)) ?_; (with_reducible refine (word_Class.calls k a0 t109 _ A2.out).mono ?_); rintro e w' ⟨rfl, ⟨nd, rfl⟩⟩; refine ⟨_, rfl, ?_⟩) | (go_at_call 15; (with_reducible refine (casketlaw1_awake.calls k  t111 _ A8.out).mono ?_); rintro e w' ⟨rfl, ⟨nd, rfl⟩⟩))
          go_ret
          exact ⟨by first | rfl | (simp; done) | (simp [*]; done), by repeat (first | exact Drawn0.refl _ | apply Drawn0.step)⟩
        · rw [if_neg c7] at H
          have c7b0 : (a0 == 9221120237041090560) = false := beq_eq_false_iff_ne.mpr c7
          have c7b1 : (a0 != 9221120237041090560) = true := bne_iff_ne.mpr c7
          obtain rfl := Option.some.inj H
          go_enter Try.func3, Try.ntmps3
          go_wp2_with (first | ((with_reducible refine gate_callee (f := 14) rfl ?_); refine goesL_ (some 6) rfl rfl Try.func14 (by kernel_rfl) rfl #[.int .u64 a0] rfl (by (try simp only [List.map_toArray, List.map_cons, List.map_nil]); first | done | rfl | (simp only [List.length_drop, List.length_take]; rfl)) ?_; (with_reducible refine (word_Class.calls k a0 t109 _ A2.out).mono ?_); rintro e w' ⟨rfl, ⟨nd, rfl⟩⟩; refine ⟨_, rfl, ?_⟩))
          go_ret
          exact ⟨by first | rfl | (simp; done) | (simp [*]; done), by repeat (first | exact Drawn0.refl _ | apply Drawn0.step)⟩
    · rw [if_neg c4] at H
      have c4b0 : ((Go.bits .and .u64 a0 9218868437227405312) == 9218868437227405312) = false := beq_eq_false_iff_ne.mpr c4
      have c4b1 : ((Go.bits .and .u64 a0 9218868437227405312) != 9218868437227405312) = true := bne_iff_ne.mpr c4
      replace H := Option.bind_eq_some_iff.mp H
      obtain ⟨t112, A90, H⟩ := H
      replace H : (some t112) = some r := H
      have A9 := Aside0.mk A90
      clear A90
      obtain rfl := Option.some.inj H
      go_enter Try.func3, Try.ntmps3
      go_wp2_with (first | ((with_reducible refine gate_callee (f := 14) rfl ?_); refine goesL_ (some 6) rfl rfl Try.func14 (by kernel_rfl) rfl #[.int .u64 a0] rfl (by (try simp only [List.map_toArray, List.map_cons, List.map_nil]); first | done | rfl | (simp only [List.length_drop, List.length_take]; rfl)) ?_; (with_reducible refine (word_Class.calls k a0 t109 _ A2.out).mono ?_); rintro e w' ⟨rfl, ⟨nd, rfl⟩⟩; refine ⟨_, rfl, ?_⟩) | (go_at_call 15; (with_reducible refine (casketlaw1_awake.calls k  t112 _ A9.out).mono ?_); rintro e w' ⟨rfl, ⟨nd, rfl⟩⟩))
      go_ret
      exact ⟨by first | rfl | (simp; done) | (simp [*]; done), by repeat (first | exact Drawn0.refl _ | apply Drawn0.step)⟩
  · rw [if_neg c3] at H
    have c3b0 : (t109 == 1) = false := beq_eq_false_iff_ne.mpr c3
    have c3b1 : (t109 != 1) = true := bne_iff_ne.mpr c3
    have HC10 := Aside0.mk H
    clear H
    go_enter Try.func3, Try.ntmps3
    go_upto_if 28 with (first | ((with_reducible refine gate_callee (f := 14) rfl ?_); refine goesL_ (some 6) rfl rfl Try.func14 (by kernel_rfl) rfl #[.int .u64 a0] rfl (by (try simp only [List.map_toArray, List.map_cons, List.map_nil]); first | done | rfl | (simp only [List.length_drop, List.length_take]; rfl)) ?_; (with_reducible refine (word_Class.calls k a0 t109 _ A2.out).mono ?_); rintro e w' ⟨rfl, ⟨nd, rfl⟩⟩; refine ⟨_, rfl, ?_⟩))
    (try simp only [Act.put, List.setIfInBounds_toArray, List.set_cons_zero, List.set_cons_succ])
    go_cut [28] (fun v28 wc => ∃ (kq : Nat) (x28_9 : Bool), v28 = .bool x28_9 ∧ Aside0 (casketlaw1_WordTags.j0 kq a0 t109 (Go.bits .and .u64 (a0 / 281474976710656) 7) t109 x28_9 = some r) ∧ Aside0 (kq ≤ k) ∧ Drawn0 w wc)
    case first =>
      have H := HC10.out
      clear HC10
      by_cases c11 : t109 = 3
      · rw [if_pos c11] at H
        have c11b0 : (t109 == 3) = true := beq_iff_eq.mpr c11
        have c11b1 : (t109 != 3) = false := bne_eq_false_iff_eq.mpr c11
        clear c11
        (first | rw [c11b0] | (simp only [i64_w, i32_w]; rw [c11b0]) | skip)
        have H' := Aside0.mk H
        clear H
        go_wp2
        go_meet
        case rel => exact ⟨_, ((t109 == 3)), (by first | rfl | (simp; done) | (simp [*]; done)), H', ⟨by first | omega | exact Nat.le_refl _⟩, by repeat (first | exact Drawn0.refl _ | apply Drawn0.step)⟩
      · rw [if_neg c11] at H
        have c11b0 : (t109 == 3) = false := beq_eq_false_iff_ne.mpr c11
        have c11b1 : (t109 != 3) = true := bne_iff_ne.mpr c11
        (first | rw [c11b0] | (simp only [i64_w, i32_w]; rw [c11b0]) | skip)
        have H' := Aside0.mk H
        clear H
        go_wp2
        go_meet
        case rel => exact ⟨_, ((t109 == 4)), (by first | rfl | (simp; done) | (simp [*]; done)), H', ⟨by first | omega | exact Nat.le_refl _⟩, by repeat (first | exact Drawn0.refl _ | apply Drawn0.step)⟩
    case rest =>
      clear HC10
      try clear c1
      try clear p2
      try clear c3
      try clear c3b0
      try clear c3b1
      try clear c4
      try clear c4b0
      try clear c4b1
      try clear c5
      try clear c5b0
      try clear c5b1
      try clear c7
      try clear c7b0
      try clear c7b1
      try clear c11
      try clear c11b0
      try clear c11b1
      obtain ⟨kq, x28_9, rfl, HA, HJ9, ⟨mc9, rfl⟩⟩ := hcut
      cases kq with
      | zero => exact absurd HA.out (by simp [casketlaw1_WordTags.j0])
      | succ kj9 =>
        have H := HA.out
        clear HA
        simp only [casketlaw1_WordTags.j0] at H
        by_cases c12 : x28_9 = true
        · subst c12
          have H1 : (if (a0 / 2251799813685248) = 8191 then (if (Go.bits .and .u64 (a0 / 281474976710656) 7) = 0 then ((casketlaw1_awake.f kj9).bind fun t113 => (some t113)) else (some false)) else (some false)) = some r := by rw [if_pos rfl] at H; exact H
          clear H
          have H := H1
          clear H1
          by_cases c13 : (a0 / 2251799813685248) = 8191
          · rw [if_pos c13] at H
            have c13b0 : ((a0 / 2251799813685248) == 8191) = true := beq_iff_eq.mpr c13
            have c13b1 : ((a0 / 2251799813685248) != 8191) = false := bne_eq_false_iff_eq.mpr c13
            clear c13
            by_cases c14 : (Go.bits .and .u64 (a0 / 281474976710656) 7) = 0
            · rw [if_pos c14] at H
              have c14b0 : ((Go.bits .and .u64 (a0 / 281474976710656) 7) == 0) = true := beq_iff_eq.mpr c14
              have c14b1 : ((Go.bits .and .u64 (a0 / 281474976710656) 7) != 0) = false := bne_eq_false_iff_eq.mpr c14
              clear c14
              replace H := Option.bind_eq_some_iff.mp H
              obtain ⟨t113, A150, H⟩ := H
              replace H : (some t113) = some r := H
              have A15 := Aside0.mk A150
              clear A150
              obtain rfl := Option.some.inj H
              go_wp2_with (first | (go_at_call 15; (with_reducible refine (casketlaw1_awake.calls kj9  t113 _ A15.out).mono ?_); rintro e w' ⟨rfl, ⟨nd, rfl⟩⟩))
              go_ret
              exact ⟨by first | rfl | (simp; done) | (simp [*]; done), by repeat (first | exact Drawn0.refl _ | apply Drawn0.step)⟩
            · rw [if_neg c14] at H
              have c14b0 : ((Go.bits .and .u64 (a0 / 281474976710656) 7) == 0) = false := beq_eq_false_iff_ne.mpr c14
              have c14b1 : ((Go.bits .and .u64 (a0 / 281474976710656) 7) != 0) = true := bne_iff_ne.mpr c14
              obtain rfl := Option.some.inj H
              go_wp2
              go_ret
              exact ⟨by first | rfl | (simp; done) | (simp [*]; done), by repeat (first | exact Drawn0.refl _ | apply Drawn0.step)⟩
          · rw [if_neg c13] at H
            have c13b0 : ((a0 / 2251799813685248) == 8191) = false := beq_eq_false_iff_ne.mpr c13
            have c13b1 : ((a0 / 2251799813685248) != 8191) = true := bne_iff_ne.mpr c13
            obtain rfl := Option.some.inj H
            go_wp2
            go_ret
            exact ⟨by first | rfl | (simp; done) | (simp [*]; done), by repeat (first | exact Drawn0.refl _ | apply Drawn0.step)⟩
        · replace c12 := Bool.eq_false_iff.mpr c12
          subst c12
          have H1 : (if t109 = 2 then (if (a0 / 2251799813685248) = 8191 then (if (Go.bits .and .u64 (a0 / 281474976710656) 7) = 1 then ((casketlaw1_awake.f kj9).bind fun t114 => (some t114)) else (some false)) else (some false)) else (if t109 = 5 then (if (a0 / 2251799813685248) = 8191 then (if (Go.bits .and .u64 (a0 / 281474976710656) 7) = 2 then ((casketlaw1_awake.f kj9).bind fun t115 => (some t115)) else (some false)) else (some false)) else (if t109 = 6 then (if (a0 / 2251799813685248) = 8191 then (if (Go.bits .and .u64 (a0 / 281474976710656) 7) = 3 then ((casketlaw1_awake.f kj9).bind fun t116 => (some t116)) else (some false)) else (some false)) else (if t109 = 7 then (if (Go.bits .and .u64 a0 9218868437227405312) = 9218868437227405312 then (if (Go.bits .and .u64 a0 4503599627370495) = 0 then (some false) else ((casketlaw1_awake.f kj9).bind fun t117 => (some t117))) else (some false)) else (some false))))) = some r := by rw [if_neg (show ¬ (false = true) by decide)] at H; exact H
          clear H
          have H := H1
          clear H1
          by_cases c16 : t109 = 2
          · rw [if_pos c16] at H
            have c16b0 : (t109 == 2) = true := beq_iff_eq.mpr c16
            have c16b1 : (t109 != 2) = false := bne_eq_false_iff_eq.mpr c16
            clear c16
            by_cases c17 : (a0 / 2251799813685248) = 8191
            · rw [if_pos c17] at H
              have c17b0 : ((a0 / 2251799813685248) == 8191) = true := beq_iff_eq.mpr c17
              have c17b1 : ((a0 / 2251799813685248) != 8191) = false := bne_eq_false_iff_eq.mpr c17
              clear c17
              by_cases c18 : (Go.bits .and .u64 (a0 / 281474976710656) 7) = 1
              · rw [if_pos c18] at H
                have c18b0 : ((Go.bits .and .u64 (a0 / 281474976710656) 7) == 1) = true := beq_iff_eq.mpr c18
                have c18b1 : ((Go.bits .and .u64 (a0 / 281474976710656) 7) != 1) = false := bne_eq_false_iff_eq.mpr c18
                clear c18
                replace H := Option.bind_eq_some_iff.mp H
                obtain ⟨t114, A190, H⟩ := H
                replace H : (some t114) = some r := H
                have A19 := Aside0.mk A190
                clear A190
                obtain rfl := Option.some.inj H
                go_wp2_with (first | (go_at_call 15; (with_reducible refine (casketlaw1_awake.calls kj9  t114 _ A19.out).mono ?_); rintro e w' ⟨rfl, ⟨nd, rfl⟩⟩))
                go_ret
                exact ⟨by first | rfl | (simp; done) | (simp [*]; done), by repeat (first | exact Drawn0.refl _ | apply Drawn0.step)⟩
              · rw [if_neg c18] at H
                have c18b0 : ((Go.bits .and .u64 (a0 / 281474976710656) 7) == 1) = false := beq_eq_false_iff_ne.mpr c18
                have c18b1 : ((Go.bits .and .u64 (a0 / 281474976710656) 7) != 1) = true := bne_iff_ne.mpr c18
                obtain rfl := Option.some.inj H
                go_wp2
                go_ret
                exact ⟨by first | rfl | (simp; done) | (simp [*]; done), by repeat (first | exact Drawn0.refl _ | apply Drawn0.step)⟩
            · rw [if_neg c17] at H
              have c17b0 : ((a0 / 2251799813685248) == 8191) = false := beq_eq_false_iff_ne.mpr c17
              have c17b1 : ((a0 / 2251799813685248) != 8191) = true := bne_iff_ne.mpr c17
              obtain rfl := Option.some.inj H
              go_wp2
              go_ret
              exact ⟨by first | rfl | (simp; done) | (simp [*]; done), by repeat (first | exact Drawn0.refl _ | apply Drawn0.step)⟩
          · rw [if_neg c16] at H
            have c16b0 : (t109 == 2) = false := beq_eq_false_iff_ne.mpr c16
            have c16b1 : (t109 != 2) = true := bne_iff_ne.mpr c16
            by_cases c20 : t109 = 5
            · rw [if_pos c20] at H
              have c20b0 : (t109 == 5) = true := beq_iff_eq.mpr c20
              have c20b1 : (t109 != 5) = false := bne_eq_false_iff_eq.mpr c20
              clear c20
              by_cases c21 : (a0 / 2251799813685248) = 8191
              · rw [if_pos c21] at H
                have c21b0 : ((a0 / 2251799813685248) == 8191) = true := beq_iff_eq.mpr c21
                have c21b1 : ((a0 / 2251799813685248) != 8191) = false := bne_eq_false_iff_eq.mpr c21
                clear c21
                by_cases c22 : (Go.bits .and .u64 (a0 / 281474976710656) 7) = 2
                · rw [if_pos c22] at H
                  have c22b0 : ((Go.bits .and .u64 (a0 / 281474976710656) 7) == 2) = true := beq_iff_eq.mpr c22
                  have c22b1 : ((Go.bits .and .u64 (a0 / 281474976710656) 7) != 2) = false := bne_eq_false_iff_eq.mpr c22
                  clear c22
                  replace H := Option.bind_eq_some_iff.mp H
                  obtain ⟨t115, A230, H⟩ := H
                  replace H : (some t115) = some r := H
                  have A23 := Aside0.mk A230
                  clear A230
                  obtain rfl := Option.some.inj H
                  go_wp2_with (first | (go_at_call 15; (with_reducible refine (casketlaw1_awake.calls kj9  t115 _ A23.out).mono ?_); rintro e w' ⟨rfl, ⟨nd, rfl⟩⟩))
                  go_ret
                  exact ⟨by first | rfl | (simp; done) | (simp [*]; done), by repeat (first | exact Drawn0.refl _ | apply Drawn0.step)⟩
                · rw [if_neg c22] at H
                  have c22b0 : ((Go.bits .and .u64 (a0 / 281474976710656) 7) == 2) = false := beq_eq_false_iff_ne.mpr c22
                  have c22b1 : ((Go.bits .and .u64 (a0 / 281474976710656) 7) != 2) = true := bne_iff_ne.mpr c22
                  obtain rfl := Option.some.inj H
                  go_wp2
                  go_ret
                  exact ⟨by first | rfl | (simp; done) | (simp [*]; done), by repeat (first | exact Drawn0.refl _ | apply Drawn0.step)⟩
              · rw [if_neg c21] at H
                have c21b0 : ((a0 / 2251799813685248) == 8191) = false := beq_eq_false_iff_ne.mpr c21
                have c21b1 : ((a0 / 2251799813685248) != 8191) = true := bne_iff_ne.mpr c21
                obtain rfl := Option.some.inj H
                go_wp2
                go_ret
                exact ⟨by first | rfl | (simp; done) | (simp [*]; done), by repeat (first | exact Drawn0.refl _ | apply Drawn0.step)⟩
            · rw [if_neg c20] at H
              have c20b0 : (t109 == 5) = false := beq_eq_false_iff_ne.mpr c20
              have c20b1 : (t109 != 5) = true := bne_iff_ne.mpr c20
              by_cases c24 : t109 = 6
              · rw [if_pos c24] at H
                have c24b0 : (t109 == 6) = true := beq_iff_eq.mpr c24
                have c24b1 : (t109 != 6) = false := bne_eq_false_iff_eq.mpr c24
                clear c24
                by_cases c25 : (a0 / 2251799813685248) = 8191
                · rw [if_pos c25] at H
                  have c25b0 : ((a0 / 2251799813685248) == 8191) = true := beq_iff_eq.mpr c25
                  have c25b1 : ((a0 / 2251799813685248) != 8191) = false := bne_eq_false_iff_eq.mpr c25
                  clear c25
                  by_cases c26 : (Go.bits .and .u64 (a0 / 281474976710656) 7) = 3
                  · rw [if_pos c26] at H
                    have c26b0 : ((Go.bits .and .u64 (a0 / 281474976710656) 7) == 3) = true := beq_iff_eq.mpr c26
                    have c26b1 : ((Go.bits .and .u64 (a0 / 281474976710656) 7) != 3) = false := bne_eq_false_iff_eq.mpr c26
                    clear c26
                    replace H := Option.bind_eq_some_iff.mp H
                    obtain ⟨t116, A270, H⟩ := H
                    replace H : (some t116) = some r := H
                    have A27 := Aside0.mk A270
                    clear A270
                    obtain rfl := Option.some.inj H
                    go_wp2_with (first | (go_at_call 15; (with_reducible refine (casketlaw1_awake.calls kj9  t116 _ A27.out).mono ?_); rintro e w' ⟨rfl, ⟨nd, rfl⟩⟩))
                    go_ret
                    exact ⟨by first | rfl | (simp; done) | (simp [*]; done), by repeat (first | exact Drawn0.refl _ | apply Drawn0.step)⟩
                  · rw [if_neg c26] at H
                    have c26b0 : ((Go.bits .and .u64 (a0 / 281474976710656) 7) == 3) = false := beq_eq_false_iff_ne.mpr c26
                    have c26b1 : ((Go.bits .and .u64 (a0 / 281474976710656) 7) != 3) = true := bne_iff_ne.mpr c26
                    obtain rfl := Option.some.inj H
                    go_wp2
                    go_ret
                    exact ⟨by first | rfl | (simp; done) | (simp [*]; done), by repeat (first | exact Drawn0.refl _ | apply Drawn0.step)⟩
                · rw [if_neg c25] at H
                  have c25b0 : ((a0 / 2251799813685248) == 8191) = false := beq_eq_false_iff_ne.mpr c25
                  have c25b1 : ((a0 / 2251799813685248) != 8191) = true := bne_iff_ne.mpr c25
                  obtain rfl := Option.some.inj H
                  go_wp2
                  go_ret
                  exact ⟨by first | rfl | (simp; done) | (simp [*]; done), by repeat (first | exact Drawn0.refl _ | apply Drawn0.step)⟩
              · rw [if_neg c24] at H
                have c24b0 : (t109 == 6) = false := beq_eq_false_iff_ne.mpr c24
                have c24b1 : (t109 != 6) = true := bne_iff_ne.mpr c24
                by_cases c28 : t109 = 7
                · rw [if_pos c28] at H
                  have c28b0 : (t109 == 7) = true := beq_iff_eq.mpr c28
                  have c28b1 : (t109 != 7) = false := bne_eq_false_iff_eq.mpr c28
                  clear c28
                  by_cases c29 : (Go.bits .and .u64 a0 9218868437227405312) = 9218868437227405312
                  · rw [if_pos c29] at H
                    have c29b0 : ((Go.bits .and .u64 a0 9218868437227405312) == 9218868437227405312) = true := beq_iff_eq.mpr c29
                    have c29b1 : ((Go.bits .and .u64 a0 9218868437227405312) != 9218868437227405312) = false := bne_eq_false_iff_eq.mpr c29
                    clear c29
                    by_cases c30 : (Go.bits .and .u64 a0 4503599627370495) = 0
                    · rw [if_pos c30] at H
                      have c30b0 : ((Go.bits .and .u64 a0 4503599627370495) == 0) = true := beq_iff_eq.mpr c30
                      have c30b1 : ((Go.bits .and .u64 a0 4503599627370495) != 0) = false := bne_eq_false_iff_eq.mpr c30
                      clear c30
                      obtain rfl := Option.some.inj H
                      go_wp2
                      go_ret
                      exact ⟨by first | rfl | (simp; done) | (simp [*]; done), by repeat (first | exact Drawn0.refl _ | apply Drawn0.step)⟩
                    · rw [if_neg c30] at H
                      have c30b0 : ((Go.bits .and .u64 a0 4503599627370495) == 0) = false := beq_eq_false_iff_ne.mpr c30
                      have c30b1 : ((Go.bits .and .u64 a0 4503599627370495) != 0) = true := bne_iff_ne.mpr c30
                      replace H := Option.bind_eq_some_iff.mp H
                      obtain ⟨t117, A310, H⟩ := H
                      replace H : (some t117) = some r := H
                      have A31 := Aside0.mk A310
                      clear A310
                      obtain rfl := Option.some.inj H
                      go_wp2_with (first | (go_at_call 15; (with_reducible refine (casketlaw1_awake.calls kj9  t117 _ A31.out).mono ?_); rintro e w' ⟨rfl, ⟨nd, rfl⟩⟩))
                      go_ret
                      exact ⟨by first | rfl | (simp; done) | (simp [*]; done), by repeat (first | exact Drawn0.refl _ | apply Drawn0.step)⟩
                  · rw [if_neg c29] at H
                    have c29b0 : ((Go.bits .and .u64 a0 9218868437227405312) == 9218868437227405312) = false := beq_eq_false_iff_ne.mpr c29
                    have c29b1 : ((Go.bits .and .u64 a0 9218868437227405312) != 9218868437227405312) = true := bne_iff_ne.mpr c29
                    obtain rfl := Option.some.inj H
                    go_wp2
                    go_ret
                    exact ⟨by first | rfl | (simp; done) | (simp [*]; done), by repeat (first | exact Drawn0.refl _ | apply Drawn0.step)⟩
                · rw [if_neg c28] at H
                  have c28b0 : (t109 == 7) = false := beq_eq_false_iff_ne.mpr c28
                  have c28b1 : (t109 != 7) = true := bne_iff_ne.mpr c28
                  obtain rfl := Option.some.inj H
                  go_wp2
                  go_ret
                  exact ⟨by first | rfl | (simp; done) | (simp [*]; done), by repeat (first | exact Drawn0.refl _ | apply Drawn0.step)⟩

/-- THE ONE PURE STATEMENT of casketlaw1_WordTags: yours. -/
def casketlaw1_WordTags.Pure : Prop := ∀ (a0 : Int), (Lit.int .u64 a0).wf = true → ∃ k, casketlaw1_WordTags.f k a0 = some true
theorem casketlaw1_WordTags.walk (P : casketlaw1_WordTags.Pure) (a0 : Int) (w : World) (w0 : (Lit.int .u64 a0).wf = true) :
    Calls Try.prog 3 #[.int .u64 a0] w fun e w' => e = .returned (.bool true) ∧ Below w.heap.size w w' := by
  obtain ⟨k, h⟩ := P a0 w0
  refine (casketlaw1_WordTags.calls k a0 true w h).mono ?_
  rintro e w' ⟨rfl, hd⟩
  exact ⟨rfl, hd.below⟩

end Go.Proofs.Ytpoedalbgcpgjaa.PWordTags

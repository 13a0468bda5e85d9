-- PRINTED BY print.sh 35421559b90ae4d0a3588c463048766b98c2df88dd9212a6774a882060cdf62d: not written by this session
import Derived.Test.YtpoedalbgcpgjaaPWordClassesx0
namespace Go.Proofs.Ytpoedalbgcpgjaa.PWordClasses
open Go.RowKit Go.Proofs.YtpoedalbgcpgjaaW.PrintWords Go.Proofs.YtpoedalbgcpgjaaW.PrintLast Go.Proofs.YtpoedalbgcpgjaaW.PrintMore
attribute [local go_sem] max2_int min2_int max_two min_two max_three min_three max_four min_four   -- for this text's walks alone
set_option linter.unusedVariables false
set_option linter.unusedSimpArgs false

/-! ### word_nan: function 46 -/
def word_nan.f (a0 : Int) : Option (Bool) := some (decide ((IntKind.u64.wrap (a0 * 2)) > 18437736874454810624))
set_option maxHeartbeats 8000000 in
set_option maxRecDepth 100000 in
theorem word_nan.calls (a0 : Int) (r : Bool) (w : World) (h : word_nan.f a0 = some r) :
    Calls Try.prog 46 #[.int .u64 a0] w fun e w' => e = .returned (.bool r) ∧ Drawn0 w w' := by
  have H : (some (decide ((IntKind.u64.wrap (a0 * 2)) > 18437736874454810624))) = some r := h
  clear h
  obtain rfl := Option.some.inj H
  go_enter Try.func46, Try.ntmps46
  go_wp2
  go_ret
  exact ⟨by first | rfl | (simp; done) | (simp [*]; done), by repeat (first | exact Drawn0.refl _ | apply Drawn0.step)⟩

/-! ### word_Class: function 14 -/
def word_Class.j0 : Nat → Int → Int → Bool → Option (Int)
  | 0, _, _, _ => none
  | k + 1, x0, x3, x7 => if x7 = true then (some 1) else (if (x0 / 2251799813685248) = 8191 then (if (Go.bits .and .u64 (x0 / 281474976710656) 7) = 0 then (if x3 = 0 then (some 3) else (if x3 = 1 then (some 4) else (if x3 = 2 then (some 4) else (some 7)))) else (if (Go.bits .and .u64 (x0 / 281474976710656) 7) = 1 then (some 2) else (if (Go.bits .and .u64 (x0 / 281474976710656) 7) = 2 then (if (x3 / 1099511627776) ≤ 5 then (if 0 ≤ (IntKind.u64.wrap (8 * (x3 / 1099511627776))) then (if (shr .u64 (Go.bits .and .u64 x3 1099511627775) (IntKind.u64.wrap (8 * (x3 / 1099511627776)))) = 0 then (some 5) else (some 7)) else (none)) else (some 7)) else (if (Go.bits .and .u64 (x0 / 281474976710656) 7) = 3 then (some 6) else (some 7))))) else (some 7))
def word_Class.f (k : Nat) (a0 : Int) : Option (Int) := (word_nan.f a0).bind fun t101 => (if t101 = true then (word_Class.j0 k a0 (Go.bits .and .u64 a0 281474976710655) (a0 == 9221120237041090560)) else (word_Class.j0 k a0 (Go.bits .and .u64 a0 281474976710655) true))
theorem word_Class.mono_l : ∀ k, (∀ y0 y1 y2, LeO (word_Class.j0 k y0 y1 y2) (word_Class.j0 (k + 1) y0 y1 y2))
  | 0 => fun _ _ _ r h => by simp [word_Class.j0] at h
  | k + 1 => by
    have ih0 := word_Class.mono_l k
    · intro y0 y1 y2
      unfold word_Class.j0
      repeat' first
      | (with_reducible exact ih0 _ _ _)
      | (with_reducible exact LeO.refl _)
      | (with_reducible exact LeO.none _)
      | (with_reducible refine LeO.ite ?_ ?_)
      | (with_reducible refine LeO.bind ?_ (fun _ => ?_))
      | exact ih0 _ _ _
      | exact LeO.none _
      | refine LeO.ite ?_ ?_
      | refine LeO.bind ?_ (fun _ => ?_)
theorem word_Class.mono : ∀ a0 k, LeO (word_Class.f k a0) (word_Class.f (k + 1) a0) := by
  intro a0 k
  have ih0 := word_Class.mono_l k
  unfold word_Class.f
  repeat' first
      | (with_reducible exact ih0 _ _ _)
      | (with_reducible exact LeO.refl _)
      | (with_reducible exact LeO.none _)
      | (with_reducible refine LeO.ite ?_ ?_)
      | (with_reducible refine LeO.bind ?_ (fun _ => ?_))
      | exact ih0 _ _ _
      | exact LeO.none _
      | refine LeO.ite ?_ ?_
      | refine LeO.bind ?_ (fun _ => ?_)
set_option maxHeartbeats 8000000 in
set_option maxRecDepth 100000 in
theorem word_Class.calls (k : Nat) (a0 : Int) (r : Int) (w : World) (h : word_Class.f k a0 = some r) :
    Calls Try.prog 14 #[.int .u64 a0] w fun e w' => e = .returned (.int .i64 r) ∧ Drawn0 w w' := by
  have H : ((word_nan.f a0).bind fun t101 => (if t101 = true then (word_Class.j0 k a0 (Go.bits .and .u64 a0 281474976710655) (a0 == 9221120237041090560)) else (word_Class.j0 k a0 (Go.bits .and .u64 a0 281474976710655) true))) = some r := h
  clear h
  have HC2 := Aside0.mk H
  clear H
  go_enter Try.func14, Try.ntmps14
  go_upto_region 2 with (fail)
  go_cut [7] (fun v7 wc => ∃ (kq : Nat) (x7_1 : Bool), v7 = .bool x7_1 ∧ Aside0 (word_Class.j0 kq a0 (Go.bits .and .u64 a0 281474976710655) x7_1 = some r) ∧ Aside0 (kq ≤ k) ∧ Drawn0 w wc)
  case first =>
    have H := HC2.out
    clear HC2
    replace H := Option.bind_eq_some_iff.mp H
    obtain ⟨t101, A30, H⟩ := H
    replace H : (if t101 = true then (word_Class.j0 k a0 (Go.bits .and .u64 a0 281474976710655) (a0 == 9221120237041090560)) else (word_Class.j0 k a0 (Go.bits .and .u64 a0 281474976710655) true)) = some r := H
    have A3 := Aside0.mk A30
    clear A30
    by_cases c4 : t101 = true
    · subst c4
      have H1 : (word_Class.j0 k a0 (Go.bits .and .u64 a0 281474976710655) (a0 == 9221120237041090560)) = some r := by rw [if_pos rfl] at H; exact H
      clear H
      have H := H1
      clear H1
      have H' := Aside0.mk H
      clear H
      go_wp2_with (first | ((with_reducible refine gate_callee (f := 46) rfl ?_); refine goesL_ (some 9) rfl rfl Try.func46 (by kernel_rfl) rfl #[.int .u64 a0] rfl (by (try simp only [List.map_toArray, List.map_cons, List.map_nil]); first | done | rfl | (simp only [List.length_drop, List.length_take]; rfl)) ?_; (with_reducible refine (word_nan.calls a0 true _ A3.out).mono ?_); rintro e w' ⟨rfl, ⟨nd, rfl⟩⟩; refine ⟨_, rfl, ?_⟩))
      go_meet
      case rel => exact ⟨_, ((a0 == 9221120237041090560)), (by first | rfl | (simp; done) | (simp [*]; done)), H', ⟨by first | omega | exact Nat.le_refl _⟩, by repeat (first | exact Drawn0.refl _ | apply Drawn0.step)⟩
    · replace c4 := Bool.eq_false_iff.mpr c4
      subst c4
      have H1 : (word_Class.j0 k a0 (Go.bits .and .u64 a0 281474976710655) true) = some r := by rw [if_neg (show ¬ (false = true) by decide)] at H; exact H
      clear H
      have H := H1
      clear H1
      have H' := Aside0.mk H
      clear H
      go_wp2_with (first | ((with_reducible refine gate_callee (f := 46) rfl ?_); refine goesL_ (some 9) rfl rfl Try.func46 (by kernel_rfl) rfl #[.int .u64 a0] rfl (by (try simp only [List.map_toArray, List.map_cons, List.map_nil]); first | done | rfl | (simp only [List.length_drop, List.length_take]; rfl)) ?_; (with_reducible refine (word_nan.calls a0 false _ A3.out).mono ?_); rintro e w' ⟨rfl, ⟨nd, rfl⟩⟩; refine ⟨_, rfl, ?_⟩))
      go_meet
      case rel => exact ⟨_, (true), (by first | rfl | (simp; done) | (simp [*]; done)), H', ⟨by first | omega | exact Nat.le_refl _⟩, by repeat (first | exact Drawn0.refl _ | apply Drawn0.step)⟩
  case rest =>
    clear HC2
    try clear c1
    try clear p2
    try clear c4
    obtain ⟨kq, x7_1, rfl, HA, HJ1, ⟨mc1, rfl⟩⟩ := hcut
    cases kq with
    | zero => exact absurd HA.out (by simp [word_Class.j0])
    | succ kj1 =>
      have H := HA.out
      clear HA
      simp only [word_Class.j0] at H
      by_cases c5 : x7_1 = true
      · subst c5
        have H1 : (some 1) = some r := by rw [if_pos rfl] at H; exact H
        clear H
        have H := H1
        clear H1
        obtain rfl := Option.some.inj H
        go_wp2
        go_ret
        exact ⟨by first | rfl | (simp; done) | (simp [*]; done), by repeat (first | exact Drawn0.refl _ | apply Drawn0.step)⟩
      · replace c5 := Bool.eq_false_iff.mpr c5
        subst c5
        have H1 : (if (a0 / 2251799813685248) = 8191 then (if (Go.bits .and .u64 (a0 / 281474976710656) 7) = 0 then (if (Go.bits .and .u64 a0 281474976710655) = 0 then (some 3) else (if (Go.bits .and .u64 a0 281474976710655) = 1 then (some 4) else (if (Go.bits .and .u64 a0 281474976710655) = 2 then (some 4) else (some 7)))) else (if (Go.bits .and .u64 (a0 / 281474976710656) 7) = 1 then (some 2) else (if (Go.bits .and .u64 (a0 / 281474976710656) 7) = 2 then (if ((Go.bits .and .u64 a0 281474976710655) / 1099511627776) ≤ 5 then (if 0 ≤ (IntKind.u64.wrap (8 * ((Go.bits .and .u64 a0 281474976710655) / 1099511627776))) then (if (shr .u64 (Go.bits .and .u64 (Go.bits .and .u64 a0 281474976710655) 1099511627775) (IntKind.u64.wrap (8 * ((Go.bits .and .u64 a0 281474976710655) / 1099511627776)))) = 0 then (some 5) else (some 7)) else (none)) else (some 7)) else (if (Go.bits .and .u64 (a0 / 281474976710656) 7) = 3 then (some 6) else (some 7))))) else (some 7)) = some r := by rw [if_neg (show ¬ (false = true) by decide)] at H; exact H
        clear H
        have H := H1
        clear H1
        by_cases c6 : (a0 / 2251799813685248) = 8191
        · rw [if_pos c6] at H
          have c6b0 : ((a0 / 2251799813685248) == 8191) = true := beq_iff_eq.mpr c6
          have c6b1 : ((a0 / 2251799813685248) != 8191) = false := bne_eq_false_iff_eq.mpr c6
          clear c6
          by_cases c7 : (Go.bits .and .u64 (a0 / 281474976710656) 7) = 0
          · rw [if_pos c7] at H
            have c7b0 : ((Go.bits .and .u64 (a0 / 281474976710656) 7) == 0) = true := beq_iff_eq.mpr c7
            have c7b1 : ((Go.bits .and .u64 (a0 / 281474976710656) 7) != 0) = false := bne_eq_false_iff_eq.mpr c7
            clear c7
            by_cases c8 : (Go.bits .and .u64 a0 281474976710655) = 0
            · rw [if_pos c8] at H
              have c8b0 : ((Go.bits .and .u64 a0 281474976710655) == 0) = true := beq_iff_eq.mpr c8
              have c8b1 : ((Go.bits .and .u64 a0 281474976710655) != 0) = false := bne_eq_false_iff_eq.mpr c8
              clear c8
              obtain rfl := Option.some.inj H
              go_wp2
              go_ret
              exact ⟨by first | rfl | (simp; done) | (simp [*]; done), by repeat (first | exact Drawn0.refl _ | apply Drawn0.step)⟩
            · rw [if_neg c8] at H
              have c8b0 : ((Go.bits .and .u64 a0 281474976710655) == 0) = false := beq_eq_false_iff_ne.mpr c8
              have c8b1 : ((Go.bits .and .u64 a0 281474976710655) != 0) = true := bne_iff_ne.mpr c8
              by_cases c9 : (Go.bits .and .u64 a0 281474976710655) = 1
              · rw [if_pos c9] at H
                have c9b0 : ((Go.bits .and .u64 a0 281474976710655) == 1) = true := beq_iff_eq.mpr c9
                have c9b1 : ((Go.bits .and .u64 a0 281474976710655) != 1) = false := bne_eq_false_iff_eq.mpr c9
                clear c9
                obtain rfl := Option.some.inj H
                go_wp2
                go_ret
                exact ⟨by first | rfl | (simp; done) | (simp [*]; done), by repeat (first | exact Drawn0.refl _ | apply Drawn0.step)⟩
              · rw [if_neg c9] at H
                have c9b0 : ((Go.bits .and .u64 a0 281474976710655) == 1) = false := beq_eq_false_iff_ne.mpr c9
                have c9b1 : ((Go.bits .and .u64 a0 281474976710655) != 1) = true := bne_iff_ne.mpr c9
                by_cases c10 : (Go.bits .and .u64 a0 281474976710655) = 2
                · rw [if_pos c10] at H
                  have c10b0 : ((Go.bits .and .u64 a0 281474976710655) == 2) = true := beq_iff_eq.mpr c10
                  have c10b1 : ((Go.bits .and .u64 a0 281474976710655) != 2) = false := bne_eq_false_iff_eq.mpr c10
                  clear c10
                  obtain rfl := Option.some.inj H
                  go_wp2
                  go_ret
                  exact ⟨by first | rfl | (simp; done) | (simp [*]; done), by repeat (first | exact Drawn0.refl _ | apply Drawn0.step)⟩
                · rw [if_neg c10] at H
                  have c10b0 : ((Go.bits .and .u64 a0 281474976710655) == 2) = false := beq_eq_false_iff_ne.mpr c10
                  have c10b1 : ((Go.bits .and .u64 a0 281474976710655) != 2) = true := bne_iff_ne.mpr c10
                  obtain rfl := Option.some.inj H
                  go_wp2
                  go_ret
                  exact ⟨by first | rfl | (simp; done) | (simp [*]; done), by repeat (first | exact Drawn0.refl _ | apply Drawn0.step)⟩
          · rw [if_neg c7] at H
            have c7b0 : ((Go.bits .and .u64 (a0 / 281474976710656) 7) == 0) = false := beq_eq_false_iff_ne.mpr c7
            have c7b1 : ((Go.bits .and .u64 (a0 / 281474976710656) 7) != 0) = true := bne_iff_ne.mpr c7
            by_cases c11 : (Go.bits .and .u64 (a0 / 281474976710656) 7) = 1
            · rw [if_pos c11] at H
              have c11b0 : ((Go.bits .and .u64 (a0 / 281474976710656) 7) == 1) = true := beq_iff_eq.mpr c11
              have c11b1 : ((Go.bits .and .u64 (a0 / 281474976710656) 7) != 1) = false := bne_eq_false_iff_eq.mpr c11
              clear c11
              obtain rfl := Option.some.inj H
              go_wp2
              go_ret
              exact ⟨by first | rfl | (simp; done) | (simp [*]; done), by repeat (first | exact Drawn0.refl _ | apply Drawn0.step)⟩
            · rw [if_neg c11] at H
              have c11b0 : ((Go.bits .and .u64 (a0 / 281474976710656) 7) == 1) = false := beq_eq_false_iff_ne.mpr c11
              have c11b1 : ((Go.bits .and .u64 (a0 / 281474976710656) 7) != 1) = true := bne_iff_ne.mpr c11
              by_cases c12 : (Go.bits .and .u64 (a0 / 281474976710656) 7) = 2
              · rw [if_pos c12] at H
                have c12b0 : ((Go.bits .and .u64 (a0 / 281474976710656) 7) == 2) = true := beq_iff_eq.mpr c12
                have c12b1 : ((Go.bits .and .u64 (a0 / 281474976710656) 7) != 2) = false := bne_eq_false_iff_eq.mpr c12
                clear c12
                by_cases c13 : ((Go.bits .and .u64 a0 281474976710655) / 1099511627776) ≤ 5
                · rw [if_pos c13] at H
                  have c13b0 : decide (((Go.bits .and .u64 a0 281474976710655) / 1099511627776) ≤ 5) = true := decide_eq_true c13
                  clear c13
                  obtain ⟨ji14, hji14⟩ : ∃ j_ : Int, (IntKind.u64.wrap (8 * ((Go.bits .and .u64 a0 281474976710655) / 1099511627776))) = j_ := ⟨_, rfl⟩
                  replace H : (if 0 ≤ (ji14) then (if (shr .u64 (Go.bits .and .u64 (Go.bits .and .u64 a0 281474976710655) 1099511627775) (ji14)) = 0 then (some 5) else (some 7)) else (none)) = some r := by first | (rw [hji14] at H; exact H) | (simp only [hji14] at H ⊢; exact H)
                  by_cases c15 : 0 ≤ (ji14)
                  · rw [if_pos c15] at H
                    have c15b0 := eq_true c15
                    have c15b1 : decide (0 ≤ (ji14)) = true := decide_eq_true c15
                    clear c15
                    obtain ⟨ji16, hji16⟩ : ∃ j_ : Int, (shr .u64 (Go.bits .and .u64 (Go.bits .and .u64 a0 281474976710655) 1099511627775) (ji14)) = j_ := ⟨_, rfl⟩
                    replace H : (if (ji16) = 0 then (some 5) else (some 7)) = some r := by first | (rw [hji16] at H; exact H) | (simp only [hji16] at H ⊢; exact H)
                    have hji16_ : ((Go.bits .and .u64 (Go.bits .and .u64 a0 281474976710655) 1099511627775) / 2 ^ min (ji14).toNat 64) = ji16 := hji16
                    have hji16z : (ji14) ≤ 64 → ((Go.bits .and .u64 (Go.bits .and .u64 a0 281474976710655) 1099511627775) / 2 ^ (ji14).toNat) = ji16 := shr_small hji16
                    by_cases c17 : (ji16) = 0
                    · rw [if_pos c17] at H
                      have c17b0 : ((ji16) == 0) = true := beq_iff_eq.mpr c17
                      have c17b1 : ((ji16) != 0) = false := bne_eq_false_iff_eq.mpr c17
                      clear c17
                      obtain rfl := Option.some.inj H
                      go_wp2
                      go_ret
                      exact ⟨by first | rfl | (simp; done) | (simp only [← hji14, ← hji16] <;> (first | rfl | simp)) | (simp [*]; done), by repeat (first | exact Drawn0.refl _ | apply Drawn0.step)⟩
                    · rw [if_neg c17] at H
                      have c17b0 : ((ji16) == 0) = false := beq_eq_false_iff_ne.mpr c17
                      have c17b1 : ((ji16) != 0) = true := bne_iff_ne.mpr c17
                      obtain rfl := Option.some.inj H
                      go_wp2
                      go_ret
                      exact ⟨by first | rfl | (simp; done) | (simp only [← hji14, ← hji16] <;> (first | rfl | simp)) | (simp [*]; done), by repeat (first | exact Drawn0.refl _ | apply Drawn0.step)⟩
                  · rw [if_neg c15] at H
                    exact absurd H (by simp)
                · rw [if_neg c13] at H
                  have c13b0 : decide (((Go.bits .and .u64 a0 281474976710655) / 1099511627776) ≤ 5) = false := decide_eq_false c13
                  clear c13
                  obtain rfl := Option.some.inj H
                  go_wp2
                  go_ret
                  exact ⟨by first | rfl | (simp; done) | (simp [*]; done), by repeat (first | exact Drawn0.refl _ | apply Drawn0.step)⟩
              · rw [if_neg c12] at H
                have c12b0 : ((Go.bits .and .u64 (a0 / 281474976710656) 7) == 2) = false := beq_eq_false_iff_ne.mpr c12
                have c12b1 : ((Go.bits .and .u64 (a0 / 281474976710656) 7) != 2) = true := bne_iff_ne.mpr c12
                by_cases c18 : (Go.bits .and .u64 (a0 / 281474976710656) 7) = 3
                · rw [if_pos c18] at H
                  have c18b0 : ((Go.bits .and .u64 (a0 / 281474976710656) 7) == 3) = true := beq_iff_eq.mpr c18
                  have c18b1 : ((Go.bits .and .u64 (a0 / 281474976710656) 7) != 3) = false := bne_eq_false_iff_eq.mpr c18
                  clear c18
                  obtain rfl := Option.some.inj H
                  go_wp2
                  go_ret
                  exact ⟨by first | rfl | (simp; done) | (simp [*]; done), by repeat (first | exact Drawn0.refl _ | apply Drawn0.step)⟩
                · rw [if_neg c18] at H
                  have c18b0 : ((Go.bits .and .u64 (a0 / 281474976710656) 7) == 3) = false := beq_eq_false_iff_ne.mpr c18
                  have c18b1 : ((Go.bits .and .u64 (a0 / 281474976710656) 7) != 3) = true := bne_iff_ne.mpr c18
                  obtain rfl := Option.some.inj H
                  go_wp2
                  go_ret
                  exact ⟨by first | rfl | (simp; done) | (simp [*]; done), by repeat (first | exact Drawn0.refl _ | apply Drawn0.step)⟩
        · rw [if_neg c6] at H
          have c6b0 : ((a0 / 2251799813685248) == 8191) = false := beq_eq_false_iff_ne.mpr c6
          have c6b1 : ((a0 / 2251799813685248) != 8191) = true := bne_iff_ne.mpr c6
          obtain rfl := Option.some.inj H
          go_wp2
          go_ret
          exact ⟨by first | rfl | (simp; done) | (simp [*]; done), by repeat (first | exact Drawn0.refl _ | apply Drawn0.step)⟩

/-! ### word_tagged: function 47 -/
def word_tagged.f (a0 : Int) (a1 : Int) : Option (Int) := some (Go.bits .or .u64 (Go.bits .or .u64 18444492273895866368 (IntKind.u64.wrap (a0 * 281474976710656))) a1)
set_option maxHeartbeats 8000000 in
set_option maxRecDepth 100000 in
theorem word_tagged.calls (a0 : Int) (a1 : Int) (r : Int) (w : World) (h : word_tagged.f a0 a1 = some r) :
    Calls Try.prog 47 #[.int .u64 a0, .int .u64 a1] w fun e w' => e = .returned (.int .u64 r) ∧ Drawn0 w w' := by
  have H : (some (Go.bits .or .u64 (Go.bits .or .u64 18444492273895866368 (IntKind.u64.wrap (a0 * 281474976710656))) a1)) = some r := h
  clear h
  obtain rfl := Option.some.inj H
  go_enter Try.func47, Try.ntmps47
  go_wp2
  go_ret
  exact ⟨by first | rfl | (simp; done) | (simp [*]; done), by repeat (first | exact Drawn0.refl _ | apply Drawn0.step)⟩

/-! ### word_FromInt: function 16 -/
def word_FromInt.f (a0 : Int) : Option (Int × Bool) := if a0 < (-140737488355328) then (some (0, false)) else (if a0 ≥ 140737488355328 then (some (0, false)) else ((word_tagged.f 1 (Go.bits .and .u64 (IntKind.u64.wrap (a0)) 281474976710655)).bind fun t102 => (some (t102, true))))
set_option maxHeartbeats 8000000 in
set_option maxRecDepth 100000 in
theorem word_FromInt.calls (a0 : Int) (r1 : Int) (r2 : Bool) (w : World) (h : word_FromInt.f a0 = some (r1, r2)) :
    Calls Try.prog 16 #[.int .i64 a0] w fun e w' => e = .returned (.tuple #[.int .u64 r1, .bool r2]) ∧ Drawn0 w w' := by
  have H : (if a0 < (-140737488355328) then (some (0, false)) else (if a0 ≥ 140737488355328 then (some (0, false)) else ((word_tagged.f 1 (Go.bits .and .u64 (IntKind.u64.wrap (a0)) 281474976710655)).bind fun t102 => (some (t102, true))))) = some (r1, r2) := h
  clear h
  by_cases c2 : a0 < (-140737488355328)
  · rw [if_pos c2] at H
    have c2b0 : decide (a0 < (-140737488355328)) = true := decide_eq_true c2
    clear c2
    simp only [Option.some.injEq, Prod.mk.injEq] at H
    obtain ⟨rfl, rfl⟩ := H
    go_enter Try.func16, Try.ntmps16
    go_wp2
    go_ret2
    exact ⟨by first | rfl | (simp; done) | (simp [*]; done), by repeat (first | exact Drawn0.refl _ | apply Drawn0.step)⟩
  · rw [if_neg c2] at H
    have c2b0 : decide (a0 < (-140737488355328)) = false := decide_eq_false c2
    clear c2
    by_cases c3 : a0 ≥ 140737488355328
    · rw [if_pos c3] at H
      have c3b0 : decide (140737488355328 ≤ a0) = true := decide_eq_true c3
      clear c3
      simp only [Option.some.injEq, Prod.mk.injEq] at H
      obtain ⟨rfl, rfl⟩ := H
      go_enter Try.func16, Try.ntmps16
      go_wp2
      go_ret2
      exact ⟨by first | rfl | (simp; done) | (simp [*]; done), by repeat (first | exact Drawn0.refl _ | apply Drawn0.step)⟩
    · rw [if_neg c3] at H
      have c3b0 : decide (140737488355328 ≤ a0) = false := decide_eq_false c3
      clear c3
      replace H := Option.bind_eq_some_iff.mp H
      obtain ⟨t102, A40, H⟩ := H
      replace H : (some (t102, true)) = some (r1, r2) := H
      have A4 := Aside0.mk A40
      clear A40
      simp only [Option.some.injEq, Prod.mk.injEq] at H
      obtain ⟨rfl, rfl⟩ := H
      go_enter Try.func16, Try.ntmps16
      go_wp2_with (first | ((with_reducible refine gate_callee (f := 47) rfl ?_); refine goesL_ (some 13) rfl rfl Try.func47 (by kernel_rfl) rfl #[.int .u64 1, .int .u64 (Go.bits .and .u64 (IntKind.u64.wrap (a0)) 281474976710655)] rfl (by (try simp only [List.map_toArray, List.map_cons, List.map_nil]); first | done | rfl | (simp only [List.length_drop, List.length_take]; rfl)) ?_; (with_reducible refine (word_tagged.calls 1 (Go.bits .and .u64 (IntKind.u64.wrap (a0)) 281474976710655) t102 _ A4.out).mono ?_); rintro e w' ⟨rfl, ⟨nd, rfl⟩⟩; refine ⟨_, rfl, ?_⟩))
      go_ret2
      exact ⟨by first | rfl | (simp; done) | (simp [*]; done), by repeat (first | exact Drawn0.refl _ | apply Drawn0.step)⟩

/-! ### word_FromText: function 17 -/
def word_FromText.l0 : Nat → ByteArray → Int → Int → Int → Option (Int × Bool)
  | 0, _, _, _, _ => none
  | k + 1, x0, x4, x14, x15 => if x15 < x14 then (if 0 ≤ x15 then (if x15 < (x0.size : Int) then (if 0 ≤ (wrap64 (8 * x15)) then (word_FromText.l0 k x0 (Go.bits .or .u64 x4 (shl .u64 (IntKind.u64.wrap (bt x0 x15)) (wrap64 (8 * x15)))) x14 (wrap64 (x15 + 1))) else (none)) else (none)) else (none)) else ((word_tagged.f 2 x4).bind fun t103 => (some (t103, true)))
def word_FromText.f (k : Nat) (a0 : ByteArray) : Option (Int × Bool) := if (a0.size : Int) > 5 then (some (0, false)) else (word_FromText.l0 k a0 (IntKind.u64.wrap ((IntKind.u64.wrap ((a0.size : Int))) * 1099511627776)) (a0.size : Int) 0)
theorem word_FromText.mono_l : ∀ k, (∀ y0 y1 y2 y3, LeO (word_FromText.l0 k y0 y1 y2 y3) (word_FromText.l0 (k + 1) y0 y1 y2 y3))
  | 0 => fun _ _ _ _ r h => by simp [word_FromText.l0] at h
  | k + 1 => by
    have ih0 := word_FromText.mono_l k
    · intro y0 y1 y2 y3
      unfold word_FromText.l0
      repeat' first
      | (with_reducible exact ih0 _ _ _ _)
      | (with_reducible exact LeO.refl _)
      | (with_reducible exact LeO.none _)
      | (with_reducible refine LeO.ite ?_ ?_)
      | (with_reducible refine LeO.bind ?_ (fun _ => ?_))
      | exact ih0 _ _ _ _
      | exact LeO.none _
      | refine LeO.ite ?_ ?_
      | refine LeO.bind ?_ (fun _ => ?_)
theorem word_FromText.mono : ∀ a0 k, LeO (word_FromText.f k a0) (word_FromText.f (k + 1) a0) := by
  intro a0 k
  have ih0 := word_FromText.mono_l k
  unfold word_FromText.f
  repeat' first
      | (with_reducible exact ih0 _ _ _ _)
      | (with_reducible exact LeO.refl _)
      | (with_reducible exact LeO.none _)
      | (with_reducible refine LeO.ite ?_ ?_)
      | (with_reducible refine LeO.bind ?_ (fun _ => ?_))
      | exact ih0 _ _ _ _
      | exact LeO.none _
      | refine LeO.ite ?_ ?_
      | refine LeO.bind ?_ (fun _ => ?_)
set_option maxHeartbeats 8000000 in
set_option maxRecDepth 100000 in
theorem word_FromText.calls (k : Nat) (a0 : ByteArray) (r1 : Int) (r2 : Bool) (w : World) (h : word_FromText.f k a0 = some (r1, r2)) :
    Calls Try.prog 17 #[.string a0] w fun e w' => e = .returned (.tuple #[.int .u64 r1, .bool r2]) ∧ Drawn0 w w' := by
  have H : (if (a0.size : Int) > 5 then (some (0, false)) else (word_FromText.l0 k a0 (IntKind.u64.wrap ((IntKind.u64.wrap ((a0.size : Int))) * 1099511627776)) (a0.size : Int) 0)) = some (r1, r2) := h
  clear h
  by_cases c2 : (a0.size : Int) > 5
  · rw [if_pos c2] at H
    have c2b0 : decide (5 < (a0.size : Int)) = true := decide_eq_true c2
    have c2b1 : decide (5 < a0.size) = true := decide_eq_true (by omega)
    clear c2
    simp only [Option.some.injEq, Prod.mk.injEq] at H
    obtain ⟨rfl, rfl⟩ := H
    go_enter Try.func17, Try.ntmps17
    go_wp2
    go_ret2
    exact ⟨by first | rfl | (simp; done) | (simp [*]; done), by repeat (first | exact Drawn0.refl _ | apply Drawn0.step)⟩
  · rw [if_neg c2] at H
    have c2b0 : decide (5 < (a0.size : Int)) = false := decide_eq_false c2
    have c2b1 : decide (5 < a0.size) = false := decide_eq_false (by omega)
    clear c2
    have H' := Aside0.mk H
    clear H
    go_enter Try.func17, Try.ntmps17
    go_wp2
    go_loopg [4, 15] k (fun kq v4 v15 w' => ∃ (x4_1 : Int) (x15_1 : Int), v4 = .int .u64 x4_1 ∧ v15 = .int .i64 x15_1 ∧ Aside0 (word_FromText.l0 kq a0 x4_1 (a0.size : Int) x15_1 = some (r1, r2)) ∧ Aside0 (kq ≤ k) ∧ Drawn0 w w')
    case atStart => exact ⟨(IntKind.u64.wrap ((IntKind.u64.wrap ((a0.size : Int))) * 1099511627776)), (0), (by first | rfl | (simp; done) | (simp [*]; done)), (by first | rfl | (simp; done) | (simp [*]; done)), H', ⟨Nat.le_refl _⟩, by repeat (first | exact Drawn0.refl _ | apply Drawn0.step)⟩
    case round =>
      clear H'
      try clear c1
      try clear c2
      try clear c2b0
      try clear c2b1
      try clear p2
      obtain ⟨x4_1, x15_1, rfl, rfl, HA, HK1, ⟨m1, rfl⟩⟩ := hrel
      cases gk with
      | zero => exact absurd HA.out (by simp [word_FromText.l0])
      | succ k1 =>
        have H := HA.out
        clear HA
        simp only [word_FromText.l0] at H
        by_cases c3 : x15_1 < (a0.size : Int)
        · rw [if_pos c3] at H
          have c3b0 : decide (x15_1 < (a0.size : Int)) = true := decide_eq_true c3
          clear c3
          by_cases c4 : 0 ≤ x15_1
          · rw [if_pos c4] at H
            have c4b0 : decide (0 ≤ x15_1) = true := decide_eq_true c4
            clear c4
            by_cases c5 : x15_1 < (a0.size : Int)
            · rw [if_pos c5] at H
              have c5b0 : decide (x15_1 < (a0.size : Int)) = true := decide_eq_true c5
              clear c5
              obtain ⟨ji7, hji7⟩ : ∃ j_ : Int, (wrap64 (8 * x15_1)) = j_ := ⟨_, rfl⟩
              replace H : (if 0 ≤ (ji7) then (word_FromText.l0 k1 a0 (Go.bits .or .u64 x4_1 (shl .u64 (IntKind.u64.wrap (bt a0 x15_1)) (ji7))) (a0.size : Int) (wrap64 (x15_1 + 1))) else (none)) = some (r1, r2) := by first | (rw [hji7] at H; exact H) | (simp only [hji7] at H ⊢; exact H)
              have hji7w : (IntKind.i64.wrap (8 * x15_1)) = ji7 := (i64_w _).trans hji7
              by_cases c8 : 0 ≤ (ji7)
              · rw [if_pos c8] at H
                have c8b0 := eq_true c8
                have c8b1 : decide (0 ≤ (ji7)) = true := decide_eq_true c8
                clear c8
                obtain ⟨ji9, hji9⟩ : ∃ j_ : Int, (shl .u64 (IntKind.u64.wrap (bt a0 x15_1)) (ji7)) = j_ := ⟨_, rfl⟩
                replace H : (word_FromText.l0 k1 a0 (Go.bits .or .u64 x4_1 (ji9)) (a0.size : Int) (wrap64 (x15_1 + 1))) = some (r1, r2) := by first | (rw [hji9] at H; exact H) | (simp only [hji9] at H ⊢; exact H)
                have hji9_ : (IntKind.u64.wrap ((IntKind.u64.wrap (bt a0 x15_1)) * 2 ^ min (ji7).toNat 64)) = ji9 := hji9
                have hji9z : (ji7) ≤ 64 → (IntKind.u64.wrap ((IntKind.u64.wrap (bt a0 x15_1)) * 2 ^ (ji7).toNat)) = ji9 := shl_small hji9
                have H' := Aside0.mk H
                clear H
                have p6 : 0 ≤ (x15_1 : Int) := of_decide_eq_true (by first | (with_reducible assumption) | assumption)
                have q6 : x15_1 < (a0.size : Int) := of_decide_eq_true (by first | (with_reducible assumption) | assumption)
                have hx6 := bt_at a0 x15_1
                replace p6 := eq_true p6
                replace q6 := eq_true q6
                go_wp2
                go_roundg k1
                case measure => have := HK1.out; omega
                case rel => exact ⟨(Go.bits .or .u64 x4_1 (ji9)), (wrap64 (x15_1 + 1)), (by first | rfl | (simp; done) | (simp only [← hji9] <;> (first | rfl | simp)) | (simp [*]; done)), (by first | rfl | (simp; done) | (simp [*]; done)), H', ⟨by have := HK1.out; omega⟩, by repeat (first | exact Drawn0.refl _ | apply Drawn0.step)⟩
              · rw [if_neg c8] at H
                exact absurd H (by simp)
            · rw [if_neg c5] at H
              exact absurd H (by simp)
          · rw [if_neg c4] at H
            exact absurd H (by simp)
        · rw [if_neg c3] at H
          have c3b0 : decide (x15_1 < (a0.size : Int)) = false := decide_eq_false c3
          clear c3
          replace H := Option.bind_eq_some_iff.mp H
          obtain ⟨t103, A100, H⟩ := H
          replace H : (some (t103, true)) = some (r1, r2) := H
          have A10 := Aside0.mk A100
          clear A100
          simp only [Option.some.injEq, Prod.mk.injEq] at H
          obtain ⟨rfl, rfl⟩ := H
          go_wp2_with (first | ((with_reducible refine gate_callee (f := 47) rfl ?_); refine goesL_ (some 29) rfl rfl Try.func47 (by kernel_rfl) rfl #[.int .u64 2, .int .u64 x4_1] rfl (by (try simp only [List.map_toArray, List.map_cons, List.map_nil]); first | done | rfl | (simp only [List.length_drop, List.length_take]; rfl)) ?_; (with_reducible refine (word_tagged.calls 2 x4_1 t103 _ A10.out).mono ?_); rintro e w' ⟨rfl, ⟨nd, rfl⟩⟩; refine ⟨_, rfl, ?_⟩))
          go_ret2
          exact ⟨by first | rfl | (simp; done) | (simp [*]; done), by repeat (first | exact Drawn0.refl _ | apply Drawn0.step)⟩

/-! ### casketlaw1_awake: function 15 -/
def casketlaw1_awake.f (k : Nat)  : Option (Bool) := (word_FromInt.f (-1)).bind fun bt104 => ((word_FromText.f k (⟨#[97, 98]⟩ : ByteArray)).bind fun bt106 => (if bt104.1 = 18445055223849287679 then (if bt104.2 = true then (if bt106.1 = 18445057422872568417 then (if bt106.2 = true then ((word_Class.f k 9221120237041090560).bind fun t108 => (some (t108 == 1))) else (some false)) else (some false)) else (some false)) else (some false)))
theorem casketlaw1_awake.mono : ∀ k, LeO (casketlaw1_awake.f k ) (casketlaw1_awake.f (k + 1) ) := by
  intro  k
  unfold casketlaw1_awake.f
  repeat' first
      | (with_reducible exact word_Class.mono _ _)
      | (with_reducible exact word_FromText.mono _ _)
      | (with_reducible exact LeO.refl _)
      | (with_reducible exact LeO.none _)
      | (with_reducible refine LeO.ite ?_ ?_)
      | (with_reducible refine LeO.bind ?_ (fun _ => ?_))
      | exact word_Class.mono _ _
      | exact word_FromText.mono _ _
      | exact LeO.none _
      | refine LeO.ite ?_ ?_
      | refine LeO.bind ?_ (fun _ => ?_)
set_option maxHeartbeats 8000000 in
set_option maxRecDepth 100000 in
theorem casketlaw1_awake.calls (k : Nat)  (r : Bool) (w : World) (h : casketlaw1_awake.f k  = some r) :
    Calls Try.prog 15 #[] w fun e w' => e = .returned (.bool r) ∧ Drawn0 w w' := by
  have H : ((word_FromInt.f (-1)).bind fun bt104 => ((word_FromText.f k (⟨#[97, 98]⟩ : ByteArray)).bind fun bt106 => (if bt104.1 = 18445055223849287679 then (if bt104.2 = true then (if bt106.1 = 18445057422872568417 then (if bt106.2 = true then ((word_Class.f k 9221120237041090560).bind fun t108 => (some (t108 == 1))) else (some false)) else (some false)) else (some false)) else (some false)))) = some r := h
  clear h
  replace H := Option.bind_eq_some_iff.mp H
  obtain ⟨⟨t104, t105⟩, A10, H⟩ := H
  replace H : ((word_FromText.f k (⟨#[97, 98]⟩ : ByteArray)).bind fun bt106 => (if t104 = 18445055223849287679 then (if t105 = true then (if bt106.1 = 18445057422872568417 then (if bt106.2 = true then ((word_Class.f k 9221120237041090560).bind fun t108 => (some (t108 == 1))) else (some false)) else (some false)) else (some false)) else (some false))) = some r := H
  have A1 := Aside0.mk A10
  clear A10
  replace H := Option.bind_eq_some_iff.mp H
  obtain ⟨⟨t106, t107⟩, A20, H⟩ := H
  replace H : (if t104 = 18445055223849287679 then (if t105 = true then (if t106 = 18445057422872568417 then (if t107 = true then ((word_Class.f k 9221120237041090560).bind fun t108 => (some (t108 == 1))) else (some false)) else (some false)) else (some false)) else (some false)) = some r := H
  have A2 := Aside0.mk A20
  clear A20
  by_cases c3 : t104 = 18445055223849287679
  · rw [if_pos c3] at H
    have c3b0 : (t104 == 18445055223849287679) = true := beq_iff_eq.mpr c3
    have c3b1 : (t104 != 18445055223849287679) = false := bne_eq_false_iff_eq.mpr c3
    clear c3
    by_cases c4 : t105 = true
    · subst c4
      have H1 : (if t106 = 18445057422872568417 then (if t107 = true then ((word_Class.f k 9221120237041090560).bind fun t108 => (some (t108 == 1))) else (some false)) else (some false)) = some r := by rw [if_pos rfl] at H; exact H
      clear H
      have H := H1
      clear H1
      by_cases c5 : t106 = 18445057422872568417
      · rw [if_pos c5] at H
        have c5b0 : (t106 == 18445057422872568417) = true := beq_iff_eq.mpr c5
        have c5b1 : (t106 != 18445057422872568417) = false := bne_eq_false_iff_eq.mpr c5
        clear c5
        by_cases c6 : t107 = true
        · subst c6
          have H1 : ((word_Class.f k 9221120237041090560).bind fun t108 => (some (t108 == 1))) = some r := by rw [if_pos rfl] at H; exact H
          clear H
          have H := H1
          clear H1
          replace H := Option.bind_eq_some_iff.mp H
          obtain ⟨t108, A70, H⟩ := H
          replace H : (some (t108 == 1)) = some r := H
          have A7 := Aside0.mk A70
          clear A70
          obtain rfl := Option.some.inj H
          go_enter Try.func15, Try.ntmps15
          go_wp2_with (first | ((with_reducible refine gate_callee (f := 16) rfl ?_); refine goesL_ (some 6) rfl rfl Try.func16 (by kernel_rfl) rfl #[.int .i64 (-1)] rfl (by (try simp only [List.map_toArray, List.map_cons, List.map_nil]); first | done | rfl | (simp only [List.length_drop, List.length_take]; rfl)) ?_; (with_reducible refine (word_FromInt.calls (-1) t104 true _ A1.out).mono ?_); rintro e w' ⟨rfl, ⟨nd, rfl⟩⟩; refine ⟨_, rfl, ?_⟩) | ((with_reducible refine gate_callee (f := 17) rfl ?_); refine goesL_ (some 10) rfl rfl Try.func17 (by kernel_rfl) rfl #[.string (⟨#[97, 98]⟩ : ByteArray)] rfl (by (try simp only [List.map_toArray, List.map_cons, List.map_nil]); first | done | rfl | (simp only [List.length_drop, List.length_take]; rfl)) ?_; (with_reducible refine (word_FromText.calls k (⟨#[97, 98]⟩ : ByteArray) t106 true _ A2.out).mono ?_); rintro e w' ⟨rfl, ⟨nd, rfl⟩⟩; refine ⟨_, rfl, ?_⟩) | (go_at_call 14; (with_reducible refine (word_Class.calls k 9221120237041090560 t108 _ A7.out).mono ?_); rintro e w' ⟨rfl, ⟨nd, rfl⟩⟩))
          go_ret
          exact ⟨by first | rfl | (simp; done) | (simp [*]; done), by repeat (first | exact Drawn0.refl _ | apply Drawn0.step)⟩
        · replace c6 := Bool.eq_false_iff.mpr c6
          subst c6
          have H1 : (some false) = some r := by rw [if_neg (show ¬ (false = true) by decide)] at H; exact H
          clear H
          have H := H1
          clear H1
          obtain rfl := Option.some.inj H
          go_enter Try.func15, Try.ntmps15
          go_wp2_with (first | ((with_reducible refine gate_callee (f := 16) rfl ?_); refine goesL_ (some 6) rfl rfl Try.func16 (by kernel_rfl) rfl #[.int .i64 (-1)] rfl (by (try simp only [List.map_toArray, List.map_cons, List.map_nil]); first | done | rfl | (simp only [List.length_drop, List.length_take]; rfl)) ?_; (with_reducible refine (word_FromInt.calls (-1) t104 true _ A1.out).mono ?_); rintro e w' ⟨rfl, ⟨nd, rfl⟩⟩; refine ⟨_, rfl, ?_⟩) | ((with_reducible refine gate_callee (f := 17) rfl ?_); refine goesL_ (some 10) rfl rfl Try.func17 (by kernel_rfl) rfl #[.string (⟨#[97, 98]⟩ : ByteArray)] rfl (by (try simp only [List.map_toArray, List.map_cons, List.map_nil]); first | done | rfl | (simp only [List.length_drop, List.length_take]; rfl)) ?_; (with_reducible refine (word_FromText.calls k (⟨#[97, 98]⟩ : ByteArray) t106 false _ A2.out).mono ?_); rintro e w' ⟨rfl, ⟨nd, rfl⟩⟩; refine ⟨_, rfl, ?_⟩))
          go_ret
          exact ⟨by first | rfl | (simp; done) | (simp [*]; done), by repeat (first | exact Drawn0.refl _ | apply Drawn0.step)⟩
      · rw [if_neg c5] at H
        have c5b0 : (t106 == 18445057422872568417) = false := beq_eq_false_iff_ne.mpr c5
        have c5b1 : (t106 != 18445057422872568417) = true := bne_iff_ne.mpr c5
        obtain rfl := Option.some.inj H
        go_enter Try.func15, Try.ntmps15
        go_wp2_with (first | ((with_reducible refine gate_callee (f := 16) rfl ?_); refine goesL_ (some 6) rfl rfl Try.func16 (by kernel_rfl) rfl #[.int .i64 (-1)] rfl (by (try simp only [List.map_toArray, List.map_cons, List.map_nil]); first | done | rfl | (simp only [List.length_drop, List.length_take]; rfl)) ?_; (with_reducible refine (word_FromInt.calls (-1) t104 true _ A1.out).mono ?_); rintro e w' ⟨rfl, ⟨nd, rfl⟩⟩; refine ⟨_, rfl, ?_⟩) | ((with_reducible refine gate_callee (f := 17) rfl ?_); refine goesL_ (some 10) rfl rfl Try.func17 (by kernel_rfl) rfl #[.string (⟨#[97, 98]⟩ : ByteArray)] rfl (by (try simp only [List.map_toArray, List.map_cons, List.map_nil]); first | done | rfl | (simp only [List.length_drop, List.length_take]; rfl)) ?_; (with_reducible refine (word_FromText.calls k (⟨#[97, 98]⟩ : ByteArray) t106 t107 _ A2.out).mono ?_); rintro e w' ⟨rfl, ⟨nd, rfl⟩⟩; refine ⟨_, rfl, ?_⟩))
        go_ret
        exact ⟨by first | rfl | (simp; done) | (simp [*]; done), by repeat (first | exact Drawn0.refl _ | apply Drawn0.step)⟩
    · replace c4 := Bool.eq_false_iff.mpr c4
      subst c4
      have H1 : (some false) = some r := by rw [if_neg (show ¬ (false = true) by decide)] at H; exact H
      clear H
      have H := H1
      clear H1
      obtain rfl := Option.some.inj H
      go_enter Try.func15, Try.ntmps15
      go_wp2_with (first | ((with_reducible refine gate_callee (f := 16) rfl ?_); refine goesL_ (some 6) rfl rfl Try.func16 (by kernel_rfl) rfl #[.int .i64 (-1)] rfl (by (try simp only [List.map_toArray, List.map_cons, List.map_nil]); first | done | rfl | (simp only [List.length_drop, List.length_take]; rfl)) ?_; (with_reducible refine (word_FromInt.calls (-1) t104 false _ A1.out).mono ?_); rintro e w' ⟨rfl, ⟨nd, rfl⟩⟩; refine ⟨_, rfl, ?_⟩) | ((with_reducible refine gate_callee (f := 17) rfl ?_); refine goesL_ (some 10) rfl rfl Try.func17 (by kernel_rfl) rfl #[.string (⟨#[97, 98]⟩ : ByteArray)] rfl (by (try simp only [List.map_toArray, List.map_cons, List.map_nil]); first | done | rfl | (simp only [List.length_drop, List.length_take]; rfl)) ?_; (with_reducible refine (word_FromText.calls k (⟨#[97, 98]⟩ : ByteArray) t106 t107 _ A2.out).mono ?_); rintro e w' ⟨rfl, ⟨nd, rfl⟩⟩; refine ⟨_, rfl, ?_⟩))
      go_ret
      exact ⟨by first | rfl | (simp; done) | (simp [*]; done), by repeat (first | exact Drawn0.refl _ | apply Drawn0.step)⟩
  · rw [if_neg c3] at H
    have c3b0 : (t104 == 18445055223849287679) = false := beq_eq_false_iff_ne.mpr c3
    have c3b1 : (t104 != 18445055223849287679) = true := bne_iff_ne.mpr c3
    obtain rfl := Option.some.inj H
    go_enter Try.func15, Try.ntmps15
    go_wp2_with (first | ((with_reducible refine gate_callee (f := 16) rfl ?_); refine goesL_ (some 6) rfl rfl Try.func16 (by kernel_rfl) rfl #[.int .i64 (-1)] rfl (by (try simp only [List.map_toArray, List.map_cons, List.map_nil]); first | done | rfl | (simp only [List.length_drop, List.length_take]; rfl)) ?_; (with_reducible refine (word_FromInt.calls (-1) t104 t105 _ A1.out).mono ?_); rintro e w' ⟨rfl, ⟨nd, rfl⟩⟩; refine ⟨_, rfl, ?_⟩) | ((with_reducible refine gate_callee (f := 17) rfl ?_); refine goesL_ (some 10) rfl rfl Try.func17 (by kernel_rfl) rfl #[.string (⟨#[97, 98]⟩ : ByteArray)] rfl (by (try simp only [List.map_toArray, List.map_cons, List.map_nil]); first | done | rfl | (simp only [List.length_drop, List.length_take]; rfl)) ?_; (with_reducible refine (word_FromText.calls k (⟨#[97, 98]⟩ : ByteArray) t106 t107 _ A2.out).mono ?_); rintro e w' ⟨rfl, ⟨nd, rfl⟩⟩; refine ⟨_, rfl, ?_⟩))
    go_ret
    exact ⟨by first | rfl | (simp; done) | (simp [*]; done), by repeat (first | exact Drawn0.refl _ | apply Drawn0.step)⟩

/-! ### casketref1_NaN: function 48 -/
def casketref1_NaN.f (a0 : Int) : Option (Bool) := if (Int.tmod (IntKind.u64.wrap (Int.tdiv a0 4503599627370496)) 2048) = 2047 then (some ((Int.tmod a0 4503599627370496) != 0)) else (some false)
set_option maxHeartbeats 8000000 in
set_option maxRecDepth 100000 in
theorem casketref1_NaN.calls (a0 : Int) (r : Bool) (w : World) (h : casketref1_NaN.f a0 = some r) :
    Calls Try.prog 48 #[.int .u64 a0] w fun e w' => e = .returned (.bool r) ∧ Drawn0 w w' := by
  have H : (if (Int.tmod (IntKind.u64.wrap (Int.tdiv a0 4503599627370496)) 2048) = 2047 then (some ((Int.tmod a0 4503599627370496) != 0)) else (some false)) = some r := h
  clear h
  by_cases c2 : (Int.tmod (IntKind.u64.wrap (Int.tdiv a0 4503599627370496)) 2048) = 2047
  · rw [if_pos c2] at H
    have c2b0 : ((Int.tmod (IntKind.u64.wrap (Int.tdiv a0 4503599627370496)) 2048) == 2047) = true := beq_iff_eq.mpr c2
    have c2b1 : ((Int.tmod (IntKind.u64.wrap (Int.tdiv a0 4503599627370496)) 2048) != 2047) = false := bne_eq_false_iff_eq.mpr c2
    clear c2
    obtain rfl := Option.some.inj H
    go_enter Try.func48, Try.ntmps48
    go_wp2
    go_ret
    exact ⟨by first | rfl | (simp; done) | (simp [*]; done), by repeat (first | exact Drawn0.refl _ | apply Drawn0.step)⟩
  · rw [if_neg c2] at H
    have c2b0 : ((Int.tmod (IntKind.u64.wrap (Int.tdiv a0 4503599627370496)) 2048) == 2047) = false := beq_eq_false_iff_ne.mpr c2
    have c2b1 : ((Int.tmod (IntKind.u64.wrap (Int.tdiv a0 4503599627370496)) 2048) != 2047) = true := bne_iff_ne.mpr c2
    obtain rfl := Option.some.inj H
    go_enter Try.func48, Try.ntmps48
    go_wp2
    go_ret
    exact ⟨by first | rfl | (simp; done) | (simp [*]; done), by repeat (first | exact Drawn0.refl _ | apply Drawn0.step)⟩

/-! ### casketref1_power: function 50 -/
def casketref1_power.l0 : Nat → Int → Int → Int → Option (Int)
  | 0, _, _, _ => none
  | k + 1, x0, x3, x4 => if x4 < x0 then (casketref1_power.l0 k x0 (IntKind.u64.wrap (2 * x3)) (wrap64 (x4 + 1))) else (some x3)
def casketref1_power.f (k : Nat) (a0 : Int) : Option (Int) := casketref1_power.l0 k a0 1 0
theorem casketref1_power.mono_l : ∀ k, (∀ y0 y1 y2, LeO (casketref1_power.l0 k y0 y1 y2) (casketref1_power.l0 (k + 1) y0 y1 y2))
  | 0 => fun _ _ _ r h => by simp [casketref1_power.l0] at h
  | k + 1 => by
    have ih0 := casketref1_power.mono_l k
    · intro y0 y1 y2
      unfold casketref1_power.l0
      repeat' first
      | (with_reducible exact ih0 _ _ _)
      | (with_reducible exact LeO.refl _)
      | (with_reducible exact LeO.none _)
      | (with_reducible refine LeO.ite ?_ ?_)
      | (with_reducible refine LeO.bind ?_ (fun _ => ?_))
      | exact ih0 _ _ _
      | exact LeO.none _
      | refine LeO.ite ?_ ?_
      | refine LeO.bind ?_ (fun _ => ?_)
theorem casketref1_power.mono : ∀ a0 k, LeO (casketref1_power.f k a0) (casketref1_power.f (k + 1) a0) := by
  intro a0 k
  have ih0 := casketref1_power.mono_l k
  unfold casketref1_power.f
  repeat' first
      | (with_reducible exact ih0 _ _ _)
      | (with_reducible exact LeO.refl _)
      | (with_reducible exact LeO.none _)
      | (with_reducible refine LeO.ite ?_ ?_)
      | (with_reducible refine LeO.bind ?_ (fun _ => ?_))
      | exact ih0 _ _ _
      | exact LeO.none _
      | refine LeO.ite ?_ ?_
      | refine LeO.bind ?_ (fun _ => ?_)
set_option maxHeartbeats 8000000 in
set_option maxRecDepth 100000 in
theorem casketref1_power.calls (k : Nat) (a0 : Int) (r : Int) (w : World) (h : casketref1_power.f k a0 = some r) :
    Calls Try.prog 50 #[.int .i64 a0] w fun e w' => e = .returned (.int .u64 r) ∧ Drawn0 w w' := by
  have H : (casketref1_power.l0 k a0 1 0) = some r := h
  clear h
  have H' := Aside0.mk H
  clear H
  go_enter Try.func50, Try.ntmps50
  go_wp2
  go_loopg [3, 4] k (fun kq v3 v4 w' => ∃ (x3_1 : Int) (x4_1 : Int), v3 = .int .u64 x3_1 ∧ v4 = .int .i64 x4_1 ∧ Aside0 (casketref1_power.l0 kq a0 x3_1 x4_1 = some r) ∧ Aside0 (kq ≤ k) ∧ Drawn0 w w')
  case atStart => exact ⟨(1), (0), (by first | rfl | (simp; done) | (simp [*]; done)), (by first | rfl | (simp; done) | (simp [*]; done)), H', ⟨Nat.le_refl _⟩, by repeat (first | exact Drawn0.refl _ | apply Drawn0.step)⟩
  case round =>
    clear H'
    obtain ⟨x3_1, x4_1, rfl, rfl, HA, HK1, ⟨m1, rfl⟩⟩ := hrel
    cases gk with
    | zero => exact absurd HA.out (by simp [casketref1_power.l0])
    | succ k1 =>
      have H := HA.out
      clear HA
      simp only [casketref1_power.l0] at H
      by_cases c2 : x4_1 < a0
      · rw [if_pos c2] at H
        have c2b0 : decide (x4_1 < a0) = true := decide_eq_true c2
        clear c2
        have H' := Aside0.mk H
        clear H
        go_wp2
        go_roundg k1
        case measure => have := HK1.out; omega
        case rel => exact ⟨(IntKind.u64.wrap (2 * x3_1)), (wrap64 (x4_1 + 1)), (by first | rfl | (simp; done) | (simp [*]; done)), (by first | rfl | (simp; done) | (simp [*]; done)), H', ⟨by have := HK1.out; omega⟩, by repeat (first | exact Drawn0.refl _ | apply Drawn0.step)⟩
      · rw [if_neg c2] at H
        have c2b0 : decide (x4_1 < a0) = false := decide_eq_false c2
        clear c2
        obtain rfl := Option.some.inj H
        go_wp2
        go_ret
        exact ⟨by first | rfl | (simp; done) | (simp [*]; done), by repeat (first | exact Drawn0.refl _ | apply Drawn0.step)⟩

end Go.Proofs.Ytpoedalbgcpgjaa.PWordClasses

-- PRINTED BY print.sh 35421559b90ae4d0a3588c463048766b98c2df88dd9212a6774a882060cdf62d: not written by this session
import Derived.Test.YtpoedalbgcpgjaaPWordBoxesx0
import Derived.Test.YtpoedalbgcpgjaaPWordBoxesx1
namespace Go.Proofs.Ytpoedalbgcpgjaa.PWordBoxes
open Go.RowKit Go.Proofs.YtpoedalbgcpgjaaW.PrintWords Go.Proofs.YtpoedalbgcpgjaaW.PrintLast Go.Proofs.YtpoedalbgcpgjaaW.PrintMore
attribute [local go_sem] max2_int min2_int max_two min_two max_three min_three max_four min_four   -- for this text's walks alone
set_option linter.unusedVariables false
set_option linter.unusedSimpArgs false

/-! ### casketref1_FromText: function 25 -/
def casketref1_FromText.l0 : Nat → ByteArray → Int → Int → Option (Int × Bool)
  | 0, _, _, _ => none
  | k + 1, x0, x4, x5 => if x5 < (x0.size : Int) then (if 0 ≤ x5 then ((casketref1_power.f k (wrap64 (8 * x5))).bind fun t116 => (casketref1_FromText.l0 k x0 (IntKind.u64.wrap (x4 + (IntKind.u64.wrap ((IntKind.u64.wrap (bt x0 x5)) * t116)))) (wrap64 (x5 + 1)))) else (none)) else (some (IntKind.u64.wrap (18445055223849287680 + x4), true))
def casketref1_FromText.f (k : Nat) (a0 : ByteArray) : Option (Int × Bool) := if (a0.size : Int) > 5 then (some (0, false)) else ((casketref1_power.f k 40).bind fun t115 => (casketref1_FromText.l0 k a0 (IntKind.u64.wrap ((IntKind.u64.wrap ((a0.size : Int))) * t115)) 0))
theorem casketref1_FromText.mono_l : ∀ k, (∀ y0 y1 y2, LeO (casketref1_FromText.l0 k y0 y1 y2) (casketref1_FromText.l0 (k + 1) y0 y1 y2))
  | 0 => fun _ _ _ r h => by simp [casketref1_FromText.l0] at h
  | k + 1 => by
    have ih0 := casketref1_FromText.mono_l k
    · intro y0 y1 y2
      unfold casketref1_FromText.l0
      repeat' first
      | (with_reducible exact ih0 _ _ _)
      | (with_reducible exact casketref1_power.mono _ _)
      | (with_reducible exact LeO.refl _)
      | (with_reducible exact LeO.none _)
      | (with_reducible refine LeO.ite ?_ ?_)
      | (with_reducible refine LeO.bind ?_ (fun _ => ?_))
      | exact ih0 _ _ _
      | exact casketref1_power.mono _ _
      | exact LeO.none _
      | refine LeO.ite ?_ ?_
      | refine LeO.bind ?_ (fun _ => ?_)
theorem casketref1_FromText.mono : ∀ a0 k, LeO (casketref1_FromText.f k a0) (casketref1_FromText.f (k + 1) a0) := by
  intro a0 k
  have ih0 := casketref1_FromText.mono_l k
  unfold casketref1_FromText.f
  repeat' first
      | (with_reducible exact ih0 _ _ _)
      | (with_reducible exact casketref1_power.mono _ _)
      | (with_reducible exact LeO.refl _)
      | (with_reducible exact LeO.none _)
      | (with_reducible refine LeO.ite ?_ ?_)
      | (with_reducible refine LeO.bind ?_ (fun _ => ?_))
      | exact ih0 _ _ _
      | exact casketref1_power.mono _ _
      | exact LeO.none _
      | refine LeO.ite ?_ ?_
      | refine LeO.bind ?_ (fun _ => ?_)
set_option maxHeartbeats 8000000 in
set_option maxRecDepth 100000 in
theorem casketref1_FromText.calls (k : Nat) (a0 : ByteArray) (r1 : Int) (r2 : Bool) (w : World) (h : casketref1_FromText.f k a0 = some (r1, r2)) :
    Calls Try.prog 25 #[.string a0] w fun e w' => e = .returned (.tuple #[.int .u64 r1, .bool r2]) ∧ Drawn0 w w' := by
  have H : (if (a0.size : Int) > 5 then (some (0, false)) else ((casketref1_power.f k 40).bind fun t115 => (casketref1_FromText.l0 k a0 (IntKind.u64.wrap ((IntKind.u64.wrap ((a0.size : Int))) * t115)) 0))) = some (r1, r2) := h
  clear h
  by_cases c2 : (a0.size : Int) > 5
  · rw [if_pos c2] at H
    have c2b0 : decide (5 < (a0.size : Int)) = true := decide_eq_true c2
    have c2b1 : decide (5 < a0.size) = true := decide_eq_true (by omega)
    clear c2
    simp only [Option.some.injEq, Prod.mk.injEq] at H
    obtain ⟨rfl, rfl⟩ := H
    go_enter Try.func25, Try.ntmps25
    go_wp2
    repeat (go_quiet (fail); try go_wp2)
    go_ret2
    exact ⟨by first | rfl | (simp; done) | (simp [*]; done), by repeat (first | exact Drawn0.refl _ | apply Drawn0.step)⟩
  · rw [if_neg c2] at H
    have c2b0 : decide (5 < (a0.size : Int)) = false := decide_eq_false c2
    have c2b1 : decide (5 < a0.size) = false := decide_eq_false (by omega)
    clear c2
    replace H := Option.bind_eq_some_iff.mp H
    obtain ⟨t115, A30, H⟩ := H
    replace H : (casketref1_FromText.l0 k a0 (IntKind.u64.wrap ((IntKind.u64.wrap ((a0.size : Int))) * t115)) 0) = some (r1, r2) := H
    have A3 := Aside0.mk A30
    clear A30
    have H' := Aside0.mk H
    clear H
    go_enter Try.func25, Try.ntmps25
    go_wp2_with (first | (go_at_call 50; (with_reducible refine (casketref1_power.calls k 40 t115 _ A3.out).mono ?_); rintro e w' ⟨rfl, ⟨nd, rfl⟩⟩; (try first | exact ⟨rfl, _, World.drewN_drewN _ _ _⟩ | exact ⟨rfl, _, Eq.trans (World.drewN_drewN _ _ _) (congrArg (World.drewN _) (Nat.add_assoc _ _ _))⟩)))
    repeat (go_quiet (first | (go_at_call 50; (with_reducible refine (casketref1_power.calls k 40 t115 _ A3.out).mono ?_); rintro e w' ⟨rfl, ⟨nd, rfl⟩⟩; (try first | exact ⟨rfl, _, World.drewN_drewN _ _ _⟩ | exact ⟨rfl, _, Eq.trans (World.drewN_drewN _ _ _) (congrArg (World.drewN _) (Nat.add_assoc _ _ _))⟩))); try go_wp2_with (first | (go_at_call 50; (with_reducible refine (casketref1_power.calls k 40 t115 _ A3.out).mono ?_); rintro e w' ⟨rfl, ⟨nd, rfl⟩⟩; (try first | exact ⟨rfl, _, World.drewN_drewN _ _ _⟩ | exact ⟨rfl, _, Eq.trans (World.drewN_drewN _ _ _) (congrArg (World.drewN _) (Nat.add_assoc _ _ _))⟩))))
    go_loopg [4, 5] k (fun kq v4 v5 w' => ∃ (x4_1 : Int) (x5_1 : Int), v4 = .int .u64 x4_1 ∧ v5 = .int .i64 x5_1 ∧ Aside0 (casketref1_FromText.l0 kq a0 x4_1 x5_1 = some (r1, r2)) ∧ Aside0 (kq ≤ k) ∧ Drawn0 w w')
    case atStart => exact ⟨(IntKind.u64.wrap ((IntKind.u64.wrap ((a0.size : Int))) * t115)), (0), (by first | rfl | (simp; done) | (simp [*]; done)), (by first | rfl | (simp; done) | (simp [*]; done)), H', ⟨Nat.le_refl _⟩, by repeat (first | exact Drawn0.refl _ | apply Drawn0.step)⟩
    case round =>
      clear H'
      try clear c2
      try clear c2b0
      try clear c2b1
      try clear p2
      obtain ⟨x4_1, x5_1, rfl, rfl, HA, HK1, ⟨m1, rfl⟩⟩ := hrel
      cases gk with
      | zero => exact absurd HA.out (by simp [casketref1_FromText.l0])
      | succ k1 =>
        have H := HA.out
        clear HA
        simp only [casketref1_FromText.l0] at H
        by_cases c4 : x5_1 < (a0.size : Int)
        · rw [if_pos c4] at H
          have c4b0 : decide (x5_1 < (a0.size : Int)) = true := decide_eq_true c4
          clear c4
          by_cases c5 : 0 ≤ x5_1
          · rw [if_pos c5] at H
            have c5b0 : decide (0 ≤ x5_1) = true := decide_eq_true c5
            clear c5
            replace H := Option.bind_eq_some_iff.mp H
            obtain ⟨t116, A70, H⟩ := H
            replace H : (casketref1_FromText.l0 k1 a0 (IntKind.u64.wrap (x4_1 + (IntKind.u64.wrap ((IntKind.u64.wrap (bt a0 x5_1)) * t116)))) (wrap64 (x5_1 + 1))) = some (r1, r2) := H
            have A7 := Aside0.mk A70
            clear A70
            have H' := Aside0.mk H
            clear H
            have p6 : 0 ≤ (x5_1 : Int) := of_decide_eq_true (by first | (with_reducible assumption) | assumption)
            have q6 : x5_1 < (a0.size : Int) := of_decide_eq_true (by first | (with_reducible assumption) | assumption)
            have hx6 := bt_at a0 x5_1
            replace p6 := eq_true p6
            replace q6 := eq_true q6
            go_wp2_with (first | (go_at_call 50; (with_reducible refine (casketref1_power.calls k1 (wrap64 (8 * x5_1)) t116 _ A7.out).mono ?_); rintro e w' ⟨rfl, ⟨nd, rfl⟩⟩; (try first | exact ⟨rfl, _, World.drewN_drewN _ _ _⟩ | exact ⟨rfl, _, Eq.trans (World.drewN_drewN _ _ _) (congrArg (World.drewN _) (Nat.add_assoc _ _ _))⟩)))
            repeat (go_quiet (first | (go_at_call 50; (with_reducible refine (casketref1_power.calls k1 (wrap64 (8 * x5_1)) t116 _ A7.out).mono ?_); rintro e w' ⟨rfl, ⟨nd, rfl⟩⟩; (try first | exact ⟨rfl, _, World.drewN_drewN _ _ _⟩ | exact ⟨rfl, _, Eq.trans (World.drewN_drewN _ _ _) (congrArg (World.drewN _) (Nat.add_assoc _ _ _))⟩))); try go_wp2_with (first | (go_at_call 50; (with_reducible refine (casketref1_power.calls k1 (wrap64 (8 * x5_1)) t116 _ A7.out).mono ?_); rintro e w' ⟨rfl, ⟨nd, rfl⟩⟩; (try first | exact ⟨rfl, _, World.drewN_drewN _ _ _⟩ | exact ⟨rfl, _, Eq.trans (World.drewN_drewN _ _ _) (congrArg (World.drewN _) (Nat.add_assoc _ _ _))⟩))))
            go_roundg k1
            case measure => have := HK1.out; omega
            case rel => exact ⟨(IntKind.u64.wrap (x4_1 + (IntKind.u64.wrap ((IntKind.u64.wrap (bt a0 x5_1)) * t116)))), (wrap64 (x5_1 + 1)), (by first | rfl | (simp; done) | (simp [*]; done)), (by first | rfl | (simp; done) | (simp [*]; done)), H', ⟨by have := HK1.out; omega⟩, by repeat (first | exact Drawn0.refl _ | apply Drawn0.step)⟩
          · rw [if_neg c5] at H
            exact absurd H (by simp)
        · rw [if_neg c4] at H
          have c4b0 : decide (x5_1 < (a0.size : Int)) = false := decide_eq_false c4
          clear c4
          simp only [Option.some.injEq, Prod.mk.injEq] at H
          obtain ⟨rfl, rfl⟩ := H
          go_wp2
          repeat (go_quiet (fail); try go_wp2)
          go_ret2
          exact ⟨by first | rfl | (simp; done) | (simp [*]; done), by repeat (first | exact Drawn0.refl _ | apply Drawn0.step)⟩

/-! ### word_FromHandle: function 26 -/
def word_FromHandle.f (a0 : Int) : Option (Int × Bool) := if a0 > 281474976710655 then (some (0, false)) else ((word_tagged.f 3 a0).bind fun t117 => (some (t117, true)))
set_option maxHeartbeats 8000000 in
set_option maxRecDepth 100000 in
theorem word_FromHandle.calls (a0 : Int) (r1 : Int) (r2 : Bool) (w : World) (h : word_FromHandle.f a0 = some (r1, r2)) :
    Calls Try.prog 26 #[.int .u64 a0] w fun e w' => e = .returned (.tuple #[.int .u64 r1, .bool r2]) ∧ Drawn0 w w' := by
  have H : (if a0 > 281474976710655 then (some (0, false)) else ((word_tagged.f 3 a0).bind fun t117 => (some (t117, true)))) = some (r1, r2) := h
  clear h
  by_cases c2 : a0 > 281474976710655
  · rw [if_pos c2] at H
    have c2b0 : decide (281474976710655 < a0) = true := decide_eq_true c2
    clear c2
    simp only [Option.some.injEq, Prod.mk.injEq] at H
    obtain ⟨rfl, rfl⟩ := H
    go_enter Try.func26, Try.ntmps26
    go_wp2
    go_ret2
    exact ⟨by first | rfl | (simp; done) | (simp [*]; done), by repeat (first | exact Drawn0.refl _ | apply Drawn0.step)⟩
  · rw [if_neg c2] at H
    have c2b0 : decide (281474976710655 < a0) = false := decide_eq_false c2
    clear c2
    replace H := Option.bind_eq_some_iff.mp H
    obtain ⟨t117, A30, H⟩ := H
    replace H : (some (t117, true)) = some (r1, r2) := H
    have A3 := Aside0.mk A30
    clear A30
    simp only [Option.some.injEq, Prod.mk.injEq] at H
    obtain ⟨rfl, rfl⟩ := H
    go_enter Try.func26, Try.ntmps26
    go_wp2_with (first | ((with_reducible refine gate_callee (f := 47) rfl ?_); refine goesL_ (some 7) rfl rfl Try.func47 (by kernel_rfl) rfl #[.int .u64 3, .int .u64 a0] rfl (by (try simp only [List.map_toArray, List.map_cons, List.map_nil]); first | done | rfl | (simp only [List.length_drop, List.length_take]; rfl)) ?_; (with_reducible refine (word_tagged.calls 3 a0 t117 _ A3.out).mono ?_); rintro e w' ⟨rfl, ⟨nd, rfl⟩⟩; refine ⟨_, rfl, ?_⟩))
    go_ret2
    exact ⟨by first | rfl | (simp; done) | (simp [*]; done), by repeat (first | exact Drawn0.refl _ | apply Drawn0.step)⟩

/-! ### casketref1_FromHandle: function 27 -/
def casketref1_FromHandle.f (a0 : Int) : Option (Int × Bool) := if a0 ≥ 281474976710656 then (some (0, false)) else (some (IntKind.u64.wrap (18445336698825998336 + a0), true))
set_option maxHeartbeats 8000000 in
set_option maxRecDepth 100000 in
theorem casketref1_FromHandle.calls (a0 : Int) (r1 : Int) (r2 : Bool) (w : World) (h : casketref1_FromHandle.f a0 = some (r1, r2)) :
    Calls Try.prog 27 #[.int .u64 a0] w fun e w' => e = .returned (.tuple #[.int .u64 r1, .bool r2]) ∧ Drawn0 w w' := by
  have H : (if a0 ≥ 281474976710656 then (some (0, false)) else (some (IntKind.u64.wrap (18445336698825998336 + a0), true))) = some (r1, r2) := h
  clear h
  by_cases c2 : a0 ≥ 281474976710656
  · rw [if_pos c2] at H
    have c2b0 : decide (281474976710656 ≤ a0) = true := decide_eq_true c2
    clear c2
    simp only [Option.some.injEq, Prod.mk.injEq] at H
    obtain ⟨rfl, rfl⟩ := H
    go_enter Try.func27, Try.ntmps27
    go_wp2
    go_ret2
    exact ⟨by first | rfl | (simp; done) | (simp [*]; done), by repeat (first | exact Drawn0.refl _ | apply Drawn0.step)⟩
  · rw [if_neg c2] at H
    have c2b0 : decide (281474976710656 ≤ a0) = false := decide_eq_false c2
    clear c2
    simp only [Option.some.injEq, Prod.mk.injEq] at H
    obtain ⟨rfl, rfl⟩ := H
    go_enter Try.func27, Try.ntmps27
    go_wp2
    go_ret2
    exact ⟨by first | rfl | (simp; done) | (simp [*]; done), by repeat (first | exact Drawn0.refl _ | apply Drawn0.step)⟩

/-! ### casketlaw1_WordBoxes: function 6 -/
mutual
def casketlaw1_WordBoxes.j0 : Nat → Int → ByteArray → Int → Bool → Option (Bool)
  | 0, _, _, _, _ => none
  | k + 1, x1, x3, x4, x34 => if x34 = true then (some false) else ((word_FromInt.f x1).bind fun bt124 => ((casketref1_FromInt.f x1).bind fun bt126 => (if bt124.1 = bt126.1 then (casketlaw1_WordBoxes.j1 k x3 x4 (bt124.2 != bt126.2)) else (casketlaw1_WordBoxes.j1 k x3 x4 true))))
def casketlaw1_WordBoxes.j1 : Nat → ByteArray → Int → Bool → Option (Bool)
  | 0, _, _, _ => none
  | k + 1, x3, x4, x52 => if x52 = true then (some false) else ((word_FromText.f k x3).bind fun bt128 => ((casketref1_FromText.f k x3).bind fun bt130 => (if bt128.1 = bt130.1 then (casketlaw1_WordBoxes.j2 k x4 (bt128.2 != bt130.2)) else (casketlaw1_WordBoxes.j2 k x4 true))))
def casketlaw1_WordBoxes.j2 : Nat → Int → Bool → Option (Bool)
  | 0, _, _ => none
  | k + 1, x4, x70 => if x70 = true then (some false) else ((word_FromHandle.f x4).bind fun bt132 => ((casketref1_FromHandle.f x4).bind fun bt134 => (if bt132.1 = bt134.1 then (if (bt132.2 == bt134.2) = true then ((casketlaw1_awake.f k).bind fun t136 => (some t136)) else (some false)) else (some false))))
end
def casketlaw1_WordBoxes.f (k : Nat) (a0 : Int) (a1 : Int) (a2 : Bool) (a3 : ByteArray) (a4 : Int) : Option (Bool) := if (a3.size : Int) > 1000 then (some true) else ((word_FromFloat.f a0).bind fun t118 => ((casketref1_FromFloat.f a0).bind fun t119 => (if t118 = t119 then ((word_FromNil.f).bind fun t120 => ((casketref1_FromNil.f).bind fun t121 => (if t120 = t121 then ((word_FromBool.f a2).bind fun t122 => ((casketref1_FromBool.f a2).bind fun t123 => (casketlaw1_WordBoxes.j0 k a1 a3 a4 (t122 != t123)))) else (casketlaw1_WordBoxes.j0 k a1 a3 a4 true)))) else (casketlaw1_WordBoxes.j0 k a1 a3 a4 true))))
theorem casketlaw1_WordBoxes.mono_l : ∀ k, (∀ y0 y1 y2 y3, LeO (casketlaw1_WordBoxes.j0 k y0 y1 y2 y3) (casketlaw1_WordBoxes.j0 (k + 1) y0 y1 y2 y3)) ∧ (∀ y0 y1 y2, LeO (casketlaw1_WordBoxes.j1 k y0 y1 y2) (casketlaw1_WordBoxes.j1 (k + 1) y0 y1 y2)) ∧ (∀ y0 y1, LeO (casketlaw1_WordBoxes.j2 k y0 y1) (casketlaw1_WordBoxes.j2 (k + 1) y0 y1))
  | 0 => ⟨fun _ _ _ _ r h => by simp [casketlaw1_WordBoxes.j0] at h, fun _ _ _ r h => by simp [casketlaw1_WordBoxes.j1] at h, fun _ _ r h => by simp [casketlaw1_WordBoxes.j2] at h⟩
  | k + 1 => by
    obtain ⟨ih0, ih1, ih2⟩ := casketlaw1_WordBoxes.mono_l k
    refine ⟨?_, ?_, ?_⟩
    · intro y0 y1 y2 y3
      unfold casketlaw1_WordBoxes.j0
      repeat' first
      | (with_reducible exact ih0 _ _ _ _)
      | (with_reducible exact ih1 _ _ _)
      | (with_reducible exact ih2 _ _)
      | (with_reducible exact casketlaw1_awake.mono _)
      | (with_reducible exact casketref1_FromText.mono _ _)
      | (with_reducible exact word_FromText.mono _ _)
      | (with_reducible exact LeO.refl _)
      | (with_reducible exact LeO.none _)
      | (with_reducible refine LeO.ite ?_ ?_)
      | (with_reducible refine LeO.bind ?_ (fun _ => ?_))
      | exact ih0 _ _ _ _
      | exact ih1 _ _ _
      | exact ih2 _ _
      | exact casketlaw1_awake.mono _
      | exact casketref1_FromText.mono _ _
      | exact word_FromText.mono _ _
      | exact LeO.none _
      | refine LeO.ite ?_ ?_
      | refine LeO.bind ?_ (fun _ => ?_)
    · intro y0 y1 y2
      unfold casketlaw1_WordBoxes.j1
      repeat' first
      | (with_reducible exact ih0 _ _ _ _)
      | (with_reducible exact ih1 _ _ _)
      | (with_reducible exact ih2 _ _)
      | (with_reducible exact casketlaw1_awake.mono _)
      | (with_reducible exact casketref1_FromText.mono _ _)
      | (with_reducible exact word_FromText.mono _ _)
      | (with_reducible exact LeO.refl _)
      | (with_reducible exact LeO.none _)
      | (with_reducible refine LeO.ite ?_ ?_)
      | (with_reducible refine LeO.bind ?_ (fun _ => ?_))
      | exact ih0 _ _ _ _
      | exact ih1 _ _ _
      | exact ih2 _ _
      | exact casketlaw1_awake.mono _
      | exact casketref1_FromText.mono _ _
      | exact word_FromText.mono _ _
      | exact LeO.none _
      | refine LeO.ite ?_ ?_
      | refine LeO.bind ?_ (fun _ => ?_)
    · intro y0 y1
      unfold casketlaw1_WordBoxes.j2
      repeat' first
      | (with_reducible exact ih0 _ _ _ _)
      | (with_reducible exact ih1 _ _ _)
      | (with_reducible exact ih2 _ _)
      | (with_reducible exact casketlaw1_awake.mono _)
      | (with_reducible exact casketref1_FromText.mono _ _)
      | (with_reducible exact word_FromText.mono _ _)
      | (with_reducible exact LeO.refl _)
      | (with_reducible exact LeO.none _)
      | (with_reducible refine LeO.ite ?_ ?_)
      | (with_reducible refine LeO.bind ?_ (fun _ => ?_))
      | exact ih0 _ _ _ _
      | exact ih1 _ _ _
      | exact ih2 _ _
      | exact casketlaw1_awake.mono _
      | exact casketref1_FromText.mono _ _
      | exact word_FromText.mono _ _
      | exact LeO.none _
      | refine LeO.ite ?_ ?_
      | refine LeO.bind ?_ (fun _ => ?_)
theorem casketlaw1_WordBoxes.mono : ∀ a0 a1 a2 a3 a4 k, LeO (casketlaw1_WordBoxes.f k a0 a1 a2 a3 a4) (casketlaw1_WordBoxes.f (k + 1) a0 a1 a2 a3 a4) := by
  intro a0 a1 a2 a3 a4 k
  obtain ⟨ih0, ih1, ih2⟩ := casketlaw1_WordBoxes.mono_l k
  unfold casketlaw1_WordBoxes.f
  repeat' first
      | (with_reducible exact ih0 _ _ _ _)
      | (with_reducible exact ih1 _ _ _)
      | (with_reducible exact ih2 _ _)
      | (with_reducible exact casketlaw1_awake.mono _)
      | (with_reducible exact casketref1_FromText.mono _ _)
      | (with_reducible exact word_FromText.mono _ _)
      | (with_reducible exact LeO.refl _)
      | (with_reducible exact LeO.none _)
      | (with_reducible refine LeO.ite ?_ ?_)
      | (with_reducible refine LeO.bind ?_ (fun _ => ?_))
      | exact ih0 _ _ _ _
      | exact ih1 _ _ _
      | exact ih2 _ _
      | exact casketlaw1_awake.mono _
      | exact casketref1_FromText.mono _ _
      | exact word_FromText.mono _ _
      | exact LeO.none _
      | refine LeO.ite ?_ ?_
      | refine LeO.bind ?_ (fun _ => ?_)
set_option maxHeartbeats 8000000 in
set_option maxRecDepth 100000 in
theorem casketlaw1_WordBoxes.calls (k : Nat) (a0 : Int) (a1 : Int) (a2 : Bool) (a3 : ByteArray) (a4 : Int) (r : Bool) (w : World) (h : casketlaw1_WordBoxes.f k a0 a1 a2 a3 a4 = some r) :
    Calls Try.prog 6 #[.int .u64 a0, .int .i64 a1, .bool a2, .string a3, .int .u64 a4] w fun e w' => e = .returned (.bool r) ∧ Drawn0 w w' := by
  have H : (if (a3.size : Int) > 1000 then (some true) else ((word_FromFloat.f a0).bind fun t118 => ((casketref1_FromFloat.f a0).bind fun t119 => (if t118 = t119 then ((word_FromNil.f).bind fun t120 => ((casketref1_FromNil.f).bind fun t121 => (if t120 = t121 then ((word_FromBool.f a2).bind fun t122 => ((casketref1_FromBool.f a2).bind fun t123 => (casketlaw1_WordBoxes.j0 k a1 a3 a4 (t122 != t123)))) else (casketlaw1_WordBoxes.j0 k a1 a3 a4 true)))) else (casketlaw1_WordBoxes.j0 k a1 a3 a4 true))))) = some r := h
  clear h
  by_cases c6 : (a3.size : Int) > 1000
  · rw [if_pos c6] at H
    have c6b0 : decide (1000 < (a3.size : Int)) = true := decide_eq_true c6
    have c6b1 : decide (1000 < a3.size) = true := decide_eq_true (by omega)
    clear c6
    obtain rfl := Option.some.inj H
    go_enter Try.func6, Try.ntmps6
    go_wp2
    go_ret
    exact ⟨by first | rfl | (simp; done) | (simp [*]; done), by repeat (first | exact Drawn0.refl _ | apply Drawn0.step)⟩
  · rw [if_neg c6] at H
    have c6b0 : decide (1000 < (a3.size : Int)) = false := decide_eq_false c6
    have c6b1 : decide (1000 < a3.size) = false := decide_eq_false (by omega)
    clear c6
    have HC7 := Aside0.mk H
    clear H
    go_enter Try.func6, Try.ntmps6
    go_upto_region 3 with (fail)
    go_cut [34] (fun v34 wc => ∃ (kq : Nat) (x34_6 : Bool), v34 = .bool x34_6 ∧ Aside0 (casketlaw1_WordBoxes.j0 kq a1 a3 a4 x34_6 = some r) ∧ Aside0 (kq ≤ k) ∧ Drawn0 w wc)
    case first =>
      have H := HC7.out
      clear HC7
      replace H := Option.bind_eq_some_iff.mp H
      obtain ⟨t118, A80, H⟩ := H
      replace H : ((casketref1_FromFloat.f a0).bind fun t119 => (if t118 = t119 then ((word_FromNil.f).bind fun t120 => ((casketref1_FromNil.f).bind fun t121 => (if t120 = t121 then ((word_FromBool.f a2).bind fun t122 => ((casketref1_FromBool.f a2).bind fun t123 => (casketlaw1_WordBoxes.j0 k a1 a3 a4 (t122 != t123)))) else (casketlaw1_WordBoxes.j0 k a1 a3 a4 true)))) else (casketlaw1_WordBoxes.j0 k a1 a3 a4 true))) = some r := H
      have A8 := Aside0.mk A80
      clear A80
      replace H := Option.bind_eq_some_iff.mp H
      obtain ⟨t119, A90, H⟩ := H
      replace H : (if t118 = t119 then ((word_FromNil.f).bind fun t120 => ((casketref1_FromNil.f).bind fun t121 => (if t120 = t121 then ((word_FromBool.f a2).bind fun t122 => ((casketref1_FromBool.f a2).bind fun t123 => (casketlaw1_WordBoxes.j0 k a1 a3 a4 (t122 != t123)))) else (casketlaw1_WordBoxes.j0 k a1 a3 a4 true)))) else (casketlaw1_WordBoxes.j0 k a1 a3 a4 true)) = some r := H
      have A9 := Aside0.mk A90
      clear A90
      by_cases c10 : t118 = t119
      · rw [if_pos c10] at H
        have c10b0 : (t118 == t119) = true := beq_iff_eq.mpr c10
        have c10b1 : (t118 != t119) = false := bne_eq_false_iff_eq.mpr c10
        clear c10
        (first | rw [c10b0] | (simp only [i64_w, i32_w]; rw [c10b0]) | skip)
        replace H := Option.bind_eq_some_iff.mp H
        obtain ⟨t120, A110, H⟩ := H
        replace H : ((casketref1_FromNil.f).bind fun t121 => (if t120 = t121 then ((word_FromBool.f a2).bind fun t122 => ((casketref1_FromBool.f a2).bind fun t123 => (casketlaw1_WordBoxes.j0 k a1 a3 a4 (t122 != t123)))) else (casketlaw1_WordBoxes.j0 k a1 a3 a4 true))) = some r := H
        have A11 := Aside0.mk A110
        clear A110
        replace H := Option.bind_eq_some_iff.mp H
        obtain ⟨t121, A120, H⟩ := H
        replace H : (if t120 = t121 then ((word_FromBool.f a2).bind fun t122 => ((casketref1_FromBool.f a2).bind fun t123 => (casketlaw1_WordBoxes.j0 k a1 a3 a4 (t122 != t123)))) else (casketlaw1_WordBoxes.j0 k a1 a3 a4 true)) = some r := H
        have A12 := Aside0.mk A120
        clear A120
        by_cases c13 : t120 = t121
        · rw [if_pos c13] at H
          have c13b0 : (t120 == t121) = true := beq_iff_eq.mpr c13
          have c13b1 : (t120 != t121) = false := bne_eq_false_iff_eq.mpr c13
          clear c13
          replace H := Option.bind_eq_some_iff.mp H
          obtain ⟨t122, A140, H⟩ := H
          replace H : ((casketref1_FromBool.f a2).bind fun t123 => (casketlaw1_WordBoxes.j0 k a1 a3 a4 (t122 != t123))) = some r := H
          have A14 := Aside0.mk A140
          clear A140
          replace H := Option.bind_eq_some_iff.mp H
          obtain ⟨t123, A150, H⟩ := H
          replace H : (casketlaw1_WordBoxes.j0 k a1 a3 a4 (t122 != t123)) = some r := H
          have A15 := Aside0.mk A150
          clear A150
          have H' := Aside0.mk H
          clear H
          go_wp2_with (first | ((with_reducible refine gate_callee (f := 20) rfl ?_); refine goesL_ (some 19) rfl rfl Try.func20 (by kernel_rfl) rfl #[.int .u64 a0] rfl (by (try simp only [List.map_toArray, List.map_cons, List.map_nil]); first | done | rfl | (simp only [List.length_drop, List.length_take]; rfl)) ?_; (with_reducible refine (word_FromFloat.calls a0 t118 _ A8.out).mono ?_); rintro e w' ⟨rfl, ⟨nd, rfl⟩⟩; refine ⟨_, rfl, ?_⟩) | ((with_reducible refine gate_callee (f := 21) rfl ?_); refine goesL_ (some 21) rfl rfl Try.func21 (by kernel_rfl) rfl #[.int .u64 a0] rfl (by (try simp only [List.map_toArray, List.map_cons, List.map_nil]); first | done | rfl | (simp only [List.length_drop, List.length_take]; rfl)) ?_; (with_reducible refine (casketref1_FromFloat.calls a0 t119 _ A9.out).mono ?_); rintro e w' ⟨rfl, ⟨nd, rfl⟩⟩; refine ⟨_, rfl, ?_⟩) | (go_at_call 18; (with_reducible refine (word_FromNil.calls  t120 _ A11.out).mono ?_); rintro e w' ⟨rfl, ⟨nd, rfl⟩⟩) | (go_at_call 22; (with_reducible refine (casketref1_FromNil.calls  t121 _ A12.out).mono ?_); rintro e w' ⟨rfl, ⟨nd, rfl⟩⟩) | (go_at_call 19; (with_reducible refine (word_FromBool.calls a2 t122 _ A14.out).mono ?_); rintro e w' ⟨rfl, ⟨nd, rfl⟩⟩) | (go_at_call 23; (with_reducible refine (casketref1_FromBool.calls a2 t123 _ A15.out).mono ?_); rintro e w' ⟨rfl, ⟨nd, rfl⟩⟩))
          go_meet
          case rel => exact ⟨_, ((t122 != t123)), (by first | rfl | (simp; done) | (simp [*]; done)), H', ⟨by first | omega | exact Nat.le_refl _⟩, by repeat (first | exact Drawn0.refl _ | apply Drawn0.step)⟩
        · rw [if_neg c13] at H
          have c13b0 : (t120 == t121) = false := beq_eq_false_iff_ne.mpr c13
          have c13b1 : (t120 != t121) = true := bne_iff_ne.mpr c13
          have H' := Aside0.mk H
          clear H
          go_wp2_with (first | ((with_reducible refine gate_callee (f := 20) rfl ?_); refine goesL_ (some 19) rfl rfl Try.func20 (by kernel_rfl) rfl #[.int .u64 a0] rfl (by (try simp only [List.map_toArray, List.map_cons, List.map_nil]); first | done | rfl | (simp only [List.length_drop, List.length_take]; rfl)) ?_; (with_reducible refine (word_FromFloat.calls a0 t118 _ A8.out).mono ?_); rintro e w' ⟨rfl, ⟨nd, rfl⟩⟩; refine ⟨_, rfl, ?_⟩) | ((with_reducible refine gate_callee (f := 21) rfl ?_); refine goesL_ (some 21) rfl rfl Try.func21 (by kernel_rfl) rfl #[.int .u64 a0] rfl (by (try simp only [List.map_toArray, List.map_cons, List.map_nil]); first | done | rfl | (simp only [List.length_drop, List.length_take]; rfl)) ?_; (with_reducible refine (casketref1_FromFloat.calls a0 t119 _ A9.out).mono ?_); rintro e w' ⟨rfl, ⟨nd, rfl⟩⟩; refine ⟨_, rfl, ?_⟩) | (go_at_call 18; (with_reducible refine (word_FromNil.calls  t120 _ A11.out).mono ?_); rintro e w' ⟨rfl, ⟨nd, rfl⟩⟩) | (go_at_call 22; (with_reducible refine (casketref1_FromNil.calls  t121 _ A12.out).mono ?_); rintro e w' ⟨rfl, ⟨nd, rfl⟩⟩))
          go_meet
          case rel => exact ⟨_, (true), (by first | rfl | (simp; done) | (simp [*]; done)), H', ⟨by first | omega | exact Nat.le_refl _⟩, by repeat (first | exact Drawn0.refl _ | apply Drawn0.step)⟩
      · rw [if_neg c10] at H
        have c10b0 : (t118 == t119) = false := beq_eq_false_iff_ne.mpr c10
        have c10b1 : (t118 != t119) = true := bne_iff_ne.mpr c10
        (first | rw [c10b0] | (simp only [i64_w, i32_w]; rw [c10b0]) | skip)
        have H' := Aside0.mk H
        clear H
        go_wp2_with (first | ((with_reducible refine gate_callee (f := 20) rfl ?_); refine goesL_ (some 19) rfl rfl Try.func20 (by kernel_rfl) rfl #[.int .u64 a0] rfl (by (try simp only [List.map_toArray, List.map_cons, List.map_nil]); first | done | rfl | (simp only [List.length_drop, List.length_take]; rfl)) ?_; (with_reducible refine (word_FromFloat.calls a0 t118 _ A8.out).mono ?_); rintro e w' ⟨rfl, ⟨nd, rfl⟩⟩; refine ⟨_, rfl, ?_⟩) | ((with_reducible refine gate_callee (f := 21) rfl ?_); refine goesL_ (some 21) rfl rfl Try.func21 (by kernel_rfl) rfl #[.int .u64 a0] rfl (by (try simp only [List.map_toArray, List.map_cons, List.map_nil]); first | done | rfl | (simp only [List.length_drop, List.length_take]; rfl)) ?_; (with_reducible refine (casketref1_FromFloat.calls a0 t119 _ A9.out).mono ?_); rintro e w' ⟨rfl, ⟨nd, rfl⟩⟩; refine ⟨_, rfl, ?_⟩))
        go_meet
        case rel => exact ⟨_, (true), (by first | rfl | (simp; done) | (simp [*]; done)), H', ⟨by first | omega | exact Nat.le_refl _⟩, by repeat (first | exact Drawn0.refl _ | apply Drawn0.step)⟩
    case rest =>
      clear HC7
      try clear c1
      try clear c2
      try clear p2
      try clear c6
      try clear c6b0
      try clear c6b1
      try clear c10
      try clear c10b0
      try clear c10b1
      try clear c13
      try clear c13b0
      try clear c13b1
      obtain ⟨kq, x34_6, rfl, HA, HJ6, ⟨mc6, rfl⟩⟩ := hcut
      cases kq with
      | zero => exact absurd HA.out (by simp [casketlaw1_WordBoxes.j0])
      | succ kj6 =>
        have H := HA.out
        clear HA
        simp only [casketlaw1_WordBoxes.j0] at H
        by_cases c16 : x34_6 = true
        · subst c16
          have H1 : (some false) = some r := by rw [if_pos rfl] at H; exact H
          clear H
          have H := H1
          clear H1
          obtain rfl := Option.some.inj H
          go_wp2
          go_ret
          exact ⟨by first | rfl | (simp; done) | (simp [*]; done), by repeat (first | exact Drawn0.refl _ | apply Drawn0.step)⟩
        · replace c16 := Bool.eq_false_iff.mpr c16
          subst c16
          have H1 : ((word_FromInt.f a1).bind fun bt124 => ((casketref1_FromInt.f a1).bind fun bt126 => (if bt124.1 = bt126.1 then (casketlaw1_WordBoxes.j1 kj6 a3 a4 (bt124.2 != bt126.2)) else (casketlaw1_WordBoxes.j1 kj6 a3 a4 true)))) = some r := by rw [if_neg (show ¬ (false = true) by decide)] at H; exact H
          clear H
          have H := H1
          clear H1
          replace H := Option.bind_eq_some_iff.mp H
          obtain ⟨⟨t124, t125⟩, A170, H⟩ := H
          replace H : ((casketref1_FromInt.f a1).bind fun bt126 => (if t124 = bt126.1 then (casketlaw1_WordBoxes.j1 kj6 a3 a4 (t125 != bt126.2)) else (casketlaw1_WordBoxes.j1 kj6 a3 a4 true))) = some r := H
          have A17 := Aside0.mk A170
          clear A170
          replace H := Option.bind_eq_some_iff.mp H
          obtain ⟨⟨t126, t127⟩, A180, H⟩ := H
          replace H : (if t124 = t126 then (casketlaw1_WordBoxes.j1 kj6 a3 a4 (t125 != t127)) else (casketlaw1_WordBoxes.j1 kj6 a3 a4 true)) = some r := H
          have A18 := Aside0.mk A180
          clear A180
          have HC19 := Aside0.mk H
          clear H
          go_upto_region 7 with (first | ((with_reducible refine gate_callee (f := 16) rfl ?_); refine goesL_ (some 37) rfl rfl Try.func16 (by kernel_rfl) rfl #[.int .i64 a1] rfl (by (try simp only [List.map_toArray, List.map_cons, List.map_nil]); first | done | rfl | (simp only [List.length_drop, List.length_take]; rfl)) ?_; (with_reducible refine (word_FromInt.calls a1 t124 t125 _ A17.out).mono ?_); rintro e w' ⟨rfl, ⟨nd, rfl⟩⟩; refine ⟨_, rfl, ?_⟩) | ((with_reducible refine gate_callee (f := 24) rfl ?_); refine goesL_ (some 42) rfl rfl Try.func24 (by kernel_rfl) rfl #[.int .i64 a1] rfl (by (try simp only [List.map_toArray, List.map_cons, List.map_nil]); first | done | rfl | (simp only [List.length_drop, List.length_take]; rfl)) ?_; (with_reducible refine (casketref1_FromInt.calls a1 t126 t127 _ A18.out).mono ?_); rintro e w' ⟨rfl, ⟨nd, rfl⟩⟩; refine ⟨_, rfl, ?_⟩))
          (try simp only [Act.put, List.setIfInBounds_toArray, List.set_cons_zero, List.set_cons_succ])
          go_cut [52] (fun v52 wc => ∃ (kq : Nat) (x52_18 : Bool), v52 = .bool x52_18 ∧ Aside0 (casketlaw1_WordBoxes.j1 kq a3 a4 x52_18 = some r) ∧ Aside0 (kq ≤ kj6) ∧ Drawn0 w wc)
          case first =>
            have H := HC19.out
            clear HC19
            by_cases c20 : t124 = t126
            · rw [if_pos c20] at H
              have c20b0 : (t124 == t126) = true := beq_iff_eq.mpr c20
              have c20b1 : (t124 != t126) = false := bne_eq_false_iff_eq.mpr c20
              clear c20
              (first | rw [c20b0] | (simp only [i64_w, i32_w]; rw [c20b0]) | skip)
              have H' := Aside0.mk H
              clear H
              go_wp2
              go_meet
              case rel => exact ⟨_, ((t125 != t127)), (by first | rfl | (simp; done) | (simp [*]; done)), H', ⟨by have := HJ6.out; first | omega | exact Nat.le_refl _⟩, by repeat (first | exact Drawn0.refl _ | apply Drawn0.step)⟩
            · rw [if_neg c20] at H
              have c20b0 : (t124 == t126) = false := beq_eq_false_iff_ne.mpr c20
              have c20b1 : (t124 != t126) = true := bne_iff_ne.mpr c20
              (first | rw [c20b0] | (simp only [i64_w, i32_w]; rw [c20b0]) | skip)
              have H' := Aside0.mk H
              clear H
              go_wp2
              go_meet
              case rel => exact ⟨_, (true), (by first | rfl | (simp; done) | (simp [*]; done)), H', ⟨by have := HJ6.out; first | omega | exact Nat.le_refl _⟩, by repeat (first | exact Drawn0.refl _ | apply Drawn0.step)⟩
          case rest =>
            clear HC19
            try clear c1
            try clear c2
            try clear p2
            try clear c6
            try clear c6b0
            try clear c6b1
            try clear c10
            try clear c10b0
            try clear c10b1
            try clear c13
            try clear c13b0
            try clear c13b1
            try clear c16
            try clear c20
            try clear c20b0
            try clear c20b1
            try clear p2
            obtain ⟨kq, x52_18, rfl, HA, HJ18, ⟨mc18, rfl⟩⟩ := hcut
            cases kq with
            | zero => exact absurd HA.out (by simp [casketlaw1_WordBoxes.j1])
            | succ kj18 =>
              have H := HA.out
              clear HA
              simp only [casketlaw1_WordBoxes.j1] at H
              by_cases c21 : x52_18 = true
              · subst c21
                have H1 : (some false) = some r := by rw [if_pos rfl] at H; exact H
                clear H
                have H := H1
                clear H1
                obtain rfl := Option.some.inj H
                go_wp2
                go_ret
                exact ⟨by first | rfl | (simp; done) | (simp [*]; done), by repeat (first | exact Drawn0.refl _ | apply Drawn0.step)⟩
              · replace c21 := Bool.eq_false_iff.mpr c21
                subst c21
                have H1 : ((word_FromText.f kj18 a3).bind fun bt128 => ((casketref1_FromText.f kj18 a3).bind fun bt130 => (if bt128.1 = bt130.1 then (casketlaw1_WordBoxes.j2 kj18 a4 (bt128.2 != bt130.2)) else (casketlaw1_WordBoxes.j2 kj18 a4 true)))) = some r := by rw [if_neg (show ¬ (false = true) by decide)] at H; exact H
                clear H
                have H := H1
                clear H1
                replace H := Option.bind_eq_some_iff.mp H
                obtain ⟨⟨t128, t129⟩, A220, H⟩ := H
                replace H : ((casketref1_FromText.f kj18 a3).bind fun bt130 => (if t128 = bt130.1 then (casketlaw1_WordBoxes.j2 kj18 a4 (t129 != bt130.2)) else (casketlaw1_WordBoxes.j2 kj18 a4 true))) = some r := H
                have A22 := Aside0.mk A220
                clear A220
                replace H := Option.bind_eq_some_iff.mp H
                obtain ⟨⟨t130, t131⟩, A230, H⟩ := H
                replace H : (if t128 = t130 then (casketlaw1_WordBoxes.j2 kj18 a4 (t129 != t131)) else (casketlaw1_WordBoxes.j2 kj18 a4 true)) = some r := H
                have A23 := Aside0.mk A230
                clear A230
                have HC24 := Aside0.mk H
                clear H
                go_upto_region 11 with (first | ((with_reducible refine gate_callee (f := 17) rfl ?_); refine goesL_ (some 55) rfl rfl Try.func17 (by kernel_rfl) rfl #[.string a3] rfl (by (try simp only [List.map_toArray, List.map_cons, List.map_nil]); first | done | rfl | (simp only [List.length_drop, List.length_take]; rfl)) ?_; (with_reducible refine (word_FromText.calls kj18 a3 t128 t129 _ A22.out).mono ?_); rintro e w' ⟨rfl, ⟨nd, rfl⟩⟩; refine ⟨_, rfl, ?_⟩) | ((with_reducible refine gate_callee (f := 25) rfl ?_); refine goesL_ (some 60) rfl rfl Try.func25 (by kernel_rfl) rfl #[.string a3] rfl (by (try simp only [List.map_toArray, List.map_cons, List.map_nil]); first | done | rfl | (simp only [List.length_drop, List.length_take]; rfl)) ?_; (with_reducible refine (casketref1_FromText.calls kj18 a3 t130 t131 _ A23.out).mono ?_); rintro e w' ⟨rfl, ⟨nd, rfl⟩⟩; refine ⟨_, rfl, ?_⟩))
                (try simp only [Act.put, List.setIfInBounds_toArray, List.set_cons_zero, List.set_cons_succ])
                go_cut [70] (fun v70 wc => ∃ (kq : Nat) (x70_23 : Bool), v70 = .bool x70_23 ∧ Aside0 (casketlaw1_WordBoxes.j2 kq a4 x70_23 = some r) ∧ Aside0 (kq ≤ kj18) ∧ Drawn0 w wc)
                case first =>
                  have H := HC24.out
                  clear HC24
                  by_cases c25 : t128 = t130
                  · rw [if_pos c25] at H
                    have c25b0 : (t128 == t130) = true := beq_iff_eq.mpr c25
                    have c25b1 : (t128 != t130) = false := bne_eq_false_iff_eq.mpr c25
                    clear c25
                    (first | rw [c25b0] | (simp only [i64_w, i32_w]; rw [c25b0]) | skip)
                    have H' := Aside0.mk H
                    clear H
                    go_wp2
                    go_meet
                    case rel => exact ⟨_, ((t129 != t131)), (by first | rfl | (simp; done) | (simp [*]; done)), H', ⟨by have := HJ6.out; have := HJ18.out; first | omega | exact Nat.le_refl _⟩, by repeat (first | exact Drawn0.refl _ | apply Drawn0.step)⟩
                  · rw [if_neg c25] at H
                    have c25b0 : (t128 == t130) = false := beq_eq_false_iff_ne.mpr c25
                    have c25b1 : (t128 != t130) = true := bne_iff_ne.mpr c25
                    (first | rw [c25b0] | (simp only [i64_w, i32_w]; rw [c25b0]) | skip)
                    have H' := Aside0.mk H
                    clear H
                    go_wp2
                    go_meet
                    case rel => exact ⟨_, (true), (by first | rfl | (simp; done) | (simp [*]; done)), H', ⟨by have := HJ6.out; have := HJ18.out; first | omega | exact Nat.le_refl _⟩, by repeat (first | exact Drawn0.refl _ | apply Drawn0.step)⟩
                case rest =>
                  clear HC24
                  try clear c1
                  try clear c2
                  try clear p2
                  try clear c6
                  try clear c6b0
                  try clear c6b1
                  try clear c10
                  try clear c10b0
                  try clear c10b1
                  try clear c13
                  try clear c13b0
                  try clear c13b1
                  try clear c16
                  try clear c17
                  try clear c18
                  try clear c20
                  try clear c20b0
                  try clear c20b1
                  try clear c21
                  try clear c24
                  try clear c25
                  try clear c25b0
                  try clear c25b1
                  try clear p2
                  obtain ⟨kq, x70_23, rfl, HA, HJ23, ⟨mc23, rfl⟩⟩ := hcut
                  cases kq with
                  | zero => exact absurd HA.out (by simp [casketlaw1_WordBoxes.j2])
                  | succ kj23 =>
                    have H := HA.out
                    clear HA
                    simp only [casketlaw1_WordBoxes.j2] at H
                    by_cases c26 : x70_23 = true
                    · subst c26
                      have H1 : (some false) = some r := by rw [if_pos rfl] at H; exact H
                      clear H
                      have H := H1
                      clear H1
                      obtain rfl := Option.some.inj H
                      go_wp2
                      go_ret
                      exact ⟨by first | rfl | (simp; done) | (simp [*]; done), by repeat (first | exact Drawn0.refl _ | apply Drawn0.step)⟩
                    · replace c26 := Bool.eq_false_iff.mpr c26
                      subst c26
                      have H1 : ((word_FromHandle.f a4).bind fun bt132 => ((casketref1_FromHandle.f a4).bind fun bt134 => (if bt132.1 = bt134.1 then (if (bt132.2 == bt134.2) = true then ((casketlaw1_awake.f kj23).bind fun t136 => (some t136)) else (some false)) else (some false)))) = some r := by rw [if_neg (show ¬ (false = true) by decide)] at H; exact H
                      clear H
                      have H := H1
                      clear H1
                      replace H := Option.bind_eq_some_iff.mp H
                      obtain ⟨⟨t132, t133⟩, A270, H⟩ := H
                      replace H : ((casketref1_FromHandle.f a4).bind fun bt134 => (if t132 = bt134.1 then (if (t133 == bt134.2) = true then ((casketlaw1_awake.f kj23).bind fun t136 => (some t136)) else (some false)) else (some false))) = some r := H
                      have A27 := Aside0.mk A270
                      clear A270
                      replace H := Option.bind_eq_some_iff.mp H
                      obtain ⟨⟨t134, t135⟩, A280, H⟩ := H
                      replace H : (if t132 = t134 then (if (t133 == t135) = true then ((casketlaw1_awake.f kj23).bind fun t136 => (some t136)) else (some false)) else (some false)) = some r := H
                      have A28 := Aside0.mk A280
                      clear A280
                      by_cases c29 : t132 = t134
                      · rw [if_pos c29] at H
                        have c29b0 : (t132 == t134) = true := beq_iff_eq.mpr c29
                        have c29b1 : (t132 != t134) = false := bne_eq_false_iff_eq.mpr c29
                        clear c29
                        by_cases c30 : (t133 == t135) = true
                        · rw [if_pos c30] at H
                          have c30b0 : (t133 == t135) = true := c30
                          (try (have c30b1 : decide (t133 = t135) = true := by simpa using c30))
                          (try (have c30b2 : (t133 == t135) = true := by simpa using c30))
                          clear c30
                          replace H := Option.bind_eq_some_iff.mp H
                          obtain ⟨t136, A310, H⟩ := H
                          replace H : (some t136) = some r := H
                          have A31 := Aside0.mk A310
                          clear A310
                          obtain rfl := Option.some.inj H
                          go_wp2_with (first | ((with_reducible refine gate_callee (f := 26) rfl ?_); refine goesL_ (some 73) rfl rfl Try.func26 (by kernel_rfl) rfl #[.int .u64 a4] rfl (by (try simp only [List.map_toArray, List.map_cons, List.map_nil]); first | done | rfl | (simp only [List.length_drop, List.length_take]; rfl)) ?_; (with_reducible refine (word_FromHandle.calls a4 t132 t133 _ A27.out).mono ?_); rintro e w' ⟨rfl, ⟨nd, rfl⟩⟩; refine ⟨_, rfl, ?_⟩) | ((with_reducible refine gate_callee (f := 27) rfl ?_); refine goesL_ (some 78) rfl rfl Try.func27 (by kernel_rfl) rfl #[.int .u64 a4] rfl (by (try simp only [List.map_toArray, List.map_cons, List.map_nil]); first | done | rfl | (simp only [List.length_drop, List.length_take]; rfl)) ?_; (with_reducible refine (casketref1_FromHandle.calls a4 t134 t135 _ A28.out).mono ?_); rintro e w' ⟨rfl, ⟨nd, rfl⟩⟩; refine ⟨_, rfl, ?_⟩) | (go_at_call 15; (with_reducible refine (casketlaw1_awake.calls kj23  t136 _ A31.out).mono ?_); rintro e w' ⟨rfl, ⟨nd, rfl⟩⟩))
                          go_ret
                          exact ⟨by first | rfl | (simp; done) | (simp [*]; done), by repeat (first | exact Drawn0.refl _ | apply Drawn0.step)⟩
                        · rw [if_neg c30] at H
                          have c30b0 : (t133 == t135) = false := by simpa using c30
                          (try (have c30b1 : decide (t133 = t135) = false := by simpa using c30))
                          (try (have c30b2 : (t133 == t135) = false := by simpa using c30))
                          (try (have c30b3 : ¬ (t133 = t135) := by simpa using c30))
                          clear c30
                          obtain rfl := Option.some.inj H
                          go_wp2_with (first | ((with_reducible refine gate_callee (f := 26) rfl ?_); refine goesL_ (some 73) rfl rfl Try.func26 (by kernel_rfl) rfl #[.int .u64 a4] rfl (by (try simp only [List.map_toArray, List.map_cons, List.map_nil]); first | done | rfl | (simp only [List.length_drop, List.length_take]; rfl)) ?_; (with_reducible refine (word_FromHandle.calls a4 t132 t133 _ A27.out).mono ?_); rintro e w' ⟨rfl, ⟨nd, rfl⟩⟩; refine ⟨_, rfl, ?_⟩) | ((with_reducible refine gate_callee (f := 27) rfl ?_); refine goesL_ (some 78) rfl rfl Try.func27 (by kernel_rfl) rfl #[.int .u64 a4] rfl (by (try simp only [List.map_toArray, List.map_cons, List.map_nil]); first | done | rfl | (simp only [List.length_drop, List.length_take]; rfl)) ?_; (with_reducible refine (casketref1_FromHandle.calls a4 t134 t135 _ A28.out).mono ?_); rintro e w' ⟨rfl, ⟨nd, rfl⟩⟩; refine ⟨_, rfl, ?_⟩))
                          go_ret
                          exact ⟨by first | rfl | (simp; done) | (simp [*]; done), by repeat (first | exact Drawn0.refl _ | apply Drawn0.step)⟩
                      · rw [if_neg c29] at H
                        have c29b0 : (t132 == t134) = false := beq_eq_false_iff_ne.mpr c29
                        have c29b1 : (t132 != t134) = true := bne_iff_ne.mpr c29
                        obtain rfl := Option.some.inj H
                        go_wp2_with (first | ((with_reducible refine gate_callee (f := 26) rfl ?_); refine goesL_ (some 73) rfl rfl Try.func26 (by kernel_rfl) rfl #[.int .u64 a4] rfl (by (try simp only [List.map_toArray, List.map_cons, List.map_nil]); first | done | rfl | (simp only [List.length_drop, List.length_take]; rfl)) ?_; (with_reducible refine (word_FromHandle.calls a4 t132 t133 _ A27.out).mono ?_); rintro e w' ⟨rfl, ⟨nd, rfl⟩⟩; refine ⟨_, rfl, ?_⟩) | ((with_reducible refine gate_callee (f := 27) rfl ?_); refine goesL_ (some 78) rfl rfl Try.func27 (by kernel_rfl) rfl #[.int .u64 a4] rfl (by (try simp only [List.map_toArray, List.map_cons, List.map_nil]); first | done | rfl | (simp only [List.length_drop, List.length_take]; rfl)) ?_; (with_reducible refine (casketref1_FromHandle.calls a4 t134 t135 _ A28.out).mono ?_); rintro e w' ⟨rfl, ⟨nd, rfl⟩⟩; refine ⟨_, rfl, ?_⟩))
                        go_ret
                        exact ⟨by first | rfl | (simp; done) | (simp [*]; done), by repeat (first | exact Drawn0.refl _ | apply Drawn0.step)⟩

/-- THE ONE PURE STATEMENT of casketlaw1_WordBoxes: yours. -/
def casketlaw1_WordBoxes.Pure : Prop := ∀ (a0 : Int) (a1 : Int) (a2 : Bool) (a3 : ByteArray) (a4 : Int), (Lit.int .u64 a0).wf = true → (Lit.int .i64 a1).wf = true → a3.size ≤ 140737488351232 → (Lit.int .u64 a4).wf = true → ∃ k, casketlaw1_WordBoxes.f k a0 a1 a2 a3 a4 = some true
theorem casketlaw1_WordBoxes.walk (P : casketlaw1_WordBoxes.Pure) (a0 : Int) (a1 : Int) (a2 : Bool) (a3 : ByteArray) (a4 : Int) (w : World) (w0 : (Lit.int .u64 a0).wf = true) (w1 : (Lit.int .i64 a1).wf = true) (w3 : a3.size ≤ 140737488351232) (w4 : (Lit.int .u64 a4).wf = true) :
    Calls Try.prog 6 #[.int .u64 a0, .int .i64 a1, .bool a2, .string a3, .int .u64 a4] w fun e w' => e = .returned (.bool true) ∧ Below w.heap.size w w' := by
  obtain ⟨k, h⟩ := P a0 a1 a2 a3 a4 w0 w1 w3 w4
  refine (casketlaw1_WordBoxes.calls k a0 a1 a2 a3 a4 true w h).mono ?_
  rintro e w' ⟨rfl, hd⟩
  exact ⟨rfl, hd.below⟩

end Go.Proofs.Ytpoedalbgcpgjaa.PWordBoxes

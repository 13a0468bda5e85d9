-- PRINTED BY print.sh 35421559b90ae4d0a3588c463048766b98c2df88dd9212a6774a882060cdf62d: not written by this session
import Derived.Test.YtpoedalbgcpgjaaPWordApartx0
import Derived.Test.YtpoedalbgcpgjaaPWordApartx1
namespace Go.Proofs.Ytpoedalbgcpgjaa.PWordApart
open Go.RowKit Go.Proofs.YtpoedalbgcpgjaaW.PrintWords Go.Proofs.YtpoedalbgcpgjaaW.PrintLast Go.Proofs.YtpoedalbgcpgjaaW.PrintMore
attribute [local go_sem] max2_int min2_int max_two min_two max_three min_three max_four min_four   -- for this text's walks alone
set_option linter.unusedVariables false
set_option linter.unusedSimpArgs false

/-! ### casketlaw1_WordApart: function 5 -/
mutual
def casketlaw1_WordApart.j0 : Nat → Int → Int → ByteArray → ByteArray → Bool → Bool → Bool → Option (Bool)
  | 0, _, _, _, _, _, _, _ => none
  | k + 1, x0, x1, x2, x3, x4, x5, x31 => if x31 = true then (some true) else ((word_FromInt.f x0).bind fun bt113 => ((word_FromInt.f x1).bind fun bt115 => (if bt113.2 = true then (if bt115.2 = true then (casketlaw1_WordApart.j1 k x2 x3 x4 x5 bt113.1 bt113.2 ((bt113.1 == bt115.1) != (x0 == x1))) else (casketlaw1_WordApart.j1 k x2 x3 x4 x5 bt113.1 bt113.2 false)) else (casketlaw1_WordApart.j1 k x2 x3 x4 x5 bt113.1 bt113.2 false))))
def casketlaw1_WordApart.j1 : Nat → ByteArray → ByteArray → Bool → Bool → Int → Bool → Bool → Option (Bool)
  | 0, _, _, _, _, _, _, _ => none
  | k + 1, x2, x3, x4, x5, x13, x14, x54 => if x54 = true then (some false) else ((word_FromText.f k x2).bind fun bt117 => ((word_FromText.f k x3).bind fun bt119 => (if bt117.2 = true then (if bt119.2 = true then (casketlaw1_WordApart.j2 k x4 x5 x13 x14 bt117.1 bt117.2 ((bt117.1 == bt119.1) != (x2.toList == x3.toList))) else (casketlaw1_WordApart.j2 k x4 x5 x13 x14 bt117.1 bt117.2 false)) else (casketlaw1_WordApart.j2 k x4 x5 x13 x14 bt117.1 bt117.2 false))))
def casketlaw1_WordApart.j2 : Nat → Bool → Bool → Int → Bool → Int → Bool → Bool → Option (Bool)
  | 0, _, _, _, _, _, _, _ => none
  | k + 1, x4, x5, x13, x14, x17, x18, x77 => if x77 = true then (some false) else ((word_FromNil.f).bind fun t121 => ((word_FromBool.f x4).bind fun t122 => ((some (([t121, t122] : List Int) : List Int)).bind fun y123 => (if x14 = true then (if y123.length < 17592186044416 then (casketlaw1_WordApart.j3 k x4 x5 x17 x18 (y123 ++ [x13])) else (none)) else (casketlaw1_WordApart.j3 k x4 x5 x17 x18 y123)))))
def casketlaw1_WordApart.j3 : Nat → Bool → Bool → Int → Bool → List Int → Option (Bool)
  | 0, _, _, _, _, _ => none
  | k + 1, x4, x5, x17, x18, x21 => if x18 = true then (if x21.length < 17592186044416 then (casketlaw1_WordApart.j4 k x4 x5 (x21 ++ [x17])) else (none)) else (casketlaw1_WordApart.j4 k x4 x5 x21)
def casketlaw1_WordApart.j4 : Nat → Bool → Bool → List Int → Option (Bool)
  | 0, _, _, _ => none
  | k + 1, x4, x5, x21 => casketlaw1_WordApart.l0 k x4 x5 x21 0
def casketlaw1_WordApart.l0 : Nat → Bool → Bool → List Int → Int → Option (Bool)
  | 0, _, _, _, _ => none
  | k + 1, x4, x5, x21, x22 => if x22 < (x21.length : Int) then (casketlaw1_WordApart.l1 k x4 x5 x21 x22 0) else ((word_FromBool.f x4).bind fun t132 => ((word_FromBool.f x5).bind fun t133 => (if ((t132 == t133) == (x4 == x5)) = true then ((casketlaw1_awake.f k).bind fun t134 => (some t134)) else (some false))))
def casketlaw1_WordApart.l1 : Nat → Bool → Bool → List Int → Int → Int → Option (Bool)
  | 0, _, _, _, _, _ => none
  | k + 1, x4, x5, x21, x22, x23 => if x23 < x22 then (if 0 ≤ x22 then (if x22 < (x21.length : Int) then (if 0 ≤ x23 then (if x23 < (x21.length : Int) then (if (rd x21 x22) = (rd x21 x23) then (some false) else (casketlaw1_WordApart.l1 k x4 x5 x21 x22 (wrap64 (x23 + 1)))) else (none)) else (none)) else (none)) else (none)) else (if 0 ≤ x22 then (if x22 < (x21.length : Int) then ((word_Class.f k (rd x21 x22)).bind fun t138 => (if t138 = 1 then (some false) else ((word_FromFloat.f (rd x21 x22)).bind fun t140 => (if t140 = 9221120237041090560 then (casketlaw1_WordApart.l0 k x4 x5 x21 (wrap64 (x22 + 1))) else (some false))))) else (none)) else (none))
end
def casketlaw1_WordApart.f (k : Nat) (a0 : Int) (a1 : Int) (a2 : ByteArray) (a3 : ByteArray) (a4 : Bool) (a5 : Bool) : Option (Bool) := if (a2.size : Int) > 1000 then (casketlaw1_WordApart.j0 k a0 a1 a2 a3 a4 a5 true) else (casketlaw1_WordApart.j0 k a0 a1 a2 a3 a4 a5 (decide ((a3.size : Int) > 1000)))
theorem casketlaw1_WordApart.mono_l : ∀ k, (∀ y0 y1 y2 y3 y4 y5 y6, LeO (casketlaw1_WordApart.j0 k y0 y1 y2 y3 y4 y5 y6) (casketlaw1_WordApart.j0 (k + 1) y0 y1 y2 y3 y4 y5 y6)) ∧ (∀ y0 y1 y2 y3 y4 y5 y6, LeO (casketlaw1_WordApart.j1 k y0 y1 y2 y3 y4 y5 y6) (casketlaw1_WordApart.j1 (k + 1) y0 y1 y2 y3 y4 y5 y6)) ∧ (∀ y0 y1 y2 y3 y4 y5 y6, LeO (casketlaw1_WordApart.j2 k y0 y1 y2 y3 y4 y5 y6) (casketlaw1_WordApart.j2 (k + 1) y0 y1 y2 y3 y4 y5 y6)) ∧ (∀ y0 y1 y2 y3 y4, LeO (casketlaw1_WordApart.j3 k y0 y1 y2 y3 y4) (casketlaw1_WordApart.j3 (k + 1) y0 y1 y2 y3 y4)) ∧ (∀ y0 y1 y2, LeO (casketlaw1_WordApart.j4 k y0 y1 y2) (casketlaw1_WordApart.j4 (k + 1) y0 y1 y2)) ∧ (∀ y0 y1 y2 y3, LeO (casketlaw1_WordApart.l0 k y0 y1 y2 y3) (casketlaw1_WordApart.l0 (k + 1) y0 y1 y2 y3)) ∧ (∀ y0 y1 y2 y3 y4, LeO (casketlaw1_WordApart.l1 k y0 y1 y2 y3 y4) (casketlaw1_WordApart.l1 (k + 1) y0 y1 y2 y3 y4))
  | 0 => ⟨fun _ _ _ _ _ _ _ r h => by simp [casketlaw1_WordApart.j0] at h, fun _ _ _ _ _ _ _ r h => by simp [casketlaw1_WordApart.j1] at h, fun _ _ _ _ _ _ _ r h => by simp [casketlaw1_WordApart.j2] at h, fun _ _ _ _ _ r h => by simp [casketlaw1_WordApart.j3] at h, fun _ _ _ r h => by simp [casketlaw1_WordApart.j4] at h, fun _ _ _ _ r h => by simp [casketlaw1_WordApart.l0] at h, fun _ _ _ _ _ r h => by simp [casketlaw1_WordApart.l1] at h⟩
  | k + 1 => by
    obtain ⟨ih0, ih1, ih2, ih3, ih4, ih5, ih6⟩ := casketlaw1_WordApart.mono_l k
    refine ⟨?_, ?_, ?_, ?_, ?_, ?_, ?_⟩
    · intro y0 y1 y2 y3 y4 y5 y6
      unfold casketlaw1_WordApart.j0
      repeat' first
      | (with_reducible exact ih0 _ _ _ _ _ _ _)
      | (with_reducible exact ih1 _ _ _ _ _ _ _)
      | (with_reducible exact ih2 _ _ _ _ _ _ _)
      | (with_reducible exact ih3 _ _ _ _ _)
      | (with_reducible exact ih4 _ _ _)
      | (with_reducible exact ih5 _ _ _ _)
      | (with_reducible exact ih6 _ _ _ _ _)
      | (with_reducible exact casketlaw1_awake.mono _)
      | (with_reducible exact word_Class.mono _ _)
      | (with_reducible exact word_FromText.mono _ _)
      | (with_reducible exact LeO.refl _)
      | (with_reducible exact LeO.none _)
      | (with_reducible refine LeO.ite ?_ ?_)
      | (with_reducible refine LeO.bind ?_ (fun _ => ?_))
      | exact ih0 _ _ _ _ _ _ _
      | exact ih1 _ _ _ _ _ _ _
      | exact ih2 _ _ _ _ _ _ _
      | exact ih3 _ _ _ _ _
      | exact ih4 _ _ _
      | exact ih5 _ _ _ _
      | exact ih6 _ _ _ _ _
      | exact casketlaw1_awake.mono _
      | exact word_Class.mono _ _
      | exact word_FromText.mono _ _
      | exact LeO.none _
      | refine LeO.ite ?_ ?_
      | refine LeO.bind ?_ (fun _ => ?_)
    · intro y0 y1 y2 y3 y4 y5 y6
      unfold casketlaw1_WordApart.j1
      repeat' first
      | (with_reducible exact ih0 _ _ _ _ _ _ _)
      | (with_reducible exact ih1 _ _ _ _ _ _ _)
      | (with_reducible exact ih2 _ _ _ _ _ _ _)
      | (with_reducible exact ih3 _ _ _ _ _)
      | (with_reducible exact ih4 _ _ _)
      | (with_reducible exact ih5 _ _ _ _)
      | (with_reducible exact ih6 _ _ _ _ _)
      | (with_reducible exact casketlaw1_awake.mono _)
      | (with_reducible exact word_Class.mono _ _)
      | (with_reducible exact word_FromText.mono _ _)
      | (with_reducible exact LeO.refl _)
      | (with_reducible exact LeO.none _)
      | (with_reducible refine LeO.ite ?_ ?_)
      | (with_reducible refine LeO.bind ?_ (fun _ => ?_))
      | exact ih0 _ _ _ _ _ _ _
      | exact ih1 _ _ _ _ _ _ _
      | exact ih2 _ _ _ _ _ _ _
      | exact ih3 _ _ _ _ _
      | exact ih4 _ _ _
      | exact ih5 _ _ _ _
      | exact ih6 _ _ _ _ _
      | exact casketlaw1_awake.mono _
      | exact word_Class.mono _ _
      | exact word_FromText.mono _ _
      | exact LeO.none _
      | refine LeO.ite ?_ ?_
      | refine LeO.bind ?_ (fun _ => ?_)
    · intro y0 y1 y2 y3 y4 y5 y6
      unfold casketlaw1_WordApart.j2
      repeat' first
      | (with_reducible exact ih0 _ _ _ _ _ _ _)
      | (with_reducible exact ih1 _ _ _ _ _ _ _)
      | (with_reducible exact ih2 _ _ _ _ _ _ _)
      | (with_reducible exact ih3 _ _ _ _ _)
      | (with_reducible exact ih4 _ _ _)
      | (with_reducible exact ih5 _ _ _ _)
      | (with_reducible exact ih6 _ _ _ _ _)
      | (with_reducible exact casketlaw1_awake.mono _)
      | (with_reducible exact word_Class.mono _ _)
      | (with_reducible exact word_FromText.mono _ _)
      | (with_reducible exact LeO.refl _)
      | (with_reducible exact LeO.none _)
      | (with_reducible refine LeO.ite ?_ ?_)
      | (with_reducible refine LeO.bind ?_ (fun _ => ?_))
      | exact ih0 _ _ _ _ _ _ _
      | exact ih1 _ _ _ _ _ _ _
      | exact ih2 _ _ _ _ _ _ _
      | exact ih3 _ _ _ _ _
      | exact ih4 _ _ _
      | exact ih5 _ _ _ _
      | exact ih6 _ _ _ _ _
      | exact casketlaw1_awake.mono _
      | exact word_Class.mono _ _
      | exact word_FromText.mono _ _
      | exact LeO.none _
      | refine LeO.ite ?_ ?_
      | refine LeO.bind ?_ (fun _ => ?_)
    · intro y0 y1 y2 y3 y4
      unfold casketlaw1_WordApart.j3
      repeat' first
      | (with_reducible exact ih0 _ _ _ _ _ _ _)
      | (with_reducible exact ih1 _ _ _ _ _ _ _)
      | (with_reducible exact ih2 _ _ _ _ _ _ _)
      | (with_reducible exact ih3 _ _ _ _ _)
      | (with_reducible exact ih4 _ _ _)
      | (with_reducible exact ih5 _ _ _ _)
      | (with_reducible exact ih6 _ _ _ _ _)
      | (with_reducible exact casketlaw1_awake.mono _)
      | (with_reducible exact word_Class.mono _ _)
      | (with_reducible exact word_FromText.mono _ _)
      | (with_reducible exact LeO.refl _)
      | (with_reducible exact LeO.none _)
      | (with_reducible refine LeO.ite ?_ ?_)
      | (with_reducible refine LeO.bind ?_ (fun _ => ?_))
      | exact ih0 _ _ _ _ _ _ _
      | exact ih1 _ _ _ _ _ _ _
      | exact ih2 _ _ _ _ _ _ _
      | exact ih3 _ _ _ _ _
      | exact ih4 _ _ _
      | exact ih5 _ _ _ _
      | exact ih6 _ _ _ _ _
      | exact casketlaw1_awake.mono _
      | exact word_Class.mono _ _
      | exact word_FromText.mono _ _
      | exact LeO.none _
      | refine LeO.ite ?_ ?_
      | refine LeO.bind ?_ (fun _ => ?_)
    · intro y0 y1 y2
      unfold casketlaw1_WordApart.j4
      repeat' first
      | (with_reducible exact ih0 _ _ _ _ _ _ _)
      | (with_reducible exact ih1 _ _ _ _ _ _ _)
      | (with_reducible exact ih2 _ _ _ _ _ _ _)
      | (with_reducible exact ih3 _ _ _ _ _)
      | (with_reducible exact ih4 _ _ _)
      | (with_reducible exact ih5 _ _ _ _)
      | (with_reducible exact ih6 _ _ _ _ _)
      | (with_reducible exact casketlaw1_awake.mono _)
      | (with_reducible exact word_Class.mono _ _)
      | (with_reducible exact word_FromText.mono _ _)
      | (with_reducible exact LeO.refl _)
      | (with_reducible exact LeO.none _)
      | (with_reducible refine LeO.ite ?_ ?_)
      | (with_reducible refine LeO.bind ?_ (fun _ => ?_))
      | exact ih0 _ _ _ _ _ _ _
      | exact ih1 _ _ _ _ _ _ _
      | exact ih2 _ _ _ _ _ _ _
      | exact ih3 _ _ _ _ _
      | exact ih4 _ _ _
      | exact ih5 _ _ _ _
      | exact ih6 _ _ _ _ _
      | exact casketlaw1_awake.mono _
      | exact word_Class.mono _ _
      | exact word_FromText.mono _ _
      | exact LeO.none _
      | refine LeO.ite ?_ ?_
      | refine LeO.bind ?_ (fun _ => ?_)
    · intro y0 y1 y2 y3
      unfold casketlaw1_WordApart.l0
      repeat' first
      | (with_reducible exact ih0 _ _ _ _ _ _ _)
      | (with_reducible exact ih1 _ _ _ _ _ _ _)
      | (with_reducible exact ih2 _ _ _ _ _ _ _)
      | (with_reducible exact ih3 _ _ _ _ _)
      | (with_reducible exact ih4 _ _ _)
      | (with_reducible exact ih5 _ _ _ _)
      | (with_reducible exact ih6 _ _ _ _ _)
      | (with_reducible exact casketlaw1_awake.mono _)
      | (with_reducible exact word_Class.mono _ _)
      | (with_reducible exact word_FromText.mono _ _)
      | (with_reducible exact LeO.refl _)
      | (with_reducible exact LeO.none _)
      | (with_reducible refine LeO.ite ?_ ?_)
      | (with_reducible refine LeO.bind ?_ (fun _ => ?_))
      | exact ih0 _ _ _ _ _ _ _
      | exact ih1 _ _ _ _ _ _ _
      | exact ih2 _ _ _ _ _ _ _
      | exact ih3 _ _ _ _ _
      | exact ih4 _ _ _
      | exact ih5 _ _ _ _
      | exact ih6 _ _ _ _ _
      | exact casketlaw1_awake.mono _
      | exact word_Class.mono _ _
      | exact word_FromText.mono _ _
      | exact LeO.none _
      | refine LeO.ite ?_ ?_
      | refine LeO.bind ?_ (fun _ => ?_)
    · intro y0 y1 y2 y3 y4
      unfold casketlaw1_WordApart.l1
      repeat' first
      | (with_reducible exact ih0 _ _ _ _ _ _ _)
      | (with_reducible exact ih1 _ _ _ _ _ _ _)
      | (with_reducible exact ih2 _ _ _ _ _ _ _)
      | (with_reducible exact ih3 _ _ _ _ _)
      | (with_reducible exact ih4 _ _ _)
      | (with_reducible exact ih5 _ _ _ _)
      | (with_reducible exact ih6 _ _ _ _ _)
      | (with_reducible exact casketlaw1_awake.mono _)
      | (with_reducible exact word_Class.mono _ _)
      | (with_reducible exact word_FromText.mono _ _)
      | (with_reducible exact LeO.refl _)
      | (with_reducible exact LeO.none _)
      | (with_reducible refine LeO.ite ?_ ?_)
      | (with_reducible refine LeO.bind ?_ (fun _ => ?_))
      | exact ih0 _ _ _ _ _ _ _
      | exact ih1 _ _ _ _ _ _ _
      | exact ih2 _ _ _ _ _ _ _
      | exact ih3 _ _ _ _ _
      | exact ih4 _ _ _
      | exact ih5 _ _ _ _
      | exact ih6 _ _ _ _ _
      | exact casketlaw1_awake.mono _
      | exact word_Class.mono _ _
      | exact word_FromText.mono _ _
      | exact LeO.none _
      | refine LeO.ite ?_ ?_
      | refine LeO.bind ?_ (fun _ => ?_)
theorem casketlaw1_WordApart.mono : ∀ a0 a1 a2 a3 a4 a5 k, LeO (casketlaw1_WordApart.f k a0 a1 a2 a3 a4 a5) (casketlaw1_WordApart.f (k + 1) a0 a1 a2 a3 a4 a5) := by
  intro a0 a1 a2 a3 a4 a5 k
  obtain ⟨ih0, ih1, ih2, ih3, ih4, ih5, ih6⟩ := casketlaw1_WordApart.mono_l k
  unfold casketlaw1_WordApart.f
  repeat' first
      | (with_reducible exact ih0 _ _ _ _ _ _ _)
      | (with_reducible exact ih1 _ _ _ _ _ _ _)
      | (with_reducible exact ih2 _ _ _ _ _ _ _)
      | (with_reducible exact ih3 _ _ _ _ _)
      | (with_reducible exact ih4 _ _ _)
      | (with_reducible exact ih5 _ _ _ _)
      | (with_reducible exact ih6 _ _ _ _ _)
      | (with_reducible exact casketlaw1_awake.mono _)
      | (with_reducible exact word_Class.mono _ _)
      | (with_reducible exact word_FromText.mono _ _)
      | (with_reducible exact LeO.refl _)
      | (with_reducible exact LeO.none _)
      | (with_reducible refine LeO.ite ?_ ?_)
      | (with_reducible refine LeO.bind ?_ (fun _ => ?_))
      | exact ih0 _ _ _ _ _ _ _
      | exact ih1 _ _ _ _ _ _ _
      | exact ih2 _ _ _ _ _ _ _
      | exact ih3 _ _ _ _ _
      | exact ih4 _ _ _
      | exact ih5 _ _ _ _
      | exact ih6 _ _ _ _ _
      | exact casketlaw1_awake.mono _
      | exact word_Class.mono _ _
      | exact word_FromText.mono _ _
      | exact LeO.none _
      | refine LeO.ite ?_ ?_
      | refine LeO.bind ?_ (fun _ => ?_)
set_option maxHeartbeats 8000000 in
set_option maxRecDepth 100000 in
theorem casketlaw1_WordApart.calls (k : Nat) (a0 : Int) (a1 : Int) (a2 : ByteArray) (a3 : ByteArray) (a4 : Bool) (a5 : Bool) (r : Bool) (w : World) (h : casketlaw1_WordApart.f k a0 a1 a2 a3 a4 a5 = some r) :
    Calls Try.prog 5 #[.int .i64 a0, .int .i64 a1, .string a2, .string a3, .bool a4, .bool a5] w fun e w' => e = .returned (.bool r) ∧ Below w.heap.size w w' := by
  have HB := Aside0.mk (Below.refl w.heap.size w)
  have H : (if (a2.size : Int) > 1000 then (casketlaw1_WordApart.j0 k a0 a1 a2 a3 a4 a5 true) else (casketlaw1_WordApart.j0 k a0 a1 a2 a3 a4 a5 (decide ((a3.size : Int) > 1000)))) = some r := h
  clear h
  have HC7 := Aside0.mk H
  clear H
  go_enter Try.func5, Try.ntmps5
  go_upto_region 1 with (fail)
  repeat (go_quiet (fail); go_upto_region 1 with (fail))
  go_cut [31] (fun v31 wc => ∃ (kq : Nat) (x31_6 : Bool), v31 = .bool x31_6 ∧ Aside0 (casketlaw1_WordApart.j0 kq a0 a1 a2 a3 a4 a5 x31_6 = some r) ∧ Aside0 (kq ≤ k) ∧ Aside0 (Below w.heap.size w wc))
  case first =>
    have H := HC7.out
    clear HC7
    by_cases c8 : (a2.size : Int) > 1000
    · rw [if_pos c8] at H
      have c8b0 : decide (1000 < (a2.size : Int)) = true := decide_eq_true c8
      have c8b1 : decide (1000 < a2.size) = true := decide_eq_true (by omega)
      clear c8
      (first | rw [c8b0] | (simp only [i64_w, i32_w]; rw [c8b0]) | skip)
      have H' := Aside0.mk H
      clear H
      go_wp2
      repeat (go_quiet (fail); try go_wp2)
      go_meet
      case rel => exact ⟨_, (true), (by first | rfl | (simp; done) | (simp [*]; done)), H', ⟨by first | omega | exact Nat.le_refl _⟩, ⟨by repeat (first | (with_reducible first | exact HB.out | apply below_alloc | apply pw_below_drewN | apply below_drew1) | exact HB.out)⟩⟩
    · rw [if_neg c8] at H
      have c8b0 : decide (1000 < (a2.size : Int)) = false := decide_eq_false c8
      have c8b1 : decide (1000 < a2.size) = false := decide_eq_false (by omega)
      clear c8
      (first | rw [c8b0] | (simp only [i64_w, i32_w]; rw [c8b0]) | skip)
      have H' := Aside0.mk H
      clear H
      go_wp2
      repeat (go_quiet (fail); try go_wp2)
      go_meet
      case rel => exact ⟨_, (decide ((a3.size : Int) > 1000)), (by first | rfl | (simp; done) | (simp [*]; done)), H', ⟨by first | omega | exact Nat.le_refl _⟩, ⟨by repeat (first | (with_reducible first | exact HB.out | apply below_alloc | apply pw_below_drewN | apply below_drew1) | exact HB.out)⟩⟩
  case rest =>
    clear HC7
    try clear p2
    try clear c5
    try clear c8
    try clear c8b0
    try clear c8b1
    obtain ⟨kq, x31_6, rfl, HA, HJ6, HB⟩ := hcut
    cases kq with
    | zero => exact absurd HA.out (by simp [casketlaw1_WordApart.j0])
    | succ kj6 =>
      have H := HA.out
      clear HA
      simp only [casketlaw1_WordApart.j0] at H
      by_cases c9 : x31_6 = true
      · subst c9
        have H1 : (some true) = some r := by rw [if_pos rfl] at H; exact H
        clear H
        have H := H1
        clear H1
        obtain rfl := Option.some.inj H
        go_wp2
        repeat (go_quiet (fail); try go_wp2)
        go_ret
        exact ⟨by first | rfl | (simp [errW_none, errW_some] <;> rfl) | (simp [*, errW_none, errW_some] <;> rfl), by repeat (first | (with_reducible first | exact HB.out | apply below_alloc | apply pw_below_drewN | apply below_drew1) | exact HB.out)⟩
      · replace c9 := Bool.eq_false_iff.mpr c9
        subst c9
        have H1 : ((word_FromInt.f a0).bind fun bt113 => ((word_FromInt.f a1).bind fun bt115 => (if bt113.2 = true then (if bt115.2 = true then (casketlaw1_WordApart.j1 kj6 a2 a3 a4 a5 bt113.1 bt113.2 ((bt113.1 == bt115.1) != (a0 == a1))) else (casketlaw1_WordApart.j1 kj6 a2 a3 a4 a5 bt113.1 bt113.2 false)) else (casketlaw1_WordApart.j1 kj6 a2 a3 a4 a5 bt113.1 bt113.2 false)))) = some r := by rw [if_neg (show ¬ (false = true) by decide)] at H; exact H
        clear H
        have H := H1
        clear H1
        replace H := Option.bind_eq_some_iff.mp H
        obtain ⟨⟨t113, t114⟩, A100, H⟩ := H
        replace H : ((word_FromInt.f a1).bind fun bt115 => (if t114 = true then (if bt115.2 = true then (casketlaw1_WordApart.j1 kj6 a2 a3 a4 a5 t113 t114 ((t113 == bt115.1) != (a0 == a1))) else (casketlaw1_WordApart.j1 kj6 a2 a3 a4 a5 t113 t114 false)) else (casketlaw1_WordApart.j1 kj6 a2 a3 a4 a5 t113 t114 false))) = some r := H
        have A10 := Aside0.mk A100
        clear A100
        replace H := Option.bind_eq_some_iff.mp H
        obtain ⟨⟨t115, t116⟩, A110, H⟩ := H
        replace H : (if t114 = true then (if t116 = true then (casketlaw1_WordApart.j1 kj6 a2 a3 a4 a5 t113 t114 ((t113 == t115) != (a0 == a1))) else (casketlaw1_WordApart.j1 kj6 a2 a3 a4 a5 t113 t114 false)) else (casketlaw1_WordApart.j1 kj6 a2 a3 a4 a5 t113 t114 false)) = some r := H
        have A11 := Aside0.mk A110
        clear A110
        have HC12 := Aside0.mk H
        clear H
        go_upto_region 5 with (first | (go_at_call 16; (with_reducible refine (word_FromInt.calls a0 t113 t114 _ A10.out).mono ?_); rintro e w' ⟨rfl, ⟨nd, rfl⟩⟩; (try first | exact ⟨rfl, _, World.drewN_drewN _ _ _⟩ | exact ⟨rfl, _, Eq.trans (World.drewN_drewN _ _ _) (congrArg (World.drewN _) (Nat.add_assoc _ _ _))⟩)) | (go_at_call 16; (with_reducible refine (word_FromInt.calls a1 t115 t116 _ A11.out).mono ?_); rintro e w' ⟨rfl, ⟨nd, rfl⟩⟩; (try first | exact ⟨rfl, _, World.drewN_drewN _ _ _⟩ | exact ⟨rfl, _, Eq.trans (World.drewN_drewN _ _ _) (congrArg (World.drewN _) (Nat.add_assoc _ _ _))⟩)))
        repeat (go_quiet (first | (go_at_call 16; (with_reducible refine (word_FromInt.calls a0 t113 t114 _ A10.out).mono ?_); rintro e w' ⟨rfl, ⟨nd, rfl⟩⟩; (try first | exact ⟨rfl, _, World.drewN_drewN _ _ _⟩ | exact ⟨rfl, _, Eq.trans (World.drewN_drewN _ _ _) (congrArg (World.drewN _) (Nat.add_assoc _ _ _))⟩)) | (go_at_call 16; (with_reducible refine (word_FromInt.calls a1 t115 t116 _ A11.out).mono ?_); rintro e w' ⟨rfl, ⟨nd, rfl⟩⟩; (try first | exact ⟨rfl, _, World.drewN_drewN _ _ _⟩ | exact ⟨rfl, _, Eq.trans (World.drewN_drewN _ _ _) (congrArg (World.drewN _) (Nat.add_assoc _ _ _))⟩))); go_upto_region 5 with (first | (go_at_call 16; (with_reducible refine (word_FromInt.calls a0 t113 t114 _ A10.out).mono ?_); rintro e w' ⟨rfl, ⟨nd, rfl⟩⟩; (try first | exact ⟨rfl, _, World.drewN_drewN _ _ _⟩ | exact ⟨rfl, _, Eq.trans (World.drewN_drewN _ _ _) (congrArg (World.drewN _) (Nat.add_assoc _ _ _))⟩)) | (go_at_call 16; (with_reducible refine (word_FromInt.calls a1 t115 t116 _ A11.out).mono ?_); rintro e w' ⟨rfl, ⟨nd, rfl⟩⟩; (try first | exact ⟨rfl, _, World.drewN_drewN _ _ _⟩ | exact ⟨rfl, _, Eq.trans (World.drewN_drewN _ _ _) (congrArg (World.drewN _) (Nat.add_assoc _ _ _))⟩))))
        (try simp only [Act.put, List.setIfInBounds_toArray, List.set_cons_zero, List.set_cons_succ])
        go_cut [54] (fun v54 wc => ∃ (kq : Nat) (x54_11 : Bool), v54 = .bool x54_11 ∧ Aside0 (casketlaw1_WordApart.j1 kq a2 a3 a4 a5 t113 t114 x54_11 = some r) ∧ Aside0 (kq ≤ kj6) ∧ Aside0 (Below w.heap.size w wc))
        case first =>
          have H := HC12.out
          clear HC12
          by_cases c13 : t114 = true
          · subst c13
            have H1 : (if t116 = true then (casketlaw1_WordApart.j1 kj6 a2 a3 a4 a5 t113 true ((t113 == t115) != (a0 == a1))) else (casketlaw1_WordApart.j1 kj6 a2 a3 a4 a5 t113 true false)) = some r := by rw [if_pos rfl] at H; exact H
            clear H
            have H := H1
            clear H1
            by_cases c14 : t116 = true
            · subst c14
              have H1 : (casketlaw1_WordApart.j1 kj6 a2 a3 a4 a5 t113 true ((t113 == t115) != (a0 == a1))) = some r := by rw [if_pos rfl] at H; exact H
              clear H
              have H := H1
              clear H1
              have H' := Aside0.mk H
              clear H
              go_wp2
              repeat (go_quiet (fail); try go_wp2)
              go_meet
              case rel => exact ⟨_, (((t113 == t115) != (a0 == a1))), (by first | rfl | (simp; done) | (simp [*]; done)), H', ⟨by have := HJ6.out; first | omega | exact Nat.le_refl _⟩, ⟨by repeat (first | (with_reducible first | exact HB.out | apply below_alloc | apply pw_below_drewN | apply below_drew1) | exact HB.out)⟩⟩
            · replace c14 := Bool.eq_false_iff.mpr c14
              subst c14
              have H1 : (casketlaw1_WordApart.j1 kj6 a2 a3 a4 a5 t113 true false) = some r := by rw [if_neg (show ¬ (false = true) by decide)] at H; exact H
              clear H
              have H := H1
              clear H1
              have H' := Aside0.mk H
              clear H
              go_wp2
              repeat (go_quiet (fail); try go_wp2)
              go_meet
              case rel => exact ⟨_, (false), (by first | rfl | (simp; done) | (simp [*]; done)), H', ⟨by have := HJ6.out; first | omega | exact Nat.le_refl _⟩, ⟨by repeat (first | (with_reducible first | exact HB.out | apply below_alloc | apply pw_below_drewN | apply below_drew1) | exact HB.out)⟩⟩
          · replace c13 := Bool.eq_false_iff.mpr c13
            subst c13
            have H1 : (casketlaw1_WordApart.j1 kj6 a2 a3 a4 a5 t113 false false) = some r := by rw [if_neg (show ¬ (false = true) by decide)] at H; exact H
            clear H
            have H := H1
            clear H1
            have H' := Aside0.mk H
            clear H
            go_wp2
            repeat (go_quiet (fail); try go_wp2)
            go_meet
            case rel => exact ⟨_, (false), (by first | rfl | (simp; done) | (simp [*]; done)), H', ⟨by have := HJ6.out; first | omega | exact Nat.le_refl _⟩, ⟨by repeat (first | (with_reducible first | exact HB.out | apply below_alloc | apply pw_below_drewN | apply below_drew1) | exact HB.out)⟩⟩
        case rest =>
          clear HC12
          try clear c1
          try clear p2
          try clear c5
          try clear c8
          try clear c8b0
          try clear c8b1
          try clear c9
          try clear c13
          try clear c14
          try clear p2
          obtain ⟨kq, x54_11, rfl, HA, HJ11, HB⟩ := hcut
          cases kq with
          | zero => exact absurd HA.out (by simp [casketlaw1_WordApart.j1])
          | succ kj11 =>
            have H := HA.out
            clear HA
            simp only [casketlaw1_WordApart.j1] at H
            by_cases c15 : x54_11 = true
            · subst c15
              have H1 : (some false) = some r := by rw [if_pos rfl] at H; exact H
              clear H
              have H := H1
              clear H1
              obtain rfl := Option.some.inj H
              go_wp2
              repeat (go_quiet (fail); try go_wp2)
              go_ret
              exact ⟨by first | rfl | (simp [errW_none, errW_some] <;> rfl) | (simp [*, errW_none, errW_some] <;> rfl), by repeat (first | (with_reducible first | exact HB.out | apply below_alloc | apply pw_below_drewN | apply below_drew1) | exact HB.out)⟩
            · replace c15 := Bool.eq_false_iff.mpr c15
              subst c15
              have H1 : ((word_FromText.f kj11 a2).bind fun bt117 => ((word_FromText.f kj11 a3).bind fun bt119 => (if bt117.2 = true then (if bt119.2 = true then (casketlaw1_WordApart.j2 kj11 a4 a5 t113 t114 bt117.1 bt117.2 ((bt117.1 == bt119.1) != (a2.toList == a3.toList))) else (casketlaw1_WordApart.j2 kj11 a4 a5 t113 t114 bt117.1 bt117.2 false)) else (casketlaw1_WordApart.j2 kj11 a4 a5 t113 t114 bt117.1 bt117.2 false)))) = some r := by rw [if_neg (show ¬ (false = true) by decide)] at H; exact H
              clear H
              have H := H1
              clear H1
              replace H := Option.bind_eq_some_iff.mp H
              obtain ⟨⟨t117, t118⟩, A160, H⟩ := H
              replace H : ((word_FromText.f kj11 a3).bind fun bt119 => (if t118 = true then (if bt119.2 = true then (casketlaw1_WordApart.j2 kj11 a4 a5 t113 t114 t117 t118 ((t117 == bt119.1) != (a2.toList == a3.toList))) else (casketlaw1_WordApart.j2 kj11 a4 a5 t113 t114 t117 t118 false)) else (casketlaw1_WordApart.j2 kj11 a4 a5 t113 t114 t117 t118 false))) = some r := H
              have A16 := Aside0.mk A160
              clear A160
              replace H := Option.bind_eq_some_iff.mp H
              obtain ⟨⟨t119, t120⟩, A170, H⟩ := H
              replace H : (if t118 = true then (if t120 = true then (casketlaw1_WordApart.j2 kj11 a4 a5 t113 t114 t117 t118 ((t117 == t119) != (a2.toList == a3.toList))) else (casketlaw1_WordApart.j2 kj11 a4 a5 t113 t114 t117 t118 false)) else (casketlaw1_WordApart.j2 kj11 a4 a5 t113 t114 t117 t118 false)) = some r := H
              have A17 := Aside0.mk A170
              clear A170
              have HC18 := Aside0.mk H
              clear H
              go_upto_region 9 with (first | (go_at_call 17; (with_reducible refine (word_FromText.calls kj11 a2 t117 t118 _ A16.out).mono ?_); rintro e w' ⟨rfl, ⟨nd, rfl⟩⟩; (try first | exact ⟨rfl, _, World.drewN_drewN _ _ _⟩ | exact ⟨rfl, _, Eq.trans (World.drewN_drewN _ _ _) (congrArg (World.drewN _) (Nat.add_assoc _ _ _))⟩)) | (go_at_call 17; (with_reducible refine (word_FromText.calls kj11 a3 t119 t120 _ A17.out).mono ?_); rintro e w' ⟨rfl, ⟨nd, rfl⟩⟩; (try first | exact ⟨rfl, _, World.drewN_drewN _ _ _⟩ | exact ⟨rfl, _, Eq.trans (World.drewN_drewN _ _ _) (congrArg (World.drewN _) (Nat.add_assoc _ _ _))⟩)))
              repeat (go_quiet (first | (go_at_call 17; (with_reducible refine (word_FromText.calls kj11 a2 t117 t118 _ A16.out).mono ?_); rintro e w' ⟨rfl, ⟨nd, rfl⟩⟩; (try first | exact ⟨rfl, _, World.drewN_drewN _ _ _⟩ | exact ⟨rfl, _, Eq.trans (World.drewN_drewN _ _ _) (congrArg (World.drewN _) (Nat.add_assoc _ _ _))⟩)) | (go_at_call 17; (with_reducible refine (word_FromText.calls kj11 a3 t119 t120 _ A17.out).mono ?_); rintro e w' ⟨rfl, ⟨nd, rfl⟩⟩; (try first | exact ⟨rfl, _, World.drewN_drewN _ _ _⟩ | exact ⟨rfl, _, Eq.trans (World.drewN_drewN _ _ _) (congrArg (World.drewN _) (Nat.add_assoc _ _ _))⟩))); go_upto_region 9 with (first | (go_at_call 17; (with_reducible refine (word_FromText.calls kj11 a2 t117 t118 _ A16.out).mono ?_); rintro e w' ⟨rfl, ⟨nd, rfl⟩⟩; (try first | exact ⟨rfl, _, World.drewN_drewN _ _ _⟩ | exact ⟨rfl, _, Eq.trans (World.drewN_drewN _ _ _) (congrArg (World.drewN _) (Nat.add_assoc _ _ _))⟩)) | (go_at_call 17; (with_reducible refine (word_FromText.calls kj11 a3 t119 t120 _ A17.out).mono ?_); rintro e w' ⟨rfl, ⟨nd, rfl⟩⟩; (try first | exact ⟨rfl, _, World.drewN_drewN _ _ _⟩ | exact ⟨rfl, _, Eq.trans (World.drewN_drewN _ _ _) (congrArg (World.drewN _) (Nat.add_assoc _ _ _))⟩))))
              (try simp only [Act.put, List.setIfInBounds_toArray, List.set_cons_zero, List.set_cons_succ])
              go_cut [77] (fun v77 wc => ∃ (kq : Nat) (x77_17 : Bool), v77 = .bool x77_17 ∧ Aside0 (casketlaw1_WordApart.j2 kq a4 a5 t113 t114 t117 t118 x77_17 = some r) ∧ Aside0 (kq ≤ kj11) ∧ Aside0 (Below w.heap.size w wc))
              case first =>
                have H := HC18.out
                clear HC18
                by_cases c19 : t118 = true
                · subst c19
                  have H1 : (if t120 = true then (casketlaw1_WordApart.j2 kj11 a4 a5 t113 t114 t117 true ((t117 == t119) != (a2.toList == a3.toList))) else (casketlaw1_WordApart.j2 kj11 a4 a5 t113 t114 t117 true false)) = some r := by rw [if_pos rfl] at H; exact H
                  clear H
                  have H := H1
                  clear H1
                  by_cases c20 : t120 = true
                  · subst c20
                    have H1 : (casketlaw1_WordApart.j2 kj11 a4 a5 t113 t114 t117 true ((t117 == t119) != (a2.toList == a3.toList))) = some r := by rw [if_pos rfl] at H; exact H
                    clear H
                    have H := H1
                    clear H1
                    have H' := Aside0.mk H
                    clear H
                    go_wp2
                    repeat (go_quiet (fail); try go_wp2)
                    go_meet
                    case rel => exact ⟨_, (((t117 == t119) != (a2.toList == a3.toList))), (by first | rfl | (simp; done) | (simp [*]; done)), H', ⟨by have := HJ6.out; have := HJ11.out; first | omega | exact Nat.le_refl _⟩, ⟨by repeat (first | (with_reducible first | exact HB.out | apply below_alloc | apply pw_below_drewN | apply below_drew1) | exact HB.out)⟩⟩
                  · replace c20 := Bool.eq_false_iff.mpr c20
                    subst c20
                    have H1 : (casketlaw1_WordApart.j2 kj11 a4 a5 t113 t114 t117 true false) = some r := by rw [if_neg (show ¬ (false = true) by decide)] at H; exact H
                    clear H
                    have H := H1
                    clear H1
                    have H' := Aside0.mk H
                    clear H
                    go_wp2
                    repeat (go_quiet (fail); try go_wp2)
                    go_meet
                    case rel => exact ⟨_, (false), (by first | rfl | (simp; done) | (simp [*]; done)), H', ⟨by have := HJ6.out; have := HJ11.out; first | omega | exact Nat.le_refl _⟩, ⟨by repeat (first | (with_reducible first | exact HB.out | apply below_alloc | apply pw_below_drewN | apply below_drew1) | exact HB.out)⟩⟩
                · replace c19 := Bool.eq_false_iff.mpr c19
                  subst c19
                  have H1 : (casketlaw1_WordApart.j2 kj11 a4 a5 t113 t114 t117 false false) = some r := by rw [if_neg (show ¬ (false = true) by decide)] at H; exact H
                  clear H
                  have H := H1
                  clear H1
                  have H' := Aside0.mk H
                  clear H
                  go_wp2
                  repeat (go_quiet (fail); try go_wp2)
                  go_meet
                  case rel => exact ⟨_, (false), (by first | rfl | (simp; done) | (simp [*]; done)), H', ⟨by have := HJ6.out; have := HJ11.out; first | omega | exact Nat.le_refl _⟩, ⟨by repeat (first | (with_reducible first | exact HB.out | apply below_alloc | apply pw_below_drewN | apply below_drew1) | exact HB.out)⟩⟩
              case rest =>
                clear HC18
                try clear c1
                try clear c2
                try clear p2
                try clear c5
                try clear c8
                try clear c8b0
                try clear c8b1
                try clear c9
                try clear c13
                try clear c14
                try clear c15
                try clear c19
                try clear c20
                try clear p2
                obtain ⟨kq, x77_17, rfl, HA, HJ17, HB⟩ := hcut
                cases kq with
                | zero => exact absurd HA.out (by simp [casketlaw1_WordApart.j2])
                | succ kj17 =>
                  have H := HA.out
                  clear HA
                  simp only [casketlaw1_WordApart.j2] at H
                  by_cases c21 : x77_17 = true
                  · subst c21
                    have H1 : (some false) = some r := by rw [if_pos rfl] at H; exact H
                    clear H
                    have H := H1
                    clear H1
                    obtain rfl := Option.some.inj H
                    go_wp2
                    repeat (go_quiet (fail); try go_wp2)
                    go_ret
                    exact ⟨by first | rfl | (simp [errW_none, errW_some] <;> rfl) | (simp [*, errW_none, errW_some] <;> rfl), by repeat (first | (with_reducible first | exact HB.out | apply below_alloc | apply pw_below_drewN | apply below_drew1) | exact HB.out)⟩
                  · replace c21 := Bool.eq_false_iff.mpr c21
                    subst c21
                    have H1 : ((word_FromNil.f).bind fun t121 => ((word_FromBool.f a4).bind fun t122 => ((some (([t121, t122] : List Int) : List Int)).bind fun y123 => (if t114 = true then (if y123.length < 17592186044416 then (casketlaw1_WordApart.j3 kj17 a4 a5 t117 t118 (y123 ++ [t113])) else (none)) else (casketlaw1_WordApart.j3 kj17 a4 a5 t117 t118 y123))))) = some r := by rw [if_neg (show ¬ (false = true) by decide)] at H; exact H
                    clear H
                    have H := H1
                    clear H1
                    replace H := Option.bind_eq_some_iff.mp H
                    obtain ⟨t121, A220, H⟩ := H
                    replace H : ((word_FromBool.f a4).bind fun t122 => ((some (([t121, t122] : List Int) : List Int)).bind fun y123 => (if t114 = true then (if y123.length < 17592186044416 then (casketlaw1_WordApart.j3 kj17 a4 a5 t117 t118 (y123 ++ [t113])) else (none)) else (casketlaw1_WordApart.j3 kj17 a4 a5 t117 t118 y123)))) = some r := H
                    have A22 := Aside0.mk A220
                    clear A220
                    replace H := Option.bind_eq_some_iff.mp H
                    obtain ⟨t122, A230, H⟩ := H
                    replace H : ((some (([t121, t122] : List Int) : List Int)).bind fun y123 => (if t114 = true then (if y123.length < 17592186044416 then (casketlaw1_WordApart.j3 kj17 a4 a5 t117 t118 (y123 ++ [t113])) else (none)) else (casketlaw1_WordApart.j3 kj17 a4 a5 t117 t118 y123))) = some r := H
                    have A23 := Aside0.mk A230
                    clear A230
                    obtain ⟨y123, hy123⟩ : ∃ y_ : List Int, y_ = (([t121, t122] : List Int)) := ⟨_, rfl⟩
                    replace H : (if t114 = true then (if y123.length < 17592186044416 then (casketlaw1_WordApart.j3 kj17 a4 a5 t117 t118 (y123 ++ [t113])) else (none)) else (casketlaw1_WordApart.j3 kj17 a4 a5 t117 t118 y123)) = some r := by first | (rw [hy123]; with_reducible exact H) | (have H2_ := (Option.bind_some _ _).symm.trans H; rw [hy123]; with_reducible exact H2_) | (have H2_ := (Option.bind_some _ _).symm.trans H; with_reducible exact H2_) | with_reducible exact H | (rw [hy123]; exact H) | exact H
                    have Ny123 := Aside0.mk hy123
                    clear hy123
                    have HC24 := Aside0.mk H
                    clear H
                    go_upto_if 82 with (first | (go_at_call 18; (with_reducible refine (word_FromNil.calls  t121 _ A22.out).mono ?_); rintro e w' ⟨rfl, ⟨nd, rfl⟩⟩; (try first | exact ⟨rfl, _, World.drewN_drewN _ _ _⟩ | exact ⟨rfl, _, Eq.trans (World.drewN_drewN _ _ _) (congrArg (World.drewN _) (Nat.add_assoc _ _ _))⟩)) | (go_at_call 19; (with_reducible refine (word_FromBool.calls a4 t122 _ A23.out).mono ?_); rintro e w' ⟨rfl, ⟨nd, rfl⟩⟩; (try first | exact ⟨rfl, _, World.drewN_drewN _ _ _⟩ | exact ⟨rfl, _, Eq.trans (World.drewN_drewN _ _ _) (congrArg (World.drewN _) (Nat.add_assoc _ _ _))⟩)) | ((with_reducible refine gate_dst (N := 81) rfl ?_); (try (refine gate_guard (by rfl) ?_; dsimp only)); refine Kd.R_lit (Kd.int .u64) _ 22 ?hg (N := 81) ?hd (xs := ([t121, t122] : List Int)) (inner := [.int .u64 t121, .int .u64 t122]) (ok := fun _ => True) (okp := fun _ => True) ?hr ?hp (fun _ hk => hk) trivial (Below.refl _ _) (Nat.le_refl _) (by simp) ?_; (case hd => rfl); (case hg => rfl); (case hr => first | (go_simp; done) | (go_simp; rfl)); (case hp => exact (Reps.one (show Kd.M (Kd.int .u64) _ _ _ t121 [.int .u64 t121] from rfl) (Reps.one (show Kd.M (Kd.int .u64) _ _ _ t122 [.int .u64 t122] from rfl) (Reps.none _ _)))); intro v124 w25 ho26 hb hg_ hnew_; clear hg_ hnew_; (first | rw [← Ny123.out] at ho26 | (simp only [Int.reduceToNat] at ho26; rw [← Ny123.out] at ho26)); have n0_ := Aside0.mk (Kd.R_lower ho26 (below_size (by repeat (first | (with_reducible first | exact HB.out | apply below_alloc | apply pw_below_drewN | apply below_drew1) | exact HB.out)))); have n1_ := Aside0.mk (below_step (by repeat (first | (with_reducible first | exact HB.out | apply below_alloc | apply pw_below_drewN | apply below_drew1) | exact HB.out)) hb); clear HB; have HO125 := n0_; have HB := n1_; clear n0_ n1_; clear hb ho26))
                    repeat (go_quiet (first | (go_at_call 18; (with_reducible refine (word_FromNil.calls  t121 _ A22.out).mono ?_); rintro e w' ⟨rfl, ⟨nd, rfl⟩⟩; (try first | exact ⟨rfl, _, World.drewN_drewN _ _ _⟩ | exact ⟨rfl, _, Eq.trans (World.drewN_drewN _ _ _) (congrArg (World.drewN _) (Nat.add_assoc _ _ _))⟩)) | (go_at_call 19; (with_reducible refine (word_FromBool.calls a4 t122 _ A23.out).mono ?_); rintro e w' ⟨rfl, ⟨nd, rfl⟩⟩; (try first | exact ⟨rfl, _, World.drewN_drewN _ _ _⟩ | exact ⟨rfl, _, Eq.trans (World.drewN_drewN _ _ _) (congrArg (World.drewN _) (Nat.add_assoc _ _ _))⟩)) | ((with_reducible refine gate_dst (N := 81) rfl ?_); (try (refine gate_guard (by rfl) ?_; dsimp only)); refine Kd.R_lit (Kd.int .u64) _ 22 ?hg (N := 81) ?hd (xs := ([t121, t122] : List Int)) (inner := [.int .u64 t121, .int .u64 t122]) (ok := fun _ => True) (okp := fun _ => True) ?hr ?hp (fun _ hk => hk) trivial (Below.refl _ _) (Nat.le_refl _) (by simp) ?_; (case hd => rfl); (case hg => rfl); (case hr => first | (go_simp; done) | (go_simp; rfl)); (case hp => exact (Reps.one (show Kd.M (Kd.int .u64) _ _ _ t121 [.int .u64 t121] from rfl) (Reps.one (show Kd.M (Kd.int .u64) _ _ _ t122 [.int .u64 t122] from rfl) (Reps.none _ _)))); intro v124 w25 ho26 hb hg_ hnew_; clear hg_ hnew_; (first | rw [← Ny123.out] at ho26 | (simp only [Int.reduceToNat] at ho26; rw [← Ny123.out] at ho26)); have n0_ := Aside0.mk (Kd.R_lower ho26 (below_size (by repeat (first | (with_reducible first | exact HB.out | apply below_alloc | apply pw_below_drewN | apply below_drew1) | exact HB.out)))); have n1_ := Aside0.mk (below_step (by repeat (first | (with_reducible first | exact HB.out | apply below_alloc | apply pw_below_drewN | apply below_drew1) | exact HB.out)) hb); clear HB; have HO125 := n0_; have HB := n1_; clear n0_ n1_; clear hb ho26)); go_upto_if 82 with (first | (go_at_call 18; (with_reducible refine (word_FromNil.calls  t121 _ A22.out).mono ?_); rintro e w' ⟨rfl, ⟨nd, rfl⟩⟩; (try first | exact ⟨rfl, _, World.drewN_drewN _ _ _⟩ | exact ⟨rfl, _, Eq.trans (World.drewN_drewN _ _ _) (congrArg (World.drewN _) (Nat.add_assoc _ _ _))⟩)) | (go_at_call 19; (with_reducible refine (word_FromBool.calls a4 t122 _ A23.out).mono ?_); rintro e w' ⟨rfl, ⟨nd, rfl⟩⟩; (try first | exact ⟨rfl, _, World.drewN_drewN _ _ _⟩ | exact ⟨rfl, _, Eq.trans (World.drewN_drewN _ _ _) (congrArg (World.drewN _) (Nat.add_assoc _ _ _))⟩)) | ((with_reducible refine gate_dst (N := 81) rfl ?_); (try (refine gate_guard (by rfl) ?_; dsimp only)); refine Kd.R_lit (Kd.int .u64) _ 22 ?hg (N := 81) ?hd (xs := ([t121, t122] : List Int)) (inner := [.int .u64 t121, .int .u64 t122]) (ok := fun _ => True) (okp := fun _ => True) ?hr ?hp (fun _ hk => hk) trivial (Below.refl _ _) (Nat.le_refl _) (by simp) ?_; (case hd => rfl); (case hg => rfl); (case hr => first | (go_simp; done) | (go_simp; rfl)); (case hp => exact (Reps.one (show Kd.M (Kd.int .u64) _ _ _ t121 [.int .u64 t121] from rfl) (Reps.one (show Kd.M (Kd.int .u64) _ _ _ t122 [.int .u64 t122] from rfl) (Reps.none _ _)))); intro v124 w25 ho26 hb hg_ hnew_; clear hg_ hnew_; (first | rw [← Ny123.out] at ho26 | (simp only [Int.reduceToNat] at ho26; rw [← Ny123.out] at ho26)); have n0_ := Aside0.mk (Kd.R_lower ho26 (below_size (by repeat (first | (with_reducible first | exact HB.out | apply below_alloc | apply pw_below_drewN | apply below_drew1) | exact HB.out)))); have n1_ := Aside0.mk (below_step (by repeat (first | (with_reducible first | exact HB.out | apply below_alloc | apply pw_below_drewN | apply below_drew1) | exact HB.out)) hb); clear HB; have HO125 := n0_; have HB := n1_; clear n0_ n1_; clear hb ho26)))
                    (try simp only [Act.put, List.setIfInBounds_toArray, List.set_cons_zero, List.set_cons_succ])
                    go_cut [21] (fun v21 wc => ∃ (kq : Nat) (x21_23 : List Int), Aside0 (casketlaw1_WordApart.j3 kq a4 a5 t117 t118 x21_23 = some r) ∧ Aside0 (kq ≤ kj17) ∧ Aside0 (Kd.R (Kd.int .u64) 22 wc w.heap.size (fun _ => True) v21 x21_23) ∧ Aside0 (Below w.heap.size w wc))
                    case first =>
                      have H := HC24.out
                      clear HC24
                      by_cases c27 : t114 = true
                      · subst c27
                        have H1 : (if y123.length < 17592186044416 then (casketlaw1_WordApart.j3 kj17 a4 a5 t117 t118 (y123 ++ [t113])) else (none)) = some r := by rw [if_pos rfl] at H; exact H
                        clear H
                        have H := H1
                        clear H1
                        by_cases c28 : y123.length < 17592186044416
                        · rw [if_pos c28] at H
                          have LMc28 := Aside0.mk c28
                          clear c28
                          obtain ⟨y126, hy126⟩ : ∃ y_ : List Int, y_ = (y123 ++ [t113]) := ⟨_, rfl⟩
                          replace H : (casketlaw1_WordApart.j3 kj17 a4 a5 t117 t118 y126) = some r := by first | (rw [hy126]; with_reducible exact H) | (have H2_ := (Option.bind_some _ _).symm.trans H; rw [hy126]; with_reducible exact H2_) | (have H2_ := (Option.bind_some _ _).symm.trans H; with_reducible exact H2_) | with_reducible exact H | (rw [hy126]; exact H) | exact H
                          have Ny126 := Aside0.mk hy126
                          clear hy126
                          have H' := Aside0.mk H
                          clear H
                          go_wp2_with (first | ((with_reducible refine gate_builtin (b := .append) (xs := #[.tmp 83, .tmp 85]) rfl ?_); (try (refine gate_guard (by rfl) ?_; dsimp only)); at_builtin; refine Kd.R_append (Kd.int .u64) (w0 := w) w.heap.size rfl (.tmp 83) (.tmp 85) 33 22 (.int .u64 0) 8 rfl Try.underlying33 info22 rfl (by decide) (by omega) v124 y123 t113 [.int .u64 t113] (fun _ => True) (fun _ => False) rfl rfl ?aP (fun _ hk => hk.elim) ?aF ?aO ?aB ?aS ?aL ?_; (case aP => exact rfl); (case aB => exact (by repeat (first | (with_reducible first | exact HB.out | apply below_alloc | apply pw_below_drewN | apply below_drew1) | exact HB.out))); (case aF => exact (fun _ _ => trivial)); (case aO => exact (by (with_reducible repeat (first | apply Kd.R_alloc | apply Kd.R_drewN | apply Kd.R_drew)); exact HO125.out)); (case aS => exact (below_size (by repeat (first | (with_reducible first | exact HB.out | apply below_alloc | apply pw_below_drewN | apply below_drew1) | exact HB.out)))); (case aL => have := LMc28.out; omega); intro v127 w29 ho hb hg hat; rw [← Ny126.out] at ho; have n0_ := Aside0.mk (hb); have n1_ := Aside0.mk (ho); clear HB; clear HO125; have HB := n0_; have HO128 := n1_; clear n0_ n1_; clear ho hb hg hat))
                          repeat (go_quiet (first | ((with_reducible refine gate_builtin (b := .append) (xs := #[.tmp 83, .tmp 85]) rfl ?_); (try (refine gate_guard (by rfl) ?_; dsimp only)); at_builtin; refine Kd.R_append (Kd.int .u64) (w0 := w) w.heap.size rfl (.tmp 83) (.tmp 85) 33 22 (.int .u64 0) 8 rfl Try.underlying33 info22 rfl (by decide) (by omega) v124 y123 t113 [.int .u64 t113] (fun _ => True) (fun _ => False) rfl rfl ?aP (fun _ hk => hk.elim) ?aF ?aO ?aB ?aS ?aL ?_; (case aP => exact rfl); (case aB => exact (by repeat (first | (with_reducible first | exact HB.out | apply below_alloc | apply pw_below_drewN | apply below_drew1) | exact HB.out))); (case aF => exact (fun _ _ => trivial)); (case aO => exact (by (with_reducible repeat (first | apply Kd.R_alloc | apply Kd.R_drewN | apply Kd.R_drew)); exact HO125.out)); (case aS => exact (below_size (by repeat (first | (with_reducible first | exact HB.out | apply below_alloc | apply pw_below_drewN | apply below_drew1) | exact HB.out)))); (case aL => have := LMc28.out; omega); intro v127 w29 ho hb hg hat; rw [← Ny126.out] at ho; have n0_ := Aside0.mk (hb); have n1_ := Aside0.mk (ho); clear HB; clear HO125; have HB := n0_; have HO128 := n1_; clear n0_ n1_; clear ho hb hg hat)); try go_wp2_with (first | ((with_reducible refine gate_builtin (b := .append) (xs := #[.tmp 83, .tmp 85]) rfl ?_); (try (refine gate_guard (by rfl) ?_; dsimp only)); at_builtin; refine Kd.R_append (Kd.int .u64) (w0 := w) w.heap.size rfl (.tmp 83) (.tmp 85) 33 22 (.int .u64 0) 8 rfl Try.underlying33 info22 rfl (by decide) (by omega) v124 y123 t113 [.int .u64 t113] (fun _ => True) (fun _ => False) rfl rfl ?aP (fun _ hk => hk.elim) ?aF ?aO ?aB ?aS ?aL ?_; (case aP => exact rfl); (case aB => exact (by repeat (first | (with_reducible first | exact HB.out | apply below_alloc | apply pw_below_drewN | apply below_drew1) | exact HB.out))); (case aF => exact (fun _ _ => trivial)); (case aO => exact (by (with_reducible repeat (first | apply Kd.R_alloc | apply Kd.R_drewN | apply Kd.R_drew)); exact HO125.out)); (case aS => exact (below_size (by repeat (first | (with_reducible first | exact HB.out | apply below_alloc | apply pw_below_drewN | apply below_drew1) | exact HB.out)))); (case aL => have := LMc28.out; omega); intro v127 w29 ho hb hg hat; rw [← Ny126.out] at ho; have n0_ := Aside0.mk (hb); have n1_ := Aside0.mk (ho); clear HB; clear HO125; have HB := n0_; have HO128 := n1_; clear n0_ n1_; clear ho hb hg hat)))
                          go_meet
                          case rel => exact ⟨_, (y126), H', ⟨by have := HJ6.out; have := HJ11.out; have := HJ17.out; first | omega | exact Nat.le_refl _⟩, ⟨by (with_reducible repeat (first | apply Kd.R_alloc | apply Kd.R_drewN | apply Kd.R_drew)); exact HO128.out⟩, ⟨by repeat (first | (with_reducible first | exact HB.out | apply below_alloc | apply pw_below_drewN | apply below_drew1) | exact HB.out)⟩⟩
                        · rw [if_neg c28] at H
                          exact absurd H (by simp)
                      · replace c27 := Bool.eq_false_iff.mpr c27
                        subst c27
                        have H1 : (casketlaw1_WordApart.j3 kj17 a4 a5 t117 t118 y123) = some r := by rw [if_neg (show ¬ (false = true) by decide)] at H; exact H
                        clear H
                        have H := H1
                        clear H1
                        have H' := Aside0.mk H
                        clear H
                        go_wp2
                        repeat (go_quiet (fail); try go_wp2)
                        go_meet
                        case rel => exact ⟨_, (y123), H', ⟨by have := HJ6.out; have := HJ11.out; have := HJ17.out; first | omega | exact Nat.le_refl _⟩, ⟨by (with_reducible repeat (first | apply Kd.R_alloc | apply Kd.R_drewN | apply Kd.R_drew)); exact HO125.out⟩, ⟨by repeat (first | (with_reducible first | exact HB.out | apply below_alloc | apply pw_below_drewN | apply below_drew1) | exact HB.out)⟩⟩
                    case rest =>
                      clear HC24
                      try clear c1
                      try clear c2
                      try clear p2
                      try clear c5
                      try clear c8
                      try clear c8b0
                      try clear c8b1
                      try clear c9
                      try clear c13
                      try clear c14
                      try clear c15
                      try clear c19
                      try clear c20
                      try clear c21
                      try clear c27
                      try clear c28
                      try clear p2
                      obtain ⟨kq, x21_23, HA, HJ23, HO_21, HB⟩ := hcut
                      cases kq with
                      | zero => exact absurd HA.out (by simp [casketlaw1_WordApart.j3])
                      | succ kj23 =>
                        have H := HA.out
                        clear HA
                        simp only [casketlaw1_WordApart.j3] at H
                        have HC30 := Aside0.mk H
                        clear H
                        go_upto_if 87 with (fail)
                        repeat (go_quiet (fail); go_upto_if 87 with (fail))
                        go_cut [21] (fun v21 wc => ∃ (kq : Nat) (x21_29 : List Int), Aside0 (casketlaw1_WordApart.j4 kq a4 a5 x21_29 = some r) ∧ Aside0 (kq ≤ kj23) ∧ Aside0 (Kd.R (Kd.int .u64) 22 wc w.heap.size (fun _ => True) v21 x21_29) ∧ Aside0 (Below w.heap.size w wc))
                        case first =>
                          have H := HC30.out
                          clear HC30
                          by_cases c31 : t118 = true
                          · subst c31
                            have H1 : (if x21_23.length < 17592186044416 then (casketlaw1_WordApart.j4 kj23 a4 a5 (x21_23 ++ [t117])) else (none)) = some r := by rw [if_pos rfl] at H; exact H
                            clear H
                            have H := H1
                            clear H1
                            by_cases c32 : x21_23.length < 17592186044416
                            · rw [if_pos c32] at H
                              have LMc32 := Aside0.mk c32
                              clear c32
                              obtain ⟨y129, hy129⟩ : ∃ y_ : List Int, y_ = (x21_23 ++ [t117]) := ⟨_, rfl⟩
                              replace H : (casketlaw1_WordApart.j4 kj23 a4 a5 y129) = some r := by first | (rw [hy129]; with_reducible exact H) | (have H2_ := (Option.bind_some _ _).symm.trans H; rw [hy129]; with_reducible exact H2_) | (have H2_ := (Option.bind_some _ _).symm.trans H; with_reducible exact H2_) | with_reducible exact H | (rw [hy129]; exact H) | exact H
                              have Ny129 := Aside0.mk hy129
                              clear hy129
                              have H' := Aside0.mk H
                              clear H
                              go_wp2_with (first | ((with_reducible refine gate_builtin (b := .append) (xs := #[.tmp 88, .tmp 90]) rfl ?_); (try (refine gate_guard (by rfl) ?_; dsimp only)); at_builtin; refine Kd.R_append (Kd.int .u64) (w0 := w) w.heap.size rfl (.tmp 88) (.tmp 90) 33 22 (.int .u64 0) 8 rfl Try.underlying33 info22 rfl (by decide) (by omega) u21 x21_23 t117 [.int .u64 t117] (fun _ => True) (fun _ => False) rfl rfl ?aP (fun _ hk => hk.elim) ?aF ?aO ?aB ?aS ?aL ?_; (case aP => exact rfl); (case aB => exact (by repeat (first | (with_reducible first | exact HB.out | apply below_alloc | apply pw_below_drewN | apply below_drew1) | exact HB.out))); (case aF => exact (fun _ _ => trivial)); (case aO => exact (by (with_reducible repeat (first | apply Kd.R_alloc | apply Kd.R_drewN | apply Kd.R_drew)); exact HO_21.out)); (case aS => exact (below_size (by repeat (first | (with_reducible first | exact HB.out | apply below_alloc | apply pw_below_drewN | apply below_drew1) | exact HB.out)))); (case aL => have := LMc32.out; omega); intro v130 w33 ho hb hg hat; rw [← Ny129.out] at ho; have n0_ := Aside0.mk (hb); have n1_ := Aside0.mk (ho); clear HB; clear HO_21; have HB := n0_; have HO131 := n1_; clear n0_ n1_; clear ho hb hg hat))
                              repeat (go_quiet (first | ((with_reducible refine gate_builtin (b := .append) (xs := #[.tmp 88, .tmp 90]) rfl ?_); (try (refine gate_guard (by rfl) ?_; dsimp only)); at_builtin; refine Kd.R_append (Kd.int .u64) (w0 := w) w.heap.size rfl (.tmp 88) (.tmp 90) 33 22 (.int .u64 0) 8 rfl Try.underlying33 info22 rfl (by decide) (by omega) u21 x21_23 t117 [.int .u64 t117] (fun _ => True) (fun _ => False) rfl rfl ?aP (fun _ hk => hk.elim) ?aF ?aO ?aB ?aS ?aL ?_; (case aP => exact rfl); (case aB => exact (by repeat (first | (with_reducible first | exact HB.out | apply below_alloc | apply pw_below_drewN | apply below_drew1) | exact HB.out))); (case aF => exact (fun _ _ => trivial)); (case aO => exact (by (with_reducible repeat (first | apply Kd.R_alloc | apply Kd.R_drewN | apply Kd.R_drew)); exact HO_21.out)); (case aS => exact (below_size (by repeat (first | (with_reducible first | exact HB.out | apply below_alloc | apply pw_below_drewN | apply below_drew1) | exact HB.out)))); (case aL => have := LMc32.out; omega); intro v130 w33 ho hb hg hat; rw [← Ny129.out] at ho; have n0_ := Aside0.mk (hb); have n1_ := Aside0.mk (ho); clear HB; clear HO_21; have HB := n0_; have HO131 := n1_; clear n0_ n1_; clear ho hb hg hat)); try go_wp2_with (first | ((with_reducible refine gate_builtin (b := .append) (xs := #[.tmp 88, .tmp 90]) rfl ?_); (try (refine gate_guard (by rfl) ?_; dsimp only)); at_builtin; refine Kd.R_append (Kd.int .u64) (w0 := w) w.heap.size rfl (.tmp 88) (.tmp 90) 33 22 (.int .u64 0) 8 rfl Try.underlying33 info22 rfl (by decide) (by omega) u21 x21_23 t117 [.int .u64 t117] (fun _ => True) (fun _ => False) rfl rfl ?aP (fun _ hk => hk.elim) ?aF ?aO ?aB ?aS ?aL ?_; (case aP => exact rfl); (case aB => exact (by repeat (first | (with_reducible first | exact HB.out | apply below_alloc | apply pw_below_drewN | apply below_drew1) | exact HB.out))); (case aF => exact (fun _ _ => trivial)); (case aO => exact (by (with_reducible repeat (first | apply Kd.R_alloc | apply Kd.R_drewN | apply Kd.R_drew)); exact HO_21.out)); (case aS => exact (below_size (by repeat (first | (with_reducible first | exact HB.out | apply below_alloc | apply pw_below_drewN | apply below_drew1) | exact HB.out)))); (case aL => have := LMc32.out; omega); intro v130 w33 ho hb hg hat; rw [← Ny129.out] at ho; have n0_ := Aside0.mk (hb); have n1_ := Aside0.mk (ho); clear HB; clear HO_21; have HB := n0_; have HO131 := n1_; clear n0_ n1_; clear ho hb hg hat)))
                              go_meet
                              case rel => exact ⟨_, (y129), H', ⟨by have := HJ6.out; have := HJ11.out; have := HJ17.out; have := HJ23.out; first | omega | exact Nat.le_refl _⟩, ⟨by (with_reducible repeat (first | apply Kd.R_alloc | apply Kd.R_drewN | apply Kd.R_drew)); exact HO131.out⟩, ⟨by repeat (first | (with_reducible first | exact HB.out | apply below_alloc | apply pw_below_drewN | apply below_drew1) | exact HB.out)⟩⟩
                            · rw [if_neg c32] at H
                              exact absurd H (by simp)
                          · replace c31 := Bool.eq_false_iff.mpr c31
                            subst c31
                            have H1 : (casketlaw1_WordApart.j4 kj23 a4 a5 x21_23) = some r := by rw [if_neg (show ¬ (false = true) by decide)] at H; exact H
                            clear H
                            have H := H1
                            clear H1
                            have H' := Aside0.mk H
                            clear H
                            go_wp2
                            repeat (go_quiet (fail); try go_wp2)
                            go_meet
                            case rel => exact ⟨_, (x21_23), H', ⟨by have := HJ6.out; have := HJ11.out; have := HJ17.out; have := HJ23.out; first | omega | exact Nat.le_refl _⟩, ⟨by (with_reducible repeat (first | apply Kd.R_alloc | apply Kd.R_drewN | apply Kd.R_drew)); exact HO_21.out⟩, ⟨by repeat (first | (with_reducible first | exact HB.out | apply below_alloc | apply pw_below_drewN | apply below_drew1) | exact HB.out)⟩⟩
                        case rest =>
                          clear HC30
                          try clear c1
                          try clear c2
                          try clear p2
                          try clear c3
                          try clear c5
                          try clear c8
                          try clear c8b0
                          try clear c8b1
                          try clear c9
                          try clear c13
                          try clear c14
                          try clear c15
                          try clear c19
                          try clear c20
                          try clear c21
                          try clear c27
                          try clear c28
                          try clear c31
                          try clear c32
                          try clear p2
                          obtain ⟨kq, x21_29, HA, HJ29, HO_21, HB⟩ := hcut
                          cases kq with
                          | zero => exact absurd HA.out (by simp [casketlaw1_WordApart.j4])
                          | succ kj29 =>
                            have H := HA.out
                            clear HA
                            simp only [casketlaw1_WordApart.j4] at H
                            have H' := Aside0.mk H
                            clear H
                            go_wp2
                            repeat (go_quiet (fail); try go_wp2)
                            go_loopg [22] kj29 (fun kq v22 w' => ∃ (x22_6 : Int), v22 = .int .i64 x22_6 ∧ Aside0 (casketlaw1_WordApart.l0 kq a4 a5 x21_29 x22_6 = some r) ∧ Aside0 (kq ≤ kj29) ∧ Aside0 (Kd.R (Kd.int .u64) 22 w' w.heap.size (fun _ => True) u21 x21_29) ∧ Aside0 (Below w.heap.size w w'))
                            case atStart => exact ⟨(0), (by first | rfl | (simp; done) | (simp [*]; done)), H', ⟨Nat.le_refl _⟩, ⟨by (with_reducible repeat (first | apply Kd.R_alloc | apply Kd.R_drewN | apply Kd.R_drew)); exact HO_21.out⟩, ⟨by repeat (first | (with_reducible first | exact HB.out | apply below_alloc | apply pw_below_drewN | apply below_drew1) | exact HB.out)⟩⟩
                            case round =>
                              clear H'
                              try clear c1
                              try clear c2
                              try clear p2
                              try clear c3
                              try clear c5
                              try clear c8
                              try clear c8b0
                              try clear c8b1
                              try clear c9
                              try clear c13
                              try clear c14
                              try clear c15
                              try clear c19
                              try clear c20
                              try clear c21
                              try clear c27
                              try clear c28
                              try clear c31
                              try clear c32
                              try clear p2
                              obtain ⟨x22_6, rfl, HA, HK6, HO_21, HB⟩ := hrel
                              cases gk with
                              | zero => exact absurd HA.out (by simp [casketlaw1_WordApart.l0])
                              | succ k6 =>
                                have H := HA.out
                                clear HA
                                simp only [casketlaw1_WordApart.l0] at H
                                by_cases c34 : x22_6 < (x21_29.length : Int)
                                · rw [if_pos c34] at H
                                  have c34b0 : decide (x22_6 < (x21_29.length : Int)) = true := decide_eq_true c34
                                  clear c34
                                  have H' := Aside0.mk H
                                  clear H
                                  obtain ⟨Ao35, co35, eo35⟩ := Kd.R_slice HO_21.out
                                  subst eo35
                                  go_wp2
                                  repeat (go_quiet (fail); try go_wp2)
                                  go_loopg [23] k6 (fun kq v23 w' => ∃ (x23_7 : Int), v23 = .int .i64 x23_7 ∧ Aside0 (casketlaw1_WordApart.l1 kq a4 a5 x21_29 x22_6 x23_7 = some r) ∧ Aside0 (kq ≤ k6) ∧ Aside0 (Kd.R (Kd.int .u64) 22 w' w.heap.size (fun _ => True) (.slice Ao35 x21_29.length co35) x21_29) ∧ Aside0 (Below w.heap.size w w'))
                                  case atStart => exact ⟨(0), (by first | rfl | (simp; done) | (simp [*]; done)), H', ⟨Nat.le_refl _⟩, ⟨by (with_reducible repeat (first | apply Kd.R_alloc | apply Kd.R_drewN | apply Kd.R_drew)); exact HO_21.out⟩, ⟨by repeat (first | (with_reducible first | exact HB.out | apply below_alloc | apply pw_below_drewN | apply below_drew1) | exact HB.out)⟩⟩
                                  case round =>
                                    clear H'
                                    try clear c1
                                    try clear c2
                                    try clear p2
                                    try clear c3
                                    try clear c5
                                    try clear c8
                                    try clear c8b0
                                    try clear c8b1
                                    try clear c9
                                    try clear c13
                                    try clear c14
                                    try clear c15
                                    try clear c19
                                    try clear c20
                                    try clear c21
                                    try clear c27
                                    try clear c28
                                    try clear c31
                                    try clear c32
                                    try clear c34
                                    try clear c34b0
                                    try clear p2
                                    obtain ⟨x23_7, rfl, HA, HK7, HO_21, HB⟩ := hrel
                                    cases gk with
                                    | zero => exact absurd HA.out (by simp [casketlaw1_WordApart.l1])
                                    | succ k7 =>
                                      have H := HA.out
                                      clear HA
                                      simp only [casketlaw1_WordApart.l1] at H
                                      by_cases c36 : x23_7 < x22_6
                                      · rw [if_pos c36] at H
                                        have c36b0 : decide (x23_7 < x22_6) = true := decide_eq_true c36
                                        clear c36
                                        by_cases c37 : 0 ≤ x22_6
                                        · rw [if_pos c37] at H
                                          have c37b0 : decide (0 ≤ x22_6) = true := decide_eq_true c37
                                          clear c37
                                          by_cases c38 : x22_6 < (x21_29.length : Int)
                                          · rw [if_pos c38] at H
                                            have c38b0 : decide (x22_6 < (x21_29.length : Int)) = true := decide_eq_true c38
                                            clear c38
                                            by_cases c39 : 0 ≤ x23_7
                                            · rw [if_pos c39] at H
                                              have c39b0 : decide (0 ≤ x23_7) = true := decide_eq_true c39
                                              clear c39
                                              by_cases c40 : x23_7 < (x21_29.length : Int)
                                              · rw [if_pos c40] at H
                                                have c40b0 : decide (x23_7 < (x21_29.length : Int)) = true := decide_eq_true c40
                                                clear c40
                                                by_cases c41 : (rd x21_29 x22_6) = (rd x21_29 x23_7)
                                                · rw [if_pos c41] at H
                                                  have c41b0 : ((rd x21_29 x22_6) == (rd x21_29 x23_7)) = true := beq_iff_eq.mpr c41
                                                  have c41b1 : ((rd x21_29 x22_6) != (rd x21_29 x23_7)) = false := bne_eq_false_iff_eq.mpr c41
                                                  clear c41
                                                  obtain rfl := Option.some.inj H
                                                  have p135 : 0 ≤ (x22_6 : Int) := of_decide_eq_true (by first | (with_reducible assumption) | assumption)
                                                  have q135 : x22_6 < (x21_29.length : Int) := of_decide_eq_true (by first | (with_reducible assumption) | assumption)
                                                  obtain ⟨ad135, e135, hx135_0⟩ := Kd.at_int (Kd.R_reads' HO_21.out).2.2 x22_6 p135 q135
                                                  cases e135
                                                  replace p135 := eq_true p135
                                                  replace q135 := eq_true q135
                                                  have p136 : 0 ≤ (x23_7 : Int) := of_decide_eq_true (by first | (with_reducible assumption) | assumption)
                                                  have q136 : x23_7 < (x21_29.length : Int) := of_decide_eq_true (by first | (with_reducible assumption) | assumption)
                                                  obtain ⟨ad136, e136, hx136_0⟩ := Kd.at_int (Kd.R_reads' HO_21.out).2.2 x23_7 p136 q136
                                                  obtain rfl : ad135 = ad136 := (by injection e136)
                                                  replace p136 := eq_true p136
                                                  replace q136 := eq_true q136
                                                  go_wp2
                                                  repeat (go_quiet (fail); try go_wp2)
                                                  go_ret
                                                  exact ⟨by first | rfl | (simp [errW_none, errW_some] <;> rfl) | (simp [*, errW_none, errW_some] <;> rfl), by repeat (first | (with_reducible first | exact HB.out | apply below_alloc | apply pw_below_drewN | apply below_drew1) | exact HB.out)⟩
                                                · rw [if_neg c41] at H
                                                  have c41b0 : ((rd x21_29 x22_6) == (rd x21_29 x23_7)) = false := beq_eq_false_iff_ne.mpr c41
                                                  have c41b1 : ((rd x21_29 x22_6) != (rd x21_29 x23_7)) = true := bne_iff_ne.mpr c41
                                                  have H' := Aside0.mk H
                                                  clear H
                                                  have p135 : 0 ≤ (x22_6 : Int) := of_decide_eq_true (by first | (with_reducible assumption) | assumption)
                                                  have q135 : x22_6 < (x21_29.length : Int) := of_decide_eq_true (by first | (with_reducible assumption) | assumption)
                                                  obtain ⟨ad135, e135, hx135_0⟩ := Kd.at_int (Kd.R_reads' HO_21.out).2.2 x22_6 p135 q135
                                                  cases e135
                                                  replace p135 := eq_true p135
                                                  replace q135 := eq_true q135
                                                  have p136 : 0 ≤ (x23_7 : Int) := of_decide_eq_true (by first | (with_reducible assumption) | assumption)
                                                  have q136 : x23_7 < (x21_29.length : Int) := of_decide_eq_true (by first | (with_reducible assumption) | assumption)
                                                  obtain ⟨ad136, e136, hx136_0⟩ := Kd.at_int (Kd.R_reads' HO_21.out).2.2 x23_7 p136 q136
                                                  obtain rfl : ad135 = ad136 := (by injection e136)
                                                  replace p136 := eq_true p136
                                                  replace q136 := eq_true q136
                                                  go_wp2
                                                  repeat (go_quiet (fail); try go_wp2)
                                                  go_roundg k7
                                                  case measure => have := HJ6.out; have := HJ11.out; have := HJ17.out; have := HJ23.out; have := HJ29.out; have := HK6.out; have := HK7.out; omega
                                                  case rel => exact ⟨(wrap64 (x23_7 + 1)), (by first | rfl | (simp; done) | (simp [*]; done)), H', ⟨by have := HJ6.out; have := HJ11.out; have := HJ17.out; have := HJ23.out; have := HJ29.out; have := HK6.out; have := HK7.out; omega⟩, ⟨by (with_reducible repeat (first | apply Kd.R_alloc | apply Kd.R_drewN | apply Kd.R_drew)); exact HO_21.out⟩, ⟨by repeat (first | (with_reducible first | exact HB.out | apply below_alloc | apply pw_below_drewN | apply below_drew1) | exact HB.out)⟩⟩
                                              · rw [if_neg c40] at H
                                                exact absurd H (by simp)
                                            · rw [if_neg c39] at H
                                              exact absurd H (by simp)
                                          · rw [if_neg c38] at H
                                            exact absurd H (by simp)
                                        · rw [if_neg c37] at H
                                          exact absurd H (by simp)
                                      · rw [if_neg c36] at H
                                        have c36b0 : decide (x23_7 < x22_6) = false := decide_eq_false c36
                                        clear c36
                                        by_cases c42 : 0 ≤ x22_6
                                        · rw [if_pos c42] at H
                                          have c42b0 : decide (0 ≤ x22_6) = true := decide_eq_true c42
                                          clear c42
                                          by_cases c43 : x22_6 < (x21_29.length : Int)
                                          · rw [if_pos c43] at H
                                            have c43b0 : decide (x22_6 < (x21_29.length : Int)) = true := decide_eq_true c43
                                            clear c43
                                            replace H := Option.bind_eq_some_iff.mp H
                                            obtain ⟨t138, A440, H⟩ := H
                                            replace H : (if t138 = 1 then (some false) else ((word_FromFloat.f (rd x21_29 x22_6)).bind fun t140 => (if t140 = 9221120237041090560 then (casketlaw1_WordApart.l0 k7 a4 a5 x21_29 (wrap64 (x22_6 + 1))) else (some false)))) = some r := H
                                            have A44 := Aside0.mk A440
                                            clear A440
                                            by_cases c45 : t138 = 1
                                            · rw [if_pos c45] at H
                                              have c45b0 : (t138 == 1) = true := beq_iff_eq.mpr c45
                                              have c45b1 : (t138 != 1) = false := bne_eq_false_iff_eq.mpr c45
                                              clear c45
                                              obtain rfl := Option.some.inj H
                                              have p137 : 0 ≤ (x22_6 : Int) := of_decide_eq_true (by first | (with_reducible assumption) | assumption)
                                              have q137 : x22_6 < (x21_29.length : Int) := of_decide_eq_true (by first | (with_reducible assumption) | assumption)
                                              obtain ⟨ad137, e137, hx137_0⟩ := Kd.at_int (Kd.R_reads' HO_21.out).2.2 x22_6 p137 q137
                                              cases e137
                                              replace p137 := eq_true p137
                                              replace q137 := eq_true q137
                                              go_wp2_with (first | (go_at_call 14; (with_reducible refine (word_Class.calls k7 (rd x21_29 x22_6) t138 _ A44.out).mono ?_); rintro e w' ⟨rfl, ⟨nd, rfl⟩⟩; (try first | exact ⟨rfl, _, World.drewN_drewN _ _ _⟩ | exact ⟨rfl, _, Eq.trans (World.drewN_drewN _ _ _) (congrArg (World.drewN _) (Nat.add_assoc _ _ _))⟩)))
                                              repeat (go_quiet (first | (go_at_call 14; (with_reducible refine (word_Class.calls k7 (rd x21_29 x22_6) t138 _ A44.out).mono ?_); rintro e w' ⟨rfl, ⟨nd, rfl⟩⟩; (try first | exact ⟨rfl, _, World.drewN_drewN _ _ _⟩ | exact ⟨rfl, _, Eq.trans (World.drewN_drewN _ _ _) (congrArg (World.drewN _) (Nat.add_assoc _ _ _))⟩))); try go_wp2_with (first | (go_at_call 14; (with_reducible refine (word_Class.calls k7 (rd x21_29 x22_6) t138 _ A44.out).mono ?_); rintro e w' ⟨rfl, ⟨nd, rfl⟩⟩; (try first | exact ⟨rfl, _, World.drewN_drewN _ _ _⟩ | exact ⟨rfl, _, Eq.trans (World.drewN_drewN _ _ _) (congrArg (World.drewN _) (Nat.add_assoc _ _ _))⟩))))
                                              go_ret
                                              exact ⟨by first | rfl | (simp [errW_none, errW_some] <;> rfl) | (simp [*, errW_none, errW_some] <;> rfl), by repeat (first | (with_reducible first | exact HB.out | apply below_alloc | apply pw_below_drewN | apply below_drew1) | exact HB.out)⟩
                                            · rw [if_neg c45] at H
                                              have c45b0 : (t138 == 1) = false := beq_eq_false_iff_ne.mpr c45
                                              have c45b1 : (t138 != 1) = true := bne_iff_ne.mpr c45
                                              replace H := Option.bind_eq_some_iff.mp H
                                              obtain ⟨t140, A460, H⟩ := H
                                              replace H : (if t140 = 9221120237041090560 then (casketlaw1_WordApart.l0 k7 a4 a5 x21_29 (wrap64 (x22_6 + 1))) else (some false)) = some r := H
                                              have A46 := Aside0.mk A460
                                              clear A460
                                              by_cases c47 : t140 = 9221120237041090560
                                              · rw [if_pos c47] at H
                                                have c47b0 : (t140 == 9221120237041090560) = true := beq_iff_eq.mpr c47
                                                have c47b1 : (t140 != 9221120237041090560) = false := bne_eq_false_iff_eq.mpr c47
                                                clear c47
                                                have H' := Aside0.mk H
                                                clear H
                                                have p137 : 0 ≤ (x22_6 : Int) := of_decide_eq_true (by first | (with_reducible assumption) | assumption)
                                                have q137 : x22_6 < (x21_29.length : Int) := of_decide_eq_true (by first | (with_reducible assumption) | assumption)
                                                obtain ⟨ad137, e137, hx137_0⟩ := Kd.at_int (Kd.R_reads' HO_21.out).2.2 x22_6 p137 q137
                                                cases e137
                                                replace p137 := eq_true p137
                                                replace q137 := eq_true q137
                                                go_wp2_with (first | (go_at_call 14; (with_reducible refine (word_Class.calls k7 (rd x21_29 x22_6) t138 _ A44.out).mono ?_); rintro e w' ⟨rfl, ⟨nd, rfl⟩⟩; (try first | exact ⟨rfl, _, World.drewN_drewN _ _ _⟩ | exact ⟨rfl, _, Eq.trans (World.drewN_drewN _ _ _) (congrArg (World.drewN _) (Nat.add_assoc _ _ _))⟩); have p139 : 0 ≤ (x22_6 : Int) := of_decide_eq_true (by first | (with_reducible assumption) | assumption); have q139 : x22_6 < (x21_29.length : Int) := of_decide_eq_true (by first | (with_reducible assumption) | assumption); obtain ⟨ad139, e139, hx139_0⟩ := Kd.at_int (Kd.R_reads' HO_21.out).2.2 x22_6 p139 q139; obtain rfl : ad137 = ad139 := (by injection e139); replace p139 := eq_true p139; replace q139 := eq_true q139) | (go_at_call 20; (with_reducible refine (word_FromFloat.calls (rd x21_29 x22_6) t140 _ A46.out).mono ?_); rintro e w' ⟨rfl, ⟨nd, rfl⟩⟩; (try first | exact ⟨rfl, _, World.drewN_drewN _ _ _⟩ | exact ⟨rfl, _, Eq.trans (World.drewN_drewN _ _ _) (congrArg (World.drewN _) (Nat.add_assoc _ _ _))⟩)))
                                                repeat (go_quiet (first | (go_at_call 14; (with_reducible refine (word_Class.calls k7 (rd x21_29 x22_6) t138 _ A44.out).mono ?_); rintro e w' ⟨rfl, ⟨nd, rfl⟩⟩; (try first | exact ⟨rfl, _, World.drewN_drewN _ _ _⟩ | exact ⟨rfl, _, Eq.trans (World.drewN_drewN _ _ _) (congrArg (World.drewN _) (Nat.add_assoc _ _ _))⟩); have p139 : 0 ≤ (x22_6 : Int) := of_decide_eq_true (by first | (with_reducible assumption) | assumption); have q139 : x22_6 < (x21_29.length : Int) := of_decide_eq_true (by first | (with_reducible assumption) | assumption); obtain ⟨ad139, e139, hx139_0⟩ := Kd.at_int (Kd.R_reads' HO_21.out).2.2 x22_6 p139 q139; obtain rfl : ad137 = ad139 := (by injection e139); replace p139 := eq_true p139; replace q139 := eq_true q139) | (go_at_call 20; (with_reducible refine (word_FromFloat.calls (rd x21_29 x22_6) t140 _ A46.out).mono ?_); rintro e w' ⟨rfl, ⟨nd, rfl⟩⟩; (try first | exact ⟨rfl, _, World.drewN_drewN _ _ _⟩ | exact ⟨rfl, _, Eq.trans (World.drewN_drewN _ _ _) (congrArg (World.drewN _) (Nat.add_assoc _ _ _))⟩))); try go_wp2_with (first | (go_at_call 14; (with_reducible refine (word_Class.calls k7 (rd x21_29 x22_6) t138 _ A44.out).mono ?_); rintro e w' ⟨rfl, ⟨nd, rfl⟩⟩; (try first | exact ⟨rfl, _, World.drewN_drewN _ _ _⟩ | exact ⟨rfl, _, Eq.trans (World.drewN_drewN _ _ _) (congrArg (World.drewN _) (Nat.add_assoc _ _ _))⟩); have p139 : 0 ≤ (x22_6 : Int) := of_decide_eq_true (by first | (with_reducible assumption) | assumption); have q139 : x22_6 < (x21_29.length : Int) := of_decide_eq_true (by first | (with_reducible assumption) | assumption); obtain ⟨ad139, e139, hx139_0⟩ := Kd.at_int (Kd.R_reads' HO_21.out).2.2 x22_6 p139 q139; obtain rfl : ad137 = ad139 := (by injection e139); replace p139 := eq_true p139; replace q139 := eq_true q139) | (go_at_call 20; (with_reducible refine (word_FromFloat.calls (rd x21_29 x22_6) t140 _ A46.out).mono ?_); rintro e w' ⟨rfl, ⟨nd, rfl⟩⟩; (try first | exact ⟨rfl, _, World.drewN_drewN _ _ _⟩ | exact ⟨rfl, _, Eq.trans (World.drewN_drewN _ _ _) (congrArg (World.drewN _) (Nat.add_assoc _ _ _))⟩))))
                                                go_roundg k7
                                                case measure => have := HJ6.out; have := HJ11.out; have := HJ17.out; have := HJ23.out; have := HJ29.out; have := HK6.out; have := HK7.out; omega
                                                case rel => exact ⟨(wrap64 (x22_6 + 1)), (by first | rfl | (simp; done) | (simp [*]; done)), H', ⟨by have := HJ6.out; have := HJ11.out; have := HJ17.out; have := HJ23.out; have := HJ29.out; have := HK6.out; have := HK7.out; omega⟩, ⟨by (with_reducible repeat (first | apply Kd.R_alloc | apply Kd.R_drewN | apply Kd.R_drew)); exact HO_21.out⟩, ⟨by repeat (first | (with_reducible first | exact HB.out | apply below_alloc | apply pw_below_drewN | apply below_drew1) | exact HB.out)⟩⟩
                                              · rw [if_neg c47] at H
                                                have c47b0 : (t140 == 9221120237041090560) = false := beq_eq_false_iff_ne.mpr c47
                                                have c47b1 : (t140 != 9221120237041090560) = true := bne_iff_ne.mpr c47
                                                obtain rfl := Option.some.inj H
                                                have p137 : 0 ≤ (x22_6 : Int) := of_decide_eq_true (by first | (with_reducible assumption) | assumption)
                                                have q137 : x22_6 < (x21_29.length : Int) := of_decide_eq_true (by first | (with_reducible assumption) | assumption)
                                                obtain ⟨ad137, e137, hx137_0⟩ := Kd.at_int (Kd.R_reads' HO_21.out).2.2 x22_6 p137 q137
                                                cases e137
                                                replace p137 := eq_true p137
                                                replace q137 := eq_true q137
                                                go_wp2_with (first | (go_at_call 14; (with_reducible refine (word_Class.calls k7 (rd x21_29 x22_6) t138 _ A44.out).mono ?_); rintro e w' ⟨rfl, ⟨nd, rfl⟩⟩; (try first | exact ⟨rfl, _, World.drewN_drewN _ _ _⟩ | exact ⟨rfl, _, Eq.trans (World.drewN_drewN _ _ _) (congrArg (World.drewN _) (Nat.add_assoc _ _ _))⟩); have p139 : 0 ≤ (x22_6 : Int) := of_decide_eq_true (by first | (with_reducible assumption) | assumption); have q139 : x22_6 < (x21_29.length : Int) := of_decide_eq_true (by first | (with_reducible assumption) | assumption); obtain ⟨ad139, e139, hx139_0⟩ := Kd.at_int (Kd.R_reads' HO_21.out).2.2 x22_6 p139 q139; obtain rfl : ad137 = ad139 := (by injection e139); replace p139 := eq_true p139; replace q139 := eq_true q139) | (go_at_call 20; (with_reducible refine (word_FromFloat.calls (rd x21_29 x22_6) t140 _ A46.out).mono ?_); rintro e w' ⟨rfl, ⟨nd, rfl⟩⟩; (try first | exact ⟨rfl, _, World.drewN_drewN _ _ _⟩ | exact ⟨rfl, _, Eq.trans (World.drewN_drewN _ _ _) (congrArg (World.drewN _) (Nat.add_assoc _ _ _))⟩)))
                                                repeat (go_quiet (first | (go_at_call 14; (with_reducible refine (word_Class.calls k7 (rd x21_29 x22_6) t138 _ A44.out).mono ?_); rintro e w' ⟨rfl, ⟨nd, rfl⟩⟩; (try first | exact ⟨rfl, _, World.drewN_drewN _ _ _⟩ | exact ⟨rfl, _, Eq.trans (World.drewN_drewN _ _ _) (congrArg (World.drewN _) (Nat.add_assoc _ _ _))⟩); have p139 : 0 ≤ (x22_6 : Int) := of_decide_eq_true (by first | (with_reducible assumption) | assumption); have q139 : x22_6 < (x21_29.length : Int) := of_decide_eq_true (by first | (with_reducible assumption) | assumption); obtain ⟨ad139, e139, hx139_0⟩ := Kd.at_int (Kd.R_reads' HO_21.out).2.2 x22_6 p139 q139; obtain rfl : ad137 = ad139 := (by injection e139); replace p139 := eq_true p139; replace q139 := eq_true q139) | (go_at_call 20; (with_reducible refine (word_FromFloat.calls (rd x21_29 x22_6) t140 _ A46.out).mono ?_); rintro e w' ⟨rfl, ⟨nd, rfl⟩⟩; (try first | exact ⟨rfl, _, World.drewN_drewN _ _ _⟩ | exact ⟨rfl, _, Eq.trans (World.drewN_drewN _ _ _) (congrArg (World.drewN _) (Nat.add_assoc _ _ _))⟩))); try go_wp2_with (first | (go_at_call 14; (with_reducible refine (word_Class.calls k7 (rd x21_29 x22_6) t138 _ A44.out).mono ?_); rintro e w' ⟨rfl, ⟨nd, rfl⟩⟩; (try first | exact ⟨rfl, _, World.drewN_drewN _ _ _⟩ | exact ⟨rfl, _, Eq.trans (World.drewN_drewN _ _ _) (congrArg (World.drewN _) (Nat.add_assoc _ _ _))⟩); have p139 : 0 ≤ (x22_6 : Int) := of_decide_eq_true (by first | (with_reducible assumption) | assumption); have q139 : x22_6 < (x21_29.length : Int) := of_decide_eq_true (by first | (with_reducible assumption) | assumption); obtain ⟨ad139, e139, hx139_0⟩ := Kd.at_int (Kd.R_reads' HO_21.out).2.2 x22_6 p139 q139; obtain rfl : ad137 = ad139 := (by injection e139); replace p139 := eq_true p139; replace q139 := eq_true q139) | (go_at_call 20; (with_reducible refine (word_FromFloat.calls (rd x21_29 x22_6) t140 _ A46.out).mono ?_); rintro e w' ⟨rfl, ⟨nd, rfl⟩⟩; (try first | exact ⟨rfl, _, World.drewN_drewN _ _ _⟩ | exact ⟨rfl, _, Eq.trans (World.drewN_drewN _ _ _) (congrArg (World.drewN _) (Nat.add_assoc _ _ _))⟩))))
                                                go_ret
                                                exact ⟨by first | rfl | (simp [errW_none, errW_some] <;> rfl) | (simp [*, errW_none, errW_some] <;> rfl), by repeat (first | (with_reducible first | exact HB.out | apply below_alloc | apply pw_below_drewN | apply below_drew1) | exact HB.out)⟩
                                          · rw [if_neg c43] at H
                                            exact absurd H (by simp)
                                        · rw [if_neg c42] at H
                                          exact absurd H (by simp)
                                · rw [if_neg c34] at H
                                  have c34b0 : decide (x22_6 < (x21_29.length : Int)) = false := decide_eq_false c34
                                  clear c34
                                  replace H := Option.bind_eq_some_iff.mp H
                                  obtain ⟨t132, A480, H⟩ := H
                                  replace H : ((word_FromBool.f a5).bind fun t133 => (if ((t132 == t133) == (a4 == a5)) = true then ((casketlaw1_awake.f k6).bind fun t134 => (some t134)) else (some false))) = some r := H
                                  have A48 := Aside0.mk A480
                                  clear A480
                                  replace H := Option.bind_eq_some_iff.mp H
                                  obtain ⟨t133, A490, H⟩ := H
                                  replace H : (if ((t132 == t133) == (a4 == a5)) = true then ((casketlaw1_awake.f k6).bind fun t134 => (some t134)) else (some false)) = some r := H
                                  have A49 := Aside0.mk A490
                                  clear A490
                                  by_cases c50 : ((t132 == t133) == (a4 == a5)) = true
                                  · rw [if_pos c50] at H
                                    have c50b0 : ((t132 == t133) == (a4 == a5)) = true := c50
                                    (try (have c50b1 : decide ((t132 == t133) = (a4 == a5)) = true := by simpa using c50))
                                    (try (have c50b2 : ((t132 == t133) == (a4 == a5)) = true := by simpa using c50))
                                    clear c50
                                    replace H := Option.bind_eq_some_iff.mp H
                                    obtain ⟨t134, A510, H⟩ := H
                                    replace H : (some t134) = some r := H
                                    have A51 := Aside0.mk A510
                                    clear A510
                                    obtain rfl := Option.some.inj H
                                    obtain ⟨Ao52, co52, eo52⟩ := Kd.R_slice HO_21.out
                                    subst eo52
                                    go_wp2_with (first | (go_at_call 19; (with_reducible refine (word_FromBool.calls a4 t132 _ A48.out).mono ?_); rintro e w' ⟨rfl, ⟨nd, rfl⟩⟩; (try first | exact ⟨rfl, _, World.drewN_drewN _ _ _⟩ | exact ⟨rfl, _, Eq.trans (World.drewN_drewN _ _ _) (congrArg (World.drewN _) (Nat.add_assoc _ _ _))⟩)) | (go_at_call 19; (with_reducible refine (word_FromBool.calls a5 t133 _ A49.out).mono ?_); rintro e w' ⟨rfl, ⟨nd, rfl⟩⟩; (try first | exact ⟨rfl, _, World.drewN_drewN _ _ _⟩ | exact ⟨rfl, _, Eq.trans (World.drewN_drewN _ _ _) (congrArg (World.drewN _) (Nat.add_assoc _ _ _))⟩)) | (go_at_call 15; (with_reducible refine (casketlaw1_awake.calls k6  t134 _ A51.out).mono ?_); rintro e w' ⟨rfl, ⟨nd, rfl⟩⟩; (try first | exact ⟨rfl, _, World.drewN_drewN _ _ _⟩ | exact ⟨rfl, _, Eq.trans (World.drewN_drewN _ _ _) (congrArg (World.drewN _) (Nat.add_assoc _ _ _))⟩)))
                                    repeat (go_quiet (first | (go_at_call 19; (with_reducible refine (word_FromBool.calls a4 t132 _ A48.out).mono ?_); rintro e w' ⟨rfl, ⟨nd, rfl⟩⟩; (try first | exact ⟨rfl, _, World.drewN_drewN _ _ _⟩ | exact ⟨rfl, _, Eq.trans (World.drewN_drewN _ _ _) (congrArg (World.drewN _) (Nat.add_assoc _ _ _))⟩)) | (go_at_call 19; (with_reducible refine (word_FromBool.calls a5 t133 _ A49.out).mono ?_); rintro e w' ⟨rfl, ⟨nd, rfl⟩⟩; (try first | exact ⟨rfl, _, World.drewN_drewN _ _ _⟩ | exact ⟨rfl, _, Eq.trans (World.drewN_drewN _ _ _) (congrArg (World.drewN _) (Nat.add_assoc _ _ _))⟩)) | (go_at_call 15; (with_reducible refine (casketlaw1_awake.calls k6  t134 _ A51.out).mono ?_); rintro e w' ⟨rfl, ⟨nd, rfl⟩⟩; (try first | exact ⟨rfl, _, World.drewN_drewN _ _ _⟩ | exact ⟨rfl, _, Eq.trans (World.drewN_drewN _ _ _) (congrArg (World.drewN _) (Nat.add_assoc _ _ _))⟩))); try go_wp2_with (first | (go_at_call 19; (with_reducible refine (word_FromBool.calls a4 t132 _ A48.out).mono ?_); rintro e w' ⟨rfl, ⟨nd, rfl⟩⟩; (try first | exact ⟨rfl, _, World.drewN_drewN _ _ _⟩ | exact ⟨rfl, _, Eq.trans (World.drewN_drewN _ _ _) (congrArg (World.drewN _) (Nat.add_assoc _ _ _))⟩)) | (go_at_call 19; (with_reducible refine (word_FromBool.calls a5 t133 _ A49.out).mono ?_); rintro e w' ⟨rfl, ⟨nd, rfl⟩⟩; (try first | exact ⟨rfl, _, World.drewN_drewN _ _ _⟩ | exact ⟨rfl, _, Eq.trans (World.drewN_drewN _ _ _) (congrArg (World.drewN _) (Nat.add_assoc _ _ _))⟩)) | (go_at_call 15; (with_reducible refine (casketlaw1_awake.calls k6  t134 _ A51.out).mono ?_); rintro e w' ⟨rfl, ⟨nd, rfl⟩⟩; (try first | exact ⟨rfl, _, World.drewN_drewN _ _ _⟩ | exact ⟨rfl, _, Eq.trans (World.drewN_drewN _ _ _) (congrArg (World.drewN _) (Nat.add_assoc _ _ _))⟩))))
                                    go_ret
                                    exact ⟨by first | rfl | (simp [errW_none, errW_some] <;> rfl) | (simp [*, errW_none, errW_some] <;> rfl), by repeat (first | (with_reducible first | exact HB.out | apply below_alloc | apply pw_below_drewN | apply below_drew1) | exact HB.out)⟩
                                  · rw [if_neg c50] at H
                                    have c50b0 : ((t132 == t133) == (a4 == a5)) = false := by simpa using c50
                                    (try (have c50b1 : decide ((t132 == t133) = (a4 == a5)) = false := by simpa using c50))
                                    (try (have c50b2 : ((t132 == t133) == (a4 == a5)) = false := by simpa using c50))
                                    (try (have c50b3 : ¬ ((t132 == t133) = (a4 == a5)) := by simpa using c50))
                                    clear c50
                                    obtain rfl := Option.some.inj H
                                    obtain ⟨Ao53, co53, eo53⟩ := Kd.R_slice HO_21.out
                                    subst eo53
                                    go_wp2_with (first | (go_at_call 19; (with_reducible refine (word_FromBool.calls a4 t132 _ A48.out).mono ?_); rintro e w' ⟨rfl, ⟨nd, rfl⟩⟩; (try first | exact ⟨rfl, _, World.drewN_drewN _ _ _⟩ | exact ⟨rfl, _, Eq.trans (World.drewN_drewN _ _ _) (congrArg (World.drewN _) (Nat.add_assoc _ _ _))⟩)) | (go_at_call 19; (with_reducible refine (word_FromBool.calls a5 t133 _ A49.out).mono ?_); rintro e w' ⟨rfl, ⟨nd, rfl⟩⟩; (try first | exact ⟨rfl, _, World.drewN_drewN _ _ _⟩ | exact ⟨rfl, _, Eq.trans (World.drewN_drewN _ _ _) (congrArg (World.drewN _) (Nat.add_assoc _ _ _))⟩)))
                                    repeat (go_quiet (first | (go_at_call 19; (with_reducible refine (word_FromBool.calls a4 t132 _ A48.out).mono ?_); rintro e w' ⟨rfl, ⟨nd, rfl⟩⟩; (try first | exact ⟨rfl, _, World.drewN_drewN _ _ _⟩ | exact ⟨rfl, _, Eq.trans (World.drewN_drewN _ _ _) (congrArg (World.drewN _) (Nat.add_assoc _ _ _))⟩)) | (go_at_call 19; (with_reducible refine (word_FromBool.calls a5 t133 _ A49.out).mono ?_); rintro e w' ⟨rfl, ⟨nd, rfl⟩⟩; (try first | exact ⟨rfl, _, World.drewN_drewN _ _ _⟩ | exact ⟨rfl, _, Eq.trans (World.drewN_drewN _ _ _) (congrArg (World.drewN _) (Nat.add_assoc _ _ _))⟩))); try go_wp2_with (first | (go_at_call 19; (with_reducible refine (word_FromBool.calls a4 t132 _ A48.out).mono ?_); rintro e w' ⟨rfl, ⟨nd, rfl⟩⟩; (try first | exact ⟨rfl, _, World.drewN_drewN _ _ _⟩ | exact ⟨rfl, _, Eq.trans (World.drewN_drewN _ _ _) (congrArg (World.drewN _) (Nat.add_assoc _ _ _))⟩)) | (go_at_call 19; (with_reducible refine (word_FromBool.calls a5 t133 _ A49.out).mono ?_); rintro e w' ⟨rfl, ⟨nd, rfl⟩⟩; (try first | exact ⟨rfl, _, World.drewN_drewN _ _ _⟩ | exact ⟨rfl, _, Eq.trans (World.drewN_drewN _ _ _) (congrArg (World.drewN _) (Nat.add_assoc _ _ _))⟩))))
                                    go_ret
                                    exact ⟨by first | rfl | (simp [errW_none, errW_some] <;> rfl) | (simp [*, errW_none, errW_some] <;> rfl), by repeat (first | (with_reducible first | exact HB.out | apply below_alloc | apply pw_below_drewN | apply below_drew1) | exact HB.out)⟩

/-- THE ONE PURE STATEMENT of casketlaw1_WordApart: yours. -/
def casketlaw1_WordApart.Pure : Prop := ∀ (a0 : Int) (a1 : Int) (a2 : ByteArray) (a3 : ByteArray) (a4 : Bool) (a5 : Bool), (Lit.int .i64 a0).wf = true → (Lit.int .i64 a1).wf = true → a2.size ≤ 140737488351232 → a3.size ≤ 140737488351232 → ∃ k, casketlaw1_WordApart.f k a0 a1 a2 a3 a4 a5 = some true
theorem casketlaw1_WordApart.walk (P : casketlaw1_WordApart.Pure) (a0 : Int) (a1 : Int) (a2 : ByteArray) (a3 : ByteArray) (a4 : Bool) (a5 : Bool) (w : World) (w0 : (Lit.int .i64 a0).wf = true) (w1 : (Lit.int .i64 a1).wf = true) (w2 : a2.size ≤ 140737488351232) (w3 : a3.size ≤ 140737488351232) :
    Calls Try.prog 5 #[.int .i64 a0, .int .i64 a1, .string a2, .string a3, .bool a4, .bool a5] w fun e w' => e = .returned (.bool true) ∧ Below w.heap.size w w' := by
  obtain ⟨k, h⟩ := P a0 a1 a2 a3 a4 a5 w0 w1 w2 w3
  refine (casketlaw1_WordApart.calls k a0 a1 a2 a3 a4 a5 true w h).mono ?_
  rintro e w' ⟨rfl, hd⟩
  exact ⟨rfl, hd⟩

end Go.Proofs.Ytpoedalbgcpgjaa.PWordApart

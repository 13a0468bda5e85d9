/- Contracts of soft's and the reference's FromInt, Trunc, Neg, Wide, and of the law's own call awake. -/
import Derived.Test.YtieddikacnmhlaaC
namespace Go.Proofs.Ytieddikacnmhlaa
open Go.RowKit

def sInt (i : Int) : Int := (Fl.dint i : Nat)

theorem convert_int (i : Int) (w : World) : (convert 2 54 (.int .i64 i)).run Try.prog w = .ok (.float .f64 (Fl.dint i)) w :=
  run_convert_int_float w 2 54 .i64 .f64 i (by rw [Try.underlying2]; rfl) Try.underlying54

set_option maxHeartbeats 400000 in
theorem softFromInt_calls (i : Int) (w : World) : Calls Try.prog 33 #[.int .i64 i] w fun e w' => e = .returned (.int .u64 (sInt i)) ∧ w = w' := by
  have e : sInt i = cbits (Fl.dint i) := (cbits_num (Fl.dint_num i)).symm
  have hv := convert_int i
  rw [e]
  clear e
  go_enter Try.func33, Try.ntmps33
  go_wp2_with (go_at_call 82; refine (bits_calls _ _).mono ?_; rintro e w' ⟨rfl, rfl⟩)
  go_ret
  exact ⟨rfl, rfl⟩
set_option maxHeartbeats 400000 in
theorem refFromInt_calls (i : Int) (w : World) : Calls Try.prog 34 #[.int .i64 i] w fun e w' => e = .returned (.int .u64 (sInt i)) ∧ Dr w w' := by
  have e : sInt i = cbits (Fl.dint i) := (cbits_num (Fl.dint_num i)).symm
  have hv := convert_int i
  have hp := pattern_calls (Fl.dint i) (Fl.dint_lt _)
  rw [e]
  clear e
  go_enter Try.func34, Try.ntmps34
  go_wp2_with (go_at_call 83; refine (hp _).mono ?_; rintro e w' ⟨rfl, n, rfl⟩)
  go_ret
  exact ⟨rfl, ⟨_, rfl⟩⟩

/-! ## Trunc -/

def sTrunc (a : Int) : Int × Int := if Fl.inI64 a.toNat then (Fl.trc a.toNat, 0) else (0, 13)

/-- '>=' as the model tells it -/
theorem geq_eq {x y : Nat} : (FloatKind.f64.format.order x y == some .gt || FloatKind.f64.format.order x y == some .eq) = Fl.dleq y x := by
  show (Fl.D.order x y == some .gt || Fl.D.order x y == some .eq) = _
  by_cases hx : Fl.isNum Fl.D x
  · by_cases hy : Fl.isNum Fl.D y
    · rw [Fl.dleq_num hy hx, Fl.order_num hx hy Fl.D_le]
      by_cases h : Fl.sv Fl.D x < Fl.sv Fl.D y
      · simp [compare, compareOfLessAndEq, h]; try omega
      · by_cases h2 : Fl.sv Fl.D x = Fl.sv Fl.D y
        · simp [compare, compareOfLessAndEq, h2]
        · simp [compare, compareOfLessAndEq, h, h2]; try omega
    · rw [Fl.dleq_nan (.inl hy), Fl.order_nan_right hy Fl.D_le]; rfl
  · rw [Fl.dleq_nan (.inr hx), Fl.order_nan_left hx Fl.D_le]; rfl
theorem lss_eq {x y : Nat} : (FloatKind.f64.format.order x y == some .lt) = Fl.dless x y := rfl

theorem toInt_val {x : Nat} (h : Fl.inI64 x = true) : floatToIntVal .f64 x .i64 = some (Fl.trc x) := by
  have hr := Fl.trc_range h
  unfold floatToIntVal
  have e : (FloatKind.f64.decode x).toInt .zero = some (Fl.trc x) := Fl.toInt_zero (Fl.inI64_fin h)
  rw [e]
  simp only
  rw [if_pos]
  exact hr
theorem convert_float {x : Nat} (h : Fl.inI64 x = true) (w : World) : (convert 54 2 (.float .f64 x)).run Try.prog w = .ok (.int .i64 (Fl.trc x)) w :=
  run_convert_float_int w 54 2 .f64 .i64 x _ (by rw [Try.underlying54]; rfl) Try.underlying2 (toInt_val h)

set_option maxHeartbeats 800000 in
theorem softTrunc_calls (a : Int) (w : World) : Calls Try.prog 31 #[.int .u64 a] w fun e w' => e = .returned (.tuple #[.int .i64 (sTrunc a).1, .int .i64 (sTrunc a).2]) ∧ Dr w w' := by
  have hg := geq_eq (x := a.toNat) (y := Fl.mtwo63)
  have hl := lss_eq (x := a.toNat) (y := Fl.two63)
  unfold sTrunc
  cases h1 : Fl.dleq Fl.mtwo63 a.toNat with
  | false =>
    have e : Fl.inI64 a.toNat = false := by unfold Fl.inI64; rw [h1]; rfl
    have hg' : (FloatKind.f64.format.order a.toNat 14114281232179134464 == some .gt || FloatKind.f64.format.order a.toNat 14114281232179134464 == some .eq) = false := by rw [← h1]; exact hg
    rw [e]
    clear hg hl e h1
    go_enter Try.func31, Try.ntmps31
    go_wp2_with (go_at_call 80; refine (of_calls _ _).mono ?_; rintro e w' ⟨rfl, rfl⟩)
    go_ret2
    exact ⟨rfl, by first | exact Dr.refl _ | exact ⟨_, rfl⟩⟩
  | true =>
    have hg' : (FloatKind.f64.format.order a.toNat 14114281232179134464 == some .gt || FloatKind.f64.format.order a.toNat 14114281232179134464 == some .eq) = true := by rw [← h1]; exact hg
    cases h2 : Fl.dless a.toNat Fl.two63 with
    | false =>
      have e : Fl.inI64 a.toNat = false := by unfold Fl.inI64; rw [h1, h2]; rfl
      have hl' : (FloatKind.f64.format.order a.toNat 4890909195324358656 == some .lt) = false := by rw [← h2]; rfl
      rw [e]
      clear hg hl e h1 h2
      go_enter Try.func31, Try.ntmps31
      go_wp2_with (go_at_call 80; refine (of_calls _ _).mono ?_; rintro e w' ⟨rfl, rfl⟩)
      go_ret2
      exact ⟨rfl, by first | exact Dr.refl _ | exact ⟨_, rfl⟩⟩
    | true =>
      have e : Fl.inI64 a.toNat = true := by unfold Fl.inI64; rw [h1, h2]; rfl
      have hl' : (FloatKind.f64.format.order a.toNat 4890909195324358656 == some .lt) = true := by rw [← h2]; rfl
      have hv := convert_float e
      rw [e]
      clear hg hl e h1 h2
      go_enter Try.func31, Try.ntmps31
      go_wp2_with (go_at_call 80; refine (of_calls _ _).mono ?_; rintro e w' ⟨rfl, rfl⟩)
      go_ret2
      exact ⟨rfl, by first | exact Dr.refl _ | exact ⟨_, rfl⟩⟩
end Go.Proofs.Ytieddikacnmhlaa

/- Contracts of soft's and the reference's operations on doubles. -/
import Derived.Test.YtieddikacnmhlaaA
namespace Go.Proofs.Ytieddikacnmhlaa
open Go.RowKit

/-! ## An operation without an answer: some NaN -/

theorem nanBits_nan (t : Nat) : ¬ Fl.isNum Fl.D ((t % 2) * 2 ^ 63 + 0x7ff0000000000000 + 1 + (t / 2) % (2 ^ 52 - 1)) := by
  have h1 : t % 2 < 2 := Nat.mod_lt _ (by omega)
  have h2 : (t / 2) % (2 ^ 52 - 1) < 2 ^ 52 - 1 := Nat.mod_lt _ (by omega)
  generalize (t / 2) % (2 ^ 52 - 1) = q at *
  generalize t % 2 = p at *
  unfold Fl.isNum Fl.rung
  rw [Fl.D_inf, Fl.D_sign]
  omega
theorem nanBits_lt (t : Nat) : (t % 2) * 2 ^ 63 + 0x7ff0000000000000 + 1 + (t / 2) % (2 ^ 52 - 1) < 18446744073709551616 := by
  have h1 : t % 2 < 2 := Nat.mod_lt _ (by omega)
  have h2 : (t / 2) % (2 ^ 52 - 1) < 2 ^ 52 - 1 := Nat.mod_lt _ (by omega)
  generalize (t / 2) % (2 ^ 52 - 1) = q at *
  generalize t % 2 = p at *
  omega

theorem run_float_none {P : Program} (op : BinOp) (t : TypeId) (x y : Nat) (hop : op = .add ∨ op = .sub ∨ op = .mul ∨ op = .quo) (h : floatBits op .f64 x y = none) :
    ∃ f : World → Nat, (∀ w, ¬ Fl.isNum Fl.D (f w) ∧ f w < 18446744073709551616) ∧ ∀ w, (binOp op t (.float .f64 x) (.float .f64 y)).run P w = .ok (.float .f64 (f w)) w.drew := by
  refine ⟨fun w => (Question.nanBits .f64 x y).cut (w.tape w.drawn (.nanBits .f64 x y)), fun w => ⟨nanBits_nan _, nanBits_lt _⟩, fun w => ?_⟩
  rcases hop with rfl | rfl | rfl | rfl
  all_goals
    unfold floatBits at h
    simp only at h
    simp only [binOp, Op.floatArith, h]
    rfl

/-- the pattern of what an operation answers -/
theorem cbits_num {r : Nat} (h : Fl.isNum Fl.D r) : cbits r = (r : Int) := by unfold cbits; rw [if_pos (Fl.isNumB_iff.2 h)]
theorem cbits_nan {r : Nat} (h : ¬ Fl.isNum Fl.D r) : cbits r = 9221120237041090560 := by
  unfold cbits; rw [if_neg (fun e => h (Fl.isNumB_iff.1 e))]

def sAdd (a b : Int) : Int := (Fl.dadd a.toNat b.toNat : Nat)
def sSub (a b : Int) : Int := (Fl.dsub a.toNat b.toNat : Nat)
def sMul (a b : Int) : Int := (Fl.dmul a.toNat b.toNat : Nat)
def sDiv (a b : Int) : Int := (Fl.ddiv a.toNat b.toNat : Nat)

theorem some_Add {x y r : Nat} (h : floatBits .add .f64 x y = some r) : Fl.isNum Fl.D r ∧ r < 18446744073709551616 ∧ Fl.dadd x y = r := by
  have h' : Fl.D.add x y = some r := h
  refine ⟨?_, Fl.D.add_lt h', by unfold Fl.dadd; rw [h']; rfl⟩
  rcases Fl.dadd_clean x y with h1 | h1
  · unfold Fl.dadd at h1; rw [h'] at h1; exact h1
  · have h2 : Fl.D.add x y = some r := h'
    unfold Ieee.Format.add at h2
    obtain ⟨d, hd, hr⟩ := Option.map_eq_some_iff.1 h2
    rw [← hr]; exact Fl.write_num (Fl.sum_clean hd)
theorem none_Add {x y : Nat} (h : floatBits .add .f64 x y = none) : (Fl.dadd x y : Int) = 9221120237041090560 := by
  have h' : Fl.D.add x y = none := h
  unfold Fl.dadd; rw [h']; rfl

theorem some_Sub {x y r : Nat} (h : floatBits .sub .f64 x y = some r) : Fl.isNum Fl.D r ∧ r < 18446744073709551616 ∧ Fl.dsub x y = r := by
  have h' : Fl.D.sub x y = some r := h
  refine ⟨?_, Fl.D.sub_lt h', by unfold Fl.dsub; rw [h']; rfl⟩
  rcases Fl.dsub_clean x y with h1 | h1
  · unfold Fl.dsub at h1; rw [h'] at h1; exact h1
  · have h2 : Fl.D.sub x y = some r := h'
    unfold Ieee.Format.sub at h2
    obtain ⟨d, hd, hr⟩ := Option.map_eq_some_iff.1 h2
    rw [← hr]; exact Fl.write_num (Fl.sum_clean hd)
theorem none_Sub {x y : Nat} (h : floatBits .sub .f64 x y = none) : (Fl.dsub x y : Int) = 9221120237041090560 := by
  have h' : Fl.D.sub x y = none := h
  unfold Fl.dsub; rw [h']; rfl

theorem some_Mul {x y r : Nat} (h : floatBits .mul .f64 x y = some r) : Fl.isNum Fl.D r ∧ r < 18446744073709551616 ∧ Fl.dmul x y = r := by
  have h' : Fl.D.mul x y = some r := h
  refine ⟨?_, Fl.D.mul_lt h', by unfold Fl.dmul; rw [h']; rfl⟩
  rcases Fl.dmul_clean x y with h1 | h1
  · unfold Fl.dmul at h1; rw [h'] at h1; exact h1
  · have h2 : Fl.D.mul x y = some r := h'
    unfold Ieee.Format.mul at h2
    obtain ⟨d, hd, hr⟩ := Option.map_eq_some_iff.1 h2
    rw [← hr]; exact Fl.write_num (Fl.product_clean hd)
theorem none_Mul {x y : Nat} (h : floatBits .mul .f64 x y = none) : (Fl.dmul x y : Int) = 9221120237041090560 := by
  have h' : Fl.D.mul x y = none := h
  unfold Fl.dmul; rw [h']; rfl

theorem some_Div {x y r : Nat} (h : floatBits .quo .f64 x y = some r) : Fl.isNum Fl.D r ∧ r < 18446744073709551616 ∧ Fl.ddiv x y = r := by
  have h' : Fl.D.div x y = some r := h
  refine ⟨?_, Fl.D.div_lt h', by unfold Fl.ddiv; rw [h']; rfl⟩
  rcases Fl.ddiv_clean x y with h1 | h1
  · unfold Fl.ddiv at h1; rw [h'] at h1; exact h1
  · have h2 : Fl.D.div x y = some r := h'
    unfold Ieee.Format.div at h2
    obtain ⟨d, hd, hr⟩ := Option.map_eq_some_iff.1 h2
    rw [← hr]; exact Fl.write_num (Fl.quotient_clean hd)
theorem none_Div {x y : Nat} (h : floatBits .quo .f64 x y = none) : (Fl.ddiv x y : Int) = 9221120237041090560 := by
  have h' : Fl.D.div x y = none := h
  unfold Fl.ddiv; rw [h']; rfl

set_option maxHeartbeats 800000 in
theorem softAdd_calls (a b : Int) (w : World) : Calls Try.prog 41 #[.int .u64 a, .int .u64 b] w fun e w' => e = .returned (.int .u64 (sAdd a b)) ∧ Dr w w' := by
  cases hr : floatBits .add .f64 a.toNat b.toNat with
  | some r =>
    obtain ⟨h1, h2, h3⟩ := some_Add hr
    have e : sAdd a b = cbits r := by unfold sAdd; rw [h3, cbits_num h1]
    rw [e]
    have hrun := fun w => run_float_arith (P := Try.prog) w .add 54 .f64 a.toNat b.toNat r hr
    have hc := bits_calls r
    clear h1 h2 h3 e hr
    go_enter Try.func41, Try.ntmps41
    go_wp2_with (first | (go_at_call 80; refine (of_calls _ _).mono ?_; rintro e w' ⟨rfl, rfl⟩) | (go_at_call 82; refine (hc _).mono ?_; rintro e w' ⟨rfl, rfl⟩))
    go_ret
    exact ⟨rfl, Dr.refl _⟩
  | none =>
    obtain ⟨f, hf, hrun⟩ := run_float_none (P := Try.prog) .add 54 a.toNat b.toNat (by simp) hr
    have e : sAdd a b = 9221120237041090560 := none_Add hr
    rw [e]
    have hc : ∀ (w1 w : World), Calls Try.prog 82 #[.float .f64 (f w1)] w fun e w' => e = .returned (.int .u64 9221120237041090560) ∧ w = w' := fun w1 w => by
      rw [← cbits_nan (hf w1).1]; exact bits_calls _ _
    clear e hr hf
    go_enter Try.func41, Try.ntmps41
    go_wp2_with (first | (go_at_call 80; refine (of_calls _ _).mono ?_; rintro e w' ⟨rfl, rfl⟩) | (go_at_call 82; refine (hc _ _).mono ?_; rintro e w' ⟨rfl, rfl⟩))
    go_ret
    exact ⟨rfl, ⟨1, rfl⟩⟩

set_option maxHeartbeats 800000 in
theorem softSub_calls (a b : Int) (w : World) : Calls Try.prog 44 #[.int .u64 a, .int .u64 b] w fun e w' => e = .returned (.int .u64 (sSub a b)) ∧ Dr w w' := by
  cases hr : floatBits .sub .f64 a.toNat b.toNat with
  | some r =>
    obtain ⟨h1, h2, h3⟩ := some_Sub hr
    have e : sSub a b = cbits r := by unfold sSub; rw [h3, cbits_num h1]
    rw [e]
    have hrun := fun w => run_float_arith (P := Try.prog) w .sub 54 .f64 a.toNat b.toNat r hr
    have hc := bits_calls r
    clear h1 h2 h3 e hr
    go_enter Try.func44, Try.ntmps44
    go_wp2_with (first | (go_at_call 80; refine (of_calls _ _).mono ?_; rintro e w' ⟨rfl, rfl⟩) | (go_at_call 82; refine (hc _).mono ?_; rintro e w' ⟨rfl, rfl⟩))
    go_ret
    exact ⟨rfl, Dr.refl _⟩
  | none =>
    obtain ⟨f, hf, hrun⟩ := run_float_none (P := Try.prog) .sub 54 a.toNat b.toNat (by simp) hr
    have e : sSub a b = 9221120237041090560 := none_Sub hr
    rw [e]
    have hc : ∀ (w1 w : World), Calls Try.prog 82 #[.float .f64 (f w1)] w fun e w' => e = .returned (.int .u64 9221120237041090560) ∧ w = w' := fun w1 w => by
      rw [← cbits_nan (hf w1).1]; exact bits_calls _ _
    clear e hr hf
    go_enter Try.func44, Try.ntmps44
    go_wp2_with (first | (go_at_call 80; refine (of_calls _ _).mono ?_; rintro e w' ⟨rfl, rfl⟩) | (go_at_call 82; refine (hc _ _).mono ?_; rintro e w' ⟨rfl, rfl⟩))
    go_ret
    exact ⟨rfl, ⟨1, rfl⟩⟩

set_option maxHeartbeats 800000 in
theorem softMul_calls (a b : Int) (w : World) : Calls Try.prog 42 #[.int .u64 a, .int .u64 b] w fun e w' => e = .returned (.int .u64 (sMul a b)) ∧ Dr w w' := by
  cases hr : floatBits .mul .f64 a.toNat b.toNat with
  | some r =>
    obtain ⟨h1, h2, h3⟩ := some_Mul hr
    have e : sMul a b = cbits r := by unfold sMul; rw [h3, cbits_num h1]
    rw [e]
    have hrun := fun w => run_float_arith (P := Try.prog) w .mul 54 .f64 a.toNat b.toNat r hr
    have hc := bits_calls r
    clear h1 h2 h3 e hr
    go_enter Try.func42, Try.ntmps42
    go_wp2_with (first | (go_at_call 80; refine (of_calls _ _).mono ?_; rintro e w' ⟨rfl, rfl⟩) | (go_at_call 82; refine (hc _).mono ?_; rintro e w' ⟨rfl, rfl⟩))
    go_ret
    exact ⟨rfl, Dr.refl _⟩
  | none =>
    obtain ⟨f, hf, hrun⟩ := run_float_none (P := Try.prog) .mul 54 a.toNat b.toNat (by simp) hr
    have e : sMul a b = 9221120237041090560 := none_Mul hr
    rw [e]
    have hc : ∀ (w1 w : World), Calls Try.prog 82 #[.float .f64 (f w1)] w fun e w' => e = .returned (.int .u64 9221120237041090560) ∧ w = w' := fun w1 w => by
      rw [← cbits_nan (hf w1).1]; exact bits_calls _ _
    clear e hr hf
    go_enter Try.func42, Try.ntmps42
    go_wp2_with (first | (go_at_call 80; refine (of_calls _ _).mono ?_; rintro e w' ⟨rfl, rfl⟩) | (go_at_call 82; refine (hc _ _).mono ?_; rintro e w' ⟨rfl, rfl⟩))
    go_ret
    exact ⟨rfl, ⟨1, rfl⟩⟩

set_option maxHeartbeats 800000 in
theorem softDiv_calls (a b : Int) (w : World) : Calls Try.prog 43 #[.int .u64 a, .int .u64 b] w fun e w' => e = .returned (.int .u64 (sDiv a b)) ∧ Dr w w' := by
  cases hr : floatBits .quo .f64 a.toNat b.toNat with
  | some r =>
    obtain ⟨h1, h2, h3⟩ := some_Div hr
    have e : sDiv a b = cbits r := by unfold sDiv; rw [h3, cbits_num h1]
    rw [e]
    have hrun := fun w => run_float_arith (P := Try.prog) w .quo 54 .f64 a.toNat b.toNat r hr
    have hc := bits_calls r
    clear h1 h2 h3 e hr
    go_enter Try.func43, Try.ntmps43
    go_wp2_with (first | (go_at_call 80; refine (of_calls _ _).mono ?_; rintro e w' ⟨rfl, rfl⟩) | (go_at_call 82; refine (hc _).mono ?_; rintro e w' ⟨rfl, rfl⟩))
    go_ret
    exact ⟨rfl, Dr.refl _⟩
  | none =>
    obtain ⟨f, hf, hrun⟩ := run_float_none (P := Try.prog) .quo 54 a.toNat b.toNat (by simp) hr
    have e : sDiv a b = 9221120237041090560 := none_Div hr
    rw [e]
    have hc : ∀ (w1 w : World), Calls Try.prog 82 #[.float .f64 (f w1)] w fun e w' => e = .returned (.int .u64 9221120237041090560) ∧ w = w' := fun w1 w => by
      rw [← cbits_nan (hf w1).1]; exact bits_calls _ _
    clear e hr hf
    go_enter Try.func43, Try.ntmps43
    go_wp2_with (first | (go_at_call 80; refine (of_calls _ _).mono ?_; rintro e w' ⟨rfl, rfl⟩) | (go_at_call 82; refine (hc _ _).mono ?_; rintro e w' ⟨rfl, rfl⟩))
    go_ret
    exact ⟨rfl, ⟨1, rfl⟩⟩

set_option maxHeartbeats 800000 in
theorem refAdd_calls (a b : Int) (w : World) : Calls Try.prog 45 #[.int .u64 a, .int .u64 b] w fun e w' => e = .returned (.int .u64 (sAdd a b)) ∧ Dr w w' := by
  cases hr : floatBits .add .f64 a.toNat b.toNat with
  | some r =>
    obtain ⟨h1, h2, h3⟩ := some_Add hr
    have e : sAdd a b = cbits r := by unfold sAdd; rw [h3, cbits_num h1]
    rw [e]
    have hrun := fun w => run_float_arith (P := Try.prog) w .add 54 .f64 a.toNat b.toNat r hr
    have hc := pattern_calls r h2
    clear h1 h2 h3 e hr
    go_enter Try.func45, Try.ntmps45
    go_wp2_with (first | (go_at_call 81; refine (double_calls _ _).mono ?_; rintro e w' ⟨rfl, rfl⟩) | (go_at_call 83; refine (hc _).mono ?_; rintro e w' ⟨rfl, n, rfl⟩))
    go_ret
    exact ⟨rfl, ⟨_, rfl⟩⟩
  | none =>
    obtain ⟨f, hf, hrun⟩ := run_float_none (P := Try.prog) .add 54 a.toNat b.toNat (by simp) hr
    have e : sAdd a b = 9221120237041090560 := none_Add hr
    rw [e]
    have hc : ∀ (w1 w : World), Calls Try.prog 83 #[.float .f64 (f w1)] w fun e w' => e = .returned (.int .u64 9221120237041090560) ∧ Dr w w' := fun w1 w => by
      rw [← cbits_nan (hf w1).1]; exact pattern_calls _ (hf w1).2 _
    clear e hr hf
    go_enter Try.func45, Try.ntmps45
    go_wp2_with (first | (go_at_call 81; refine (double_calls _ _).mono ?_; rintro e w' ⟨rfl, rfl⟩) | (go_at_call 83; refine (hc _ _).mono ?_; rintro e w' ⟨rfl, n, rfl⟩))
    go_ret
    exact ⟨rfl, by repeat (first | exact Dr.refl _ | apply Dr.step | exact ⟨_, rfl⟩)⟩

set_option maxHeartbeats 800000 in
theorem refSub_calls (a b : Int) (w : World) : Calls Try.prog 46 #[.int .u64 a, .int .u64 b] w fun e w' => e = .returned (.int .u64 (sSub a b)) ∧ Dr w w' := by
  cases hr : floatBits .sub .f64 a.toNat b.toNat with
  | some r =>
    obtain ⟨h1, h2, h3⟩ := some_Sub hr
    have e : sSub a b = cbits r := by unfold sSub; rw [h3, cbits_num h1]
    rw [e]
    have hrun := fun w => run_float_arith (P := Try.prog) w .sub 54 .f64 a.toNat b.toNat r hr
    have hc := pattern_calls r h2
    clear h1 h2 h3 e hr
    go_enter Try.func46, Try.ntmps46
    go_wp2_with (first | (go_at_call 81; refine (double_calls _ _).mono ?_; rintro e w' ⟨rfl, rfl⟩) | (go_at_call 83; refine (hc _).mono ?_; rintro e w' ⟨rfl, n, rfl⟩))
    go_ret
    exact ⟨rfl, ⟨_, rfl⟩⟩
  | none =>
    obtain ⟨f, hf, hrun⟩ := run_float_none (P := Try.prog) .sub 54 a.toNat b.toNat (by simp) hr
    have e : sSub a b = 9221120237041090560 := none_Sub hr
    rw [e]
    have hc : ∀ (w1 w : World), Calls Try.prog 83 #[.float .f64 (f w1)] w fun e w' => e = .returned (.int .u64 9221120237041090560) ∧ Dr w w' := fun w1 w => by
      rw [← cbits_nan (hf w1).1]; exact pattern_calls _ (hf w1).2 _
    clear e hr hf
    go_enter Try.func46, Try.ntmps46
    go_wp2_with (first | (go_at_call 81; refine (double_calls _ _).mono ?_; rintro e w' ⟨rfl, rfl⟩) | (go_at_call 83; refine (hc _ _).mono ?_; rintro e w' ⟨rfl, n, rfl⟩))
    go_ret
    exact ⟨rfl, by repeat (first | exact Dr.refl _ | apply Dr.step | exact ⟨_, rfl⟩)⟩

set_option maxHeartbeats 800000 in
theorem refMul_calls (a b : Int) (w : World) : Calls Try.prog 47 #[.int .u64 a, .int .u64 b] w fun e w' => e = .returned (.int .u64 (sMul a b)) ∧ Dr w w' := by
  cases hr : floatBits .mul .f64 a.toNat b.toNat with
  | some r =>
    obtain ⟨h1, h2, h3⟩ := some_Mul hr
    have e : sMul a b = cbits r := by unfold sMul; rw [h3, cbits_num h1]
    rw [e]
    have hrun := fun w => run_float_arith (P := Try.prog) w .mul 54 .f64 a.toNat b.toNat r hr
    have hc := pattern_calls r h2
    clear h1 h2 h3 e hr
    go_enter Try.func47, Try.ntmps47
    go_wp2_with (first | (go_at_call 81; refine (double_calls _ _).mono ?_; rintro e w' ⟨rfl, rfl⟩) | (go_at_call 83; refine (hc _).mono ?_; rintro e w' ⟨rfl, n, rfl⟩))
    go_ret
    exact ⟨rfl, ⟨_, rfl⟩⟩
  | none =>
    obtain ⟨f, hf, hrun⟩ := run_float_none (P := Try.prog) .mul 54 a.toNat b.toNat (by simp) hr
    have e : sMul a b = 9221120237041090560 := none_Mul hr
    rw [e]
    have hc : ∀ (w1 w : World), Calls Try.prog 83 #[.float .f64 (f w1)] w fun e w' => e = .returned (.int .u64 9221120237041090560) ∧ Dr w w' := fun w1 w => by
      rw [← cbits_nan (hf w1).1]; exact pattern_calls _ (hf w1).2 _
    clear e hr hf
    go_enter Try.func47, Try.ntmps47
    go_wp2_with (first | (go_at_call 81; refine (double_calls _ _).mono ?_; rintro e w' ⟨rfl, rfl⟩) | (go_at_call 83; refine (hc _ _).mono ?_; rintro e w' ⟨rfl, n, rfl⟩))
    go_ret
    exact ⟨rfl, by repeat (first | exact Dr.refl _ | apply Dr.step | exact ⟨_, rfl⟩)⟩

set_option maxHeartbeats 800000 in
theorem refDiv_calls (a b : Int) (w : World) : Calls Try.prog 48 #[.int .u64 a, .int .u64 b] w fun e w' => e = .returned (.int .u64 (sDiv a b)) ∧ Dr w w' := by
  cases hr : floatBits .quo .f64 a.toNat b.toNat with
  | some r =>
    obtain ⟨h1, h2, h3⟩ := some_Div hr
    have e : sDiv a b = cbits r := by unfold sDiv; rw [h3, cbits_num h1]
    rw [e]
    have hrun := fun w => run_float_arith (P := Try.prog) w .quo 54 .f64 a.toNat b.toNat r hr
    have hc := pattern_calls r h2
    clear h1 h2 h3 e hr
    go_enter Try.func48, Try.ntmps48
    go_wp2_with (first | (go_at_call 81; refine (double_calls _ _).mono ?_; rintro e w' ⟨rfl, rfl⟩) | (go_at_call 83; refine (hc _).mono ?_; rintro e w' ⟨rfl, n, rfl⟩))
    go_ret
    exact ⟨rfl, ⟨_, rfl⟩⟩
  | none =>
    obtain ⟨f, hf, hrun⟩ := run_float_none (P := Try.prog) .quo 54 a.toNat b.toNat (by simp) hr
    have e : sDiv a b = 9221120237041090560 := none_Div hr
    rw [e]
    have hc : ∀ (w1 w : World), Calls Try.prog 83 #[.float .f64 (f w1)] w fun e w' => e = .returned (.int .u64 9221120237041090560) ∧ Dr w w' := fun w1 w => by
      rw [← cbits_nan (hf w1).1]; exact pattern_calls _ (hf w1).2 _
    clear e hr hf
    go_enter Try.func48, Try.ntmps48
    go_wp2_with (first | (go_at_call 81; refine (double_calls _ _).mono ?_; rintro e w' ⟨rfl, rfl⟩) | (go_at_call 83; refine (hc _ _).mono ?_; rintro e w' ⟨rfl, n, rfl⟩))
    go_ret
    exact ⟨rfl, by repeat (first | exact Dr.refl _ | apply Dr.step | exact ⟨_, rfl⟩)⟩

/-! ## Order -/
def sLess (a b : Int) : Bool := Fl.dless a.toNat b.toNat
def sLessEq (a b : Int) : Bool := Fl.dleq a.toNat b.toNat
def sEqual (a b : Int) : Bool := Fl.deq a.toNat b.toNat

set_option maxHeartbeats 400000 in
theorem softLess_calls (a b : Int) (w : World) : Calls Try.prog 24 #[.int .u64 a, .int .u64 b] w fun e w' => e = .returned (.bool (sLess a b)) ∧ w = w' := by
  go_enter Try.func24, Try.ntmps24
  go_wp2_with (go_at_call 80; refine (of_calls _ _).mono ?_; rintro e w' ⟨rfl, rfl⟩)
  go_ret
  exact ⟨rfl, rfl⟩

set_option maxHeartbeats 400000 in
theorem refLess_calls (a b : Int) (w : World) : Calls Try.prog 25 #[.int .u64 a, .int .u64 b] w fun e w' => e = .returned (.bool (sLess a b)) ∧ w = w' := by
  go_enter Try.func25, Try.ntmps25
  go_wp2_with (go_at_call 81; refine (double_calls _ _).mono ?_; rintro e w' ⟨rfl, rfl⟩)
  go_ret
  exact ⟨rfl, rfl⟩

set_option maxHeartbeats 400000 in
theorem softLessEq_calls (a b : Int) (w : World) : Calls Try.prog 26 #[.int .u64 a, .int .u64 b] w fun e w' => e = .returned (.bool (sLessEq a b)) ∧ w = w' := by
  go_enter Try.func26, Try.ntmps26
  go_wp2_with (go_at_call 80; refine (of_calls _ _).mono ?_; rintro e w' ⟨rfl, rfl⟩)
  go_ret
  exact ⟨rfl, rfl⟩

set_option maxHeartbeats 400000 in
theorem refLessEq_calls (a b : Int) (w : World) : Calls Try.prog 27 #[.int .u64 a, .int .u64 b] w fun e w' => e = .returned (.bool (sLessEq a b)) ∧ w = w' := by
  go_enter Try.func27, Try.ntmps27
  go_wp2_with (go_at_call 81; refine (double_calls _ _).mono ?_; rintro e w' ⟨rfl, rfl⟩)
  go_ret
  exact ⟨rfl, rfl⟩

set_option maxHeartbeats 400000 in
theorem softEqual_calls (a b : Int) (w : World) : Calls Try.prog 28 #[.int .u64 a, .int .u64 b] w fun e w' => e = .returned (.bool (sEqual a b)) ∧ w = w' := by
  go_enter Try.func28, Try.ntmps28
  go_wp2_with (go_at_call 80; refine (of_calls _ _).mono ?_; rintro e w' ⟨rfl, rfl⟩)
  go_ret
  exact ⟨rfl, rfl⟩

set_option maxHeartbeats 400000 in
theorem refEqual_calls (a b : Int) (w : World) : Calls Try.prog 29 #[.int .u64 a, .int .u64 b] w fun e w' => e = .returned (.bool (sEqual a b)) ∧ w = w' := by
  go_enter Try.func29, Try.ntmps29
  go_wp2_with (go_at_call 81; refine (double_calls _ _).mono ?_; rintro e w' ⟨rfl, rfl⟩)
  go_ret
  exact ⟨rfl, rfl⟩
end Go.Proofs.Ytieddikacnmhlaa

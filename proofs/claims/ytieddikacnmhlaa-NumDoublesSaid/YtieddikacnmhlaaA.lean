/- Contracts of the functions of package math that soft calls, and of soft's leaves. -/
import Derived.Test.YtieddikacnmhlaaProg
import Derived.WalkKit
import Derived.WalkLawsBesides
import Derived.Laws.Externs
import Derived.KernelRfl
import Derived.Lib.Hide
import Derived.Outline
import Derived.Test.YtieddikacnmhlaaFl2
namespace Go.Proofs.Ytieddikacnmhlaa
open Go.RowKit

/-- The world is the old one; some answers may have been drawn. -/
def Dr (w w' : World) : Prop := ∃ n, w' = w.drewN n
theorem Dr.refl (w : World) : Dr w w := ⟨0, rfl⟩
theorem Dr.step {w w' : World} (h : Dr w w') (n : Nat) : Dr w (w'.drewN n) := by
  obtain ⟨m, rfl⟩ := h
  exact ⟨m + n, World.drewN_drewN ..⟩

theorem call107 (args : Array Value) (w : World) : (callFunc 107 args).run Try.prog w = ((Extern.MathFloatBits.float64frombits args).run Try.prog w).andThen fun v w' => .ok (.value v) w' :=
  run_callFunc_extern Try.func107 (by kernel_rfl) (by kernel_rfl) (by kernel_rfl) (by kernel_rfl) args w
theorem frombits_run (a : Int) (w : World) : (callFunc 107 #[.int .u64 a]).run Try.prog w = .ok (.value (.float .f64 a.toNat)) w := by
  rw [call107]; rfl
theorem call108 (args : Array Value) (w : World) : (callFunc 108 args).run Try.prog w = ((Extern.MathFloatBits.float64bits args).run Try.prog w).andThen fun v w' => .ok (.value v) w' :=
  run_callFunc_extern Try.func108 (by kernel_rfl) (by kernel_rfl) (by kernel_rfl) (by kernel_rfl) args w
theorem bits_run (b : Nat) (w : World) : (callFunc 108 #[.float .f64 b]).run Try.prog w = .ok (.value (.int .u64 b)) w := by
  rw [call108]; rfl

set_option maxHeartbeats 400000 in
theorem of_calls (a : Int) (w : World) : Calls Try.prog 80 #[.int .u64 a] w fun e w' => e = .returned (.float .f64 a.toNat) ∧ w = w' := by
  have h := frombits_run a
  go_enter Try.func80, Try.ntmps80
  go_wp2
  go_ret
  exact ⟨rfl, rfl⟩
set_option maxHeartbeats 400000 in
theorem double_calls (a : Int) (w : World) : Calls Try.prog 81 #[.int .u64 a] w fun e w' => e = .returned (.float .f64 a.toNat) ∧ w = w' := by
  have h := frombits_run a
  go_enter Try.func81, Try.ntmps81
  go_wp2
  go_ret
  exact ⟨rfl, rfl⟩

/-! ## Patterns of doubles -/

/-- a double's pattern, or the one NaN -/
def cbits (b : Nat) : Int := if Fl.isNumB b then (b : Int) else 9221120237041090560

theorem order_self (b : Nat) : (FloatKind.f64.format.order b b == some .eq) = Fl.isNumB b := Fl.deq_self b

set_option maxHeartbeats 400000 in
theorem bits_calls (b : Nat) (w : World) : Calls Try.prog 82 #[.float .f64 b] w fun e w' => e = .returned (.int .u64 (cbits b)) ∧ w = w' := by
  have h := bits_run b
  have ho := order_self b
  unfold cbits
  cases hn : Fl.isNumB b with
  | true =>
    have h1 : (FloatKind.f64.format.order b b != some .eq) = false := by
      show (!(FloatKind.f64.format.order b b == some .eq)) = false
      rw [ho, hn]; rfl
    clear ho hn
    go_enter Try.func82, Try.ntmps82
    go_wp2
    go_ret
    exact ⟨rfl, rfl⟩
  | false =>
    have h1 : (FloatKind.f64.format.order b b != some .eq) = true := by
      show (!(FloatKind.f64.format.order b b == some .eq)) = true
      rw [ho, hn]; rfl
    clear ho hn
    go_enter Try.func82, Try.ntmps82
    go_wp2
    go_ret
    exact ⟨rfl, rfl⟩

def nanB (a : Int) : Bool := !Fl.isNumB a.toNat

theorem nanB_iff {a : Int} (h0 : 0 ≤ a) (h1 : a < 18446744073709551616) :
    nanB a = if (Int.tmod (IntKind.u64.wrap (Int.tdiv a 4503599627370496)) 2048) = 2047 then (Int.tmod a 4503599627370496) != 0 else false := by
  obtain ⟨n, rfl⟩ := Int.eq_ofNat_of_zero_le h0
  have hw : ∀ m : Int, IntKind.u64.wrap m = m % 18446744073709551616 := fun m => by simp [IntKind.wrap, IntKind.bits, IntKind.signed]
  rw [Int.tdiv_eq_ediv_of_nonneg h0, Int.tmod_eq_emod_of_nonneg h0, hw, Int.tmod_eq_emod_of_nonneg (by omega)]
  have hi := Fl.nan_iff (w := n)
  unfold nanB
  rw [Int.toNat_natCast]
  by_cases c : Fl.isNum Fl.D n
  · rw [Fl.isNumB_iff.2 c]
    have hc : ¬ (n / 4503599627370496 % 2048 = 2047 ∧ n % 4503599627370496 ≠ 0) := fun e => hi.1 e c
    split
    · symm; rw [Bool.not_true, bne_eq_false_iff_eq]; omega
    · rfl
  · have hc := hi.2 c
    rw [show Fl.isNumB n = false by rw [← Bool.not_eq_true, Fl.isNumB_iff]; exact c, if_pos (by omega)]
    symm; rw [Bool.not_false, bne_iff_ne]; omega

set_option maxHeartbeats 400000 in
theorem nan_calls (a : Int) (h0 : 0 ≤ a) (h1 : a < 18446744073709551616) (w : World) : Calls Try.prog 39 #[.int .u64 a] w fun e w' => e = .returned (.bool (nanB a)) ∧ Dr w w' := by
  rw [nanB_iff h0 h1]
  clear h0 h1
  by_cases c2 : (Int.tmod (IntKind.u64.wrap (Int.tdiv a 4503599627370496)) 2048) = 2047
  · rw [if_pos c2]
    have c2b0 : ((Int.tmod (IntKind.u64.wrap (Int.tdiv a 4503599627370496)) 2048) == 2047) = true := beq_iff_eq.mpr c2
    clear c2
    go_enter Try.func39, Try.ntmps39
    go_wp2
    go_ret
    exact ⟨by first | rfl | (simp; done) | (simp [*]; done), Dr.refl _⟩
  · rw [if_neg c2]
    have c2b0 : ((Int.tmod (IntKind.u64.wrap (Int.tdiv a 4503599627370496)) 2048) == 2047) = false := beq_eq_false_iff_ne.mpr c2
    clear c2
    go_enter Try.func39, Try.ntmps39
    go_wp2
    go_ret
    exact ⟨by first | rfl | (simp; done) | (simp [*]; done), Dr.refl _⟩

set_option maxHeartbeats 400000 in
theorem refFromFloat_calls (a : Int) (h0 : 0 ≤ a) (h1 : a < 18446744073709551616) (w : World) : Calls Try.prog 109 #[.int .u64 a] w fun e w' => e = .returned (.int .u64 (cbits a.toNat)) ∧ Dr w w' := by
  have H := Lib.hid h0
  have hc := nan_calls a h0 h1
  clear h0 h1
  cases hn : nanB a with
  | true =>
    have e : cbits a.toNat = 9221120237041090560 := by unfold cbits; unfold nanB at hn; rw [if_neg (by simpa using hn)]
    rw [e]
    have hn' := Lib.hid hn
    clear hn e
    go_enter Try.func109, Try.ntmps109
    go_wp2_with (go_at_call 39; refine (hc _).mono ?_; rintro e w' ⟨rfl, n, rfl⟩; rw [hn'.out])
    go_ret
    exact ⟨rfl, ⟨_, rfl⟩⟩
  | false =>
    have e : cbits a.toNat = a := by unfold cbits; unfold nanB at hn; rw [if_pos (by simpa using hn)]; have := H.out; omega
    rw [e]
    have hn' := Lib.hid hn
    clear hn e
    go_enter Try.func109, Try.ntmps109
    go_wp2_with (go_at_call 39; refine (hc _).mono ?_; rintro e w' ⟨rfl, n, rfl⟩; rw [hn'.out])
    go_ret
    exact ⟨rfl, ⟨_, rfl⟩⟩

set_option maxHeartbeats 400000 in
theorem pattern_calls (b : Nat) (hb : b < 18446744073709551616) (w : World) : Calls Try.prog 83 #[.float .f64 b] w fun e w' => e = .returned (.int .u64 (cbits b)) ∧ Dr w w' := by
  have h := bits_run b
  have hc := refFromFloat_calls b (by omega) (by omega)
  rw [Int.toNat_natCast] at hc
  clear hb
  go_enter Try.func83, Try.ntmps83
  go_wp2_with (go_at_call 109; refine (hc _).mono ?_; rintro e w' ⟨rfl, n, rfl⟩)
  go_ret
  exact ⟨rfl, ⟨_, rfl⟩⟩
end Go.Proofs.Ytieddikacnmhlaa

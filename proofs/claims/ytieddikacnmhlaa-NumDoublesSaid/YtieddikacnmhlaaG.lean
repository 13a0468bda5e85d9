/- Contracts of soft.Wide and soft.Narrow; a NaN's test that leaves the world alone. -/
import Derived.Test.YtieddikacnmhlaaF
namespace Go.Proofs.Ytieddikacnmhlaa
open Go.RowKit

set_option maxHeartbeats 400000 in
theorem nanq_calls (a : Int) (h0 : 0 ≤ a) (h1 : a < 18446744073709551616) (w : World) : Calls Try.prog 39 #[.int .u64 a] w fun e w' => e = .returned (.bool (nanB a)) ∧ w = w' := by
  rw [nanB_iff h0 h1]
  clear h0 h1
  by_cases c2 : (Int.tmod (IntKind.u64.wrap (Int.tdiv a 4503599627370496)) 2048) = 2047
  · rw [if_pos c2]
    have c2b0 : ((Int.tmod (IntKind.u64.wrap (Int.tdiv a 4503599627370496)) 2048) == 2047) = true := beq_iff_eq.mpr c2
    clear c2
    go_enter Try.func39, Try.ntmps39
    go_wp2
    go_ret
    exact ⟨by first | rfl | (simp; done) | (simp [*]; done), rfl⟩
  · rw [if_neg c2]
    have c2b0 : ((Int.tmod (IntKind.u64.wrap (Int.tdiv a 4503599627370496)) 2048) == 2047) = false := beq_eq_false_iff_ne.mpr c2
    clear c2
    go_enter Try.func39, Try.ntmps39
    go_wp2
    go_ret
    exact ⟨by first | rfl | (simp; done) | (simp [*]; done), rfl⟩

theorem call85 (args : Array Value) (w : World) : (callFunc 85 args).run Try.prog w = ((Extern.MathFloatBits.float32frombits args).run Try.prog w).andThen fun v w' => .ok (.value v) w' :=
  run_callFunc_extern Try.func85 (by kernel_rfl) (by kernel_rfl) (by kernel_rfl) (by kernel_rfl) args w
theorem frombits32_run (a : Int) (w : World) : (callFunc 85 #[.int .u32 a]).run Try.prog w = .ok (.value (.float .f32 a.toNat)) w := by
  rw [call85]; rfl
theorem call84 (args : Array Value) (w : World) : (callFunc 84 args).run Try.prog w = ((Extern.MathFloatBits.float32bits args).run Try.prog w).andThen fun v w' => .ok (.value v) w' :=
  run_callFunc_extern Try.func84 (by kernel_rfl) (by kernel_rfl) (by kernel_rfl) (by kernel_rfl) args w
theorem bits32_run (b : Nat) (w : World) : (callFunc 84 #[.float .f32 b]).run Try.prog w = .ok (.value (.int .u32 b)) w := by
  rw [call84]; rfl

/-! ## Wide -/
def isNum32 (n : Int) : Bool := decide (Fl.rung Fl.S n.toNat ≤ Fl.S.infRung)
theorem isNum32_iff {n : Int} : isNum32 n = true ↔ Fl.isNum Fl.S n.toNat := by unfold isNum32 Fl.isNum; exact decide_eq_true_iff
def sWide (n : Int) : Int := if isNum32 n then (Fl.dwide n.toNat : Nat) else 9221120237041090560

theorem wide_test {n : Int} (h0 : 0 ≤ n) (h1 : n < 4294967296) : (4278190080 < n * 2 % 4294967296) ↔ isNum32 n = false := by
  rw [← Bool.not_eq_true, isNum32_iff]
  unfold Fl.isNum Fl.rung
  rw [Fl.S_inf, Fl.S_sign]
  omega

theorem convert_wide {x : Nat} (h : Fl.isNum Fl.S x) (w : World) : (convert 58 54 (.float .f32 x)).run Try.prog w = .ok (.float .f64 (Fl.dwide x)) w :=
  run_convert_float_float w 58 54 .f32 .f64 x _ (by rw [Try.underlying58]; rfl) Try.underlying54 (Fl.wide_bits h)

set_option maxHeartbeats 800000 in
theorem softWide_calls (n : Int) (h0 : 0 ≤ n) (h1 : n < 4294967296) (w : World) : Calls Try.prog 37 #[.int .u32 n] w fun e w' => e = .returned (.int .u64 (sWide n)) ∧ w = w' := by
  have ht := wide_test h0 h1
  unfold sWide
  cases hn : isNum32 n with
  | true =>
    have hd : decide (4278190080 < n * 2 % 4294967296) = false := decide_eq_false (fun e => by have := ht.1 e; rw [hn] at this; cases this)
    have hnum := isNum32_iff.1 hn
    have hf := frombits32_run n
    have hv := convert_wide hnum
    have e : ((Fl.dwide n.toNat : Nat) : Int) = cbits (Fl.dwide n.toNat) := (cbits_num (Fl.dwide_num hnum)).symm
    rw [if_pos rfl, e]
    clear h0 h1 ht hn hnum e
    go_enter Try.func37, Try.ntmps37
    go_wp2_with (go_at_call 82; refine (bits_calls _ _).mono ?_; rintro e w' ⟨rfl, rfl⟩)
    go_ret
    exact ⟨rfl, rfl⟩
  | false =>
    have hd : decide (4278190080 < n * 2 % 4294967296) = true := decide_eq_true (ht.2 hn)
    rw [if_neg (by decide)]
    clear h0 h1 ht hn
    go_enter Try.func37, Try.ntmps37
    go_wp2
    go_ret
    exact ⟨rfl, rfl⟩

theorem sWide_range (n : Int) : 0 ≤ sWide n ∧ sWide n < 18446744073709551616 := by
  unfold sWide
  split
  · have : Fl.dwide n.toNat < 18446744073709551616 := by unfold Fl.dwide; exact Fl.write_lt64 _
    omega
  · omega

/-! ## Narrow, of what is told by 32 bits -/
theorem convert_narrow {x n : Nat} (h : floatToFloatBits .f64 x .f32 = some n) (w : World) : (convert 54 58 (.float .f64 x)).run Try.prog w = .ok (.float .f32 n) w :=
  run_convert_float_float w 54 58 .f64 .f32 x _ (by rw [Try.underlying54]; rfl) Try.underlying58 h

set_option maxHeartbeats 800000 in
theorem softNarrow_some (a : Int) (n : Nat) (hn : Fl.isNum Fl.D a.toNat) (h : floatToFloatBits .f64 a.toNat .f32 = some n) (w : World) : Calls Try.prog 35 #[.int .u64 a] w fun e w' => e = .returned (.int .u32 n) ∧ w = w' := by
  have ho := order_self a.toNat
  have h1 : (FloatKind.f64.format.order a.toNat a.toNat != some .eq) = false := by
    show (!(FloatKind.f64.format.order a.toNat a.toNat == some .eq)) = false
    rw [ho, Fl.isNumB_iff.2 hn]; rfl
  have hv := convert_narrow h
  have hb := bits32_run n
  clear ho hn h
  go_enter Try.func35, Try.ntmps35
  go_wp2_with (go_at_call 80; refine (of_calls _ _).mono ?_; rintro e w' ⟨rfl, rfl⟩)
  go_ret
  exact ⟨rfl, rfl⟩

theorem narrow_back {n : Int} (h0 : 0 ≤ n) (h1 : n < 4294967296) (hn : isNum32 n = true) (w : World) : Calls Try.prog 35 #[.int .u64 (sWide n)] w fun e w' => e = .returned (.int .u32 n) ∧ w = w' := by
  have hnum := isNum32_iff.1 hn
  have e : (sWide n).toNat = Fl.dwide n.toNat := by unfold sWide; rw [hn, if_pos rfl]; exact Int.toNat_natCast _
  have h2 := Fl.narrow_wide (n := n.toNat) (by omega) hnum
  have := softNarrow_some (sWide n) n.toNat (by rw [e]; exact Fl.dwide_num hnum) (by rw [e]; exact h2) w
  rw [show ((n.toNat : Nat) : Int) = n by omega] at this
  exact this
end Go.Proofs.Ytieddikacnmhlaa

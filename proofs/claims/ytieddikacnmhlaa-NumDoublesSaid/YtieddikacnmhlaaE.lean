/- Contracts of the reference's Trunc, of Neg, Wide and Narrow, and of the law's own call awake. -/
import Derived.Test.YtieddikacnmhlaaD
import Derived.Laws.BitsAllLaws
namespace Go.Proofs.Ytieddikacnmhlaa
open Go.RowKit

set_option maxHeartbeats 1600000 in
theorem refTrunc_calls (a : Int) (h0 : 0 ≤ a) (hx : a < 18446744073709551616) (w : World) : Calls Try.prog 32 #[.int .u64 a] w fun e w' => e = .returned (.tuple #[.int .i64 (sTrunc a).1, .int .i64 (sTrunc a).2]) ∧ Dr w w' := by
  have hc := nan_calls a h0 hx
  clear h0 hx
  unfold sTrunc
  by_cases hn : Fl.isNum Fl.D a.toNat
  · have hnb : nanB a = false := by unfold nanB; rw [Fl.isNumB_iff.2 hn]; rfl
    rw [hnb] at hc
    have hg := geq_eq (x := a.toNat) (y := Fl.two63)
    have hg2 : Fl.dleq Fl.two63 a.toNat = !Fl.dless a.toNat Fl.two63 := by
      rw [Fl.dleq_num Fl.two63_fin.num hn, Fl.dless_num hn Fl.two63_fin.num, ← decide_not]
      congr 1; rw [Int.not_lt]
    have hl2 : Fl.dless a.toNat Fl.mtwo63 = !Fl.dleq Fl.mtwo63 a.toNat := by
      rw [Fl.dleq_num Fl.mtwo63_fin.num hn, Fl.dless_num hn Fl.mtwo63_fin.num, ← decide_not]
      congr 1; rw [Int.not_le]
    cases h2 : Fl.dless a.toNat Fl.two63 with
    | false =>
      have e : Fl.inI64 a.toNat = false := by unfold Fl.inI64; rw [h2, Bool.and_false]
      have hg' : (FloatKind.f64.format.order a.toNat 4890909195324358656 == some .gt || FloatKind.f64.format.order a.toNat 4890909195324358656 == some .eq) = true := by
        rw [h2] at hg2; exact hg.trans hg2
      rw [e]
      clear hg hg2 hl2 e h2 hn hnb
      go_enter Try.func32, Try.ntmps32
      go_wp2_with (first | (go_at_call 81; refine (double_calls _ _).mono ?_; rintro e w' ⟨rfl, rfl⟩) | (go_at_call 39; refine (hc _).mono ?_; rintro e w' ⟨rfl, n, rfl⟩))
      go_ret2
      exact ⟨rfl, by first | exact Dr.refl _ | exact ⟨_, rfl⟩⟩
    | true =>
      have hg' : (FloatKind.f64.format.order a.toNat 4890909195324358656 == some .gt || FloatKind.f64.format.order a.toNat 4890909195324358656 == some .eq) = false := by
        rw [h2] at hg2; exact hg.trans hg2
      cases h1 : Fl.dleq Fl.mtwo63 a.toNat with
      | false =>
        have e : Fl.inI64 a.toNat = false := by unfold Fl.inI64; rw [h1]; rfl
        have hl' : (FloatKind.f64.format.order a.toNat 14114281232179134464 == some .lt) = true := by rw [h1] at hl2; exact hl2
        rw [e]
        clear hg hg2 hl2 e h2 h1 hn hnb
        go_enter Try.func32, Try.ntmps32
        go_wp2_with (first | (go_at_call 81; refine (double_calls _ _).mono ?_; rintro e w' ⟨rfl, rfl⟩) | (go_at_call 39; refine (hc _).mono ?_; rintro e w' ⟨rfl, n, rfl⟩))
        go_ret2
        exact ⟨rfl, by first | exact Dr.refl _ | exact ⟨_, rfl⟩⟩
      | true =>
        have e : Fl.inI64 a.toNat = true := by unfold Fl.inI64; rw [h1, h2]; rfl
        have hl' : (FloatKind.f64.format.order a.toNat 14114281232179134464 == some .lt) = false := by rw [h1] at hl2; exact hl2
        have hv := convert_float e
        rw [e]
        clear hg hg2 hl2 e h2 h1 hn hnb
        go_enter Try.func32, Try.ntmps32
        go_wp2_with (first | (go_at_call 81; refine (double_calls _ _).mono ?_; rintro e w' ⟨rfl, rfl⟩) | (go_at_call 39; refine (hc _).mono ?_; rintro e w' ⟨rfl, n, rfl⟩))
        go_ret2
        exact ⟨rfl, by first | exact Dr.refl _ | exact ⟨_, rfl⟩⟩
  · have hnb : nanB a = true := by unfold nanB; rw [show Fl.isNumB a.toNat = false by rw [← Bool.not_eq_true, Fl.isNumB_iff]; exact hn]; rfl
    rw [hnb] at hc
    have e : Fl.inI64 a.toNat = false := Fl.inI64_nan hn
    rw [e]
    clear e hn hnb
    go_enter Try.func32, Try.ntmps32
    go_wp2_with (first | (go_at_call 81; refine (double_calls _ _).mono ?_; rintro e w' ⟨rfl, rfl⟩) | (go_at_call 39; refine (hc _).mono ?_; rintro e w' ⟨rfl, n, rfl⟩))
    go_ret2
    exact ⟨rfl, by first | exact Dr.refl _ | exact ⟨_, rfl⟩⟩

/-! ## Neg -/

def sNeg (a : Int) : Int := (Fl.dneg a.toNat : Nat)

theorem nat_flip (a : Nat) (h : a < 18446744073709551616) : a ^^^ 9223372036854775808 = Fl.flip a := by
  have h1 : (a ^^^ 2 ^ 63) % 2 ^ 63 = a % 2 ^ 63 := by
    rw [Nat.xor_mod_two_pow, Nat.mod_self, Nat.xor_zero]
  have h2 : (a ^^^ 2 ^ 63) / 2 ^ 63 = a / 2 ^ 63 ^^^ 1 := by
    rw [Nat.xor_div_two_pow, Nat.div_self (by decide)]
  have h3 : a / 2 ^ 63 = 0 ∨ a / 2 ^ 63 = 1 := by omega
  have h4 := Nat.div_add_mod (a ^^^ 2 ^ 63) (2 ^ 63)
  rw [h1, h2] at h4
  show a ^^^ 2 ^ 63 = _
  generalize a ^^^ 2 ^ 63 = x at *
  unfold Fl.flip
  rcases h3 with h3 | h3
  · rw [h3] at h4; rw [if_neg (by omega)]
    have : (0 ^^^ 1 : Nat) = 1 := rfl
    rw [this] at h4; omega
  · rw [h3] at h4; rw [if_pos (by omega)]
    have : (1 ^^^ 1 : Nat) = 0 := rfl
    rw [this] at h4; omega
theorem xor_flip {a : Int} (h0 : 0 ≤ a) (h1 : a < 18446744073709551616) : Go.bits .xor .u64 a 9223372036854775808 = (Fl.flip a.toNat : Nat) := by
  obtain ⟨n, rfl⟩ := Int.eq_ofNat_of_zero_le h0
  have := u64_xor_nat n 9223372036854775808 (by omega) (by decide)
  rw [Int.toNat_natCast, ← nat_flip n (by omega)]
  exact this

set_option maxHeartbeats 400000 in
theorem softNeg_calls (a : Int) (h0 : 0 ≤ a) (hx : a < 18446744073709551616) (w : World) : Calls Try.prog 49 #[.int .u64 a] w fun e w' => e = .returned (.int .u64 (sNeg a)) ∧ w = w' := by
  have hb := xor_flip h0 hx
  have ho := order_self a.toNat
  by_cases hn : Fl.isNum Fl.D a.toNat
  · have e : sNeg a = Go.bits .xor .u64 a 9223372036854775808 := by unfold sNeg; rw [Fl.dneg_num hn, hb]
    rw [e]
    have h1 : (FloatKind.f64.format.order a.toNat a.toNat != some .eq) = false := by
      show (!(FloatKind.f64.format.order a.toNat a.toNat == some .eq)) = false
      rw [ho, Fl.isNumB_iff.2 hn]; rfl
    clear h0 hx hb e ho hn
    go_enter Try.func49, Try.ntmps49
    go_wp2_with (go_at_call 80; refine (of_calls _ _).mono ?_; rintro e w' ⟨rfl, rfl⟩)
    go_ret
    exact ⟨rfl, rfl⟩
  · have e : sNeg a = 9221120237041090560 := by unfold sNeg; rw [Fl.dneg_nan hn]; rfl
    rw [e]
    have h1 : (FloatKind.f64.format.order a.toNat a.toNat != some .eq) = true := by
      show (!(FloatKind.f64.format.order a.toNat a.toNat == some .eq)) = true
      rw [ho, show Fl.isNumB a.toNat = false by rw [← Bool.not_eq_true, Fl.isNumB_iff]; exact hn]; rfl
    clear h0 hx hb e ho hn
    go_enter Try.func49, Try.ntmps49
    go_wp2_with (go_at_call 80; refine (of_calls _ _).mono ?_; rintro e w' ⟨rfl, rfl⟩)
    go_ret
    exact ⟨rfl, rfl⟩

set_option maxHeartbeats 400000 in
theorem refNeg_calls (a : Int) (h0 : 0 ≤ a) (hx : a < 18446744073709551616) (w : World) : Calls Try.prog 50 #[.int .u64 a] w fun e w' => e = .returned (.int .u64 (sNeg a)) ∧ Dr w w' := by
  have hc := nan_calls a h0 hx
  by_cases hn : Fl.isNum Fl.D a.toNat
  · have hnb : nanB a = false := by unfold nanB; rw [Fl.isNumB_iff.2 hn]; rfl
    rw [hnb] at hc
    by_cases hs : 9223372036854775808 ≤ a
    · have e : sNeg a = a - 9223372036854775808 := by unfold sNeg; rw [Fl.dneg_num hn]; unfold Fl.flip; rw [if_pos (by omega)]; omega
      rw [e]
      clear e hn hnb
      go_enter Try.func50, Try.ntmps50
      go_wp2_with (go_at_call 39; refine (hc _).mono ?_; rintro e w' ⟨rfl, n, rfl⟩)
      go_ret
      exact ⟨by first | rfl | (congr 2; simp [IntKind.wrap, IntKind.bits, IntKind.signed]; omega), ⟨_, rfl⟩⟩
    · have e : sNeg a = a + 9223372036854775808 := by unfold sNeg; rw [Fl.dneg_num hn]; unfold Fl.flip; rw [if_neg (by omega)]; omega
      rw [e]
      clear e hn hnb
      go_enter Try.func50, Try.ntmps50
      go_wp2_with (go_at_call 39; refine (hc _).mono ?_; rintro e w' ⟨rfl, n, rfl⟩)
      go_ret
      exact ⟨by first | rfl | (congr 2; simp [IntKind.wrap, IntKind.bits, IntKind.signed]; omega), ⟨_, rfl⟩⟩
  · have hnb : nanB a = true := by unfold nanB; rw [show Fl.isNumB a.toNat = false by rw [← Bool.not_eq_true, Fl.isNumB_iff]; exact hn]; rfl
    rw [hnb] at hc
    have e : sNeg a = 9221120237041090560 := by unfold sNeg; rw [Fl.dneg_nan hn]; rfl
    rw [e]
    clear e hn hnb h0 hx
    go_enter Try.func50, Try.ntmps50
    go_wp2_with (go_at_call 39; refine (hc _).mono ?_; rintro e w' ⟨rfl, n, rfl⟩)
    go_ret
    exact ⟨rfl, ⟨_, rfl⟩⟩

/-! ## awake -/
theorem awake_add : sAdd 4607182418800017408 4611686018427387904 = 4613937818241073152 := by decide +kernel
theorem awake_trunc : sTrunc 4611686018427387904 = (2, 0) := by decide +kernel
theorem awake_int : sInt 9007199254740993 = 4845873199050653696 := by decide +kernel

set_option maxHeartbeats 800000 in
theorem awake_calls (w : World) : Calls Try.prog 30 #[] w fun e w' => e = .returned (.bool true) ∧ Dr w w' := by
  have h1 := softAdd_calls 4607182418800017408 4611686018427387904
  have h2 := softTrunc_calls 4611686018427387904
  have h3 := softFromInt_calls 9007199254740993
  rw [awake_add] at h1
  rw [awake_trunc] at h2
  rw [awake_int] at h3
  go_enter Try.func30, Try.ntmps30
  go_wp2_with (first | (go_at_call 41; refine (h1 _).mono ?_; rintro e w' ⟨rfl, n, rfl⟩) | (go_at_call 31; refine (h2 _).mono ?_; rintro e w' ⟨rfl, n, rfl⟩) | (go_at_call 33; refine (h3 _).mono ?_; rintro e w' ⟨rfl, rfl⟩))
  go_ret
  exact ⟨rfl, ⟨_, rfl⟩⟩
end Go.Proofs.Ytieddikacnmhlaa

/- How num compares: whole numbers, doubles, and a whole number with a double, as the exact numbers that they are. -/
import Derived.Test.YtieddikacnmhlaaM
namespace Go.Proofs.Ytieddikacnmhlaa
open Go.RowKit

set_option maxHeartbeats 800000 in
theorem isNaN_calls (a : Int) (w : World) : Calls Try.prog 118 #[.int .i64 a] w fun e w' => e = .returned (.bool false) ∧ w = w' := by
  go_enter Try.func118, Try.ntmps118
  go_wp2
  go_ret
  exact ⟨by simp, rfl⟩

set_option maxHeartbeats 800000 in
theorem compare_calls (a b : Int) (w : World) : Calls Try.prog 112 #[.int .i64 a, .int .i64 b] w fun e w' => e = .returned (.int .i64 (Fl.cmp3 a b)) ∧ w = w' := by
  by_cases c1 : a < b
  · have d1 : decide (a < b) = true := decide_eq_true c1
    rw [Fl.cmp3_lt c1]
    clear c1
    go_enter Try.func112, Try.ntmps112
    go_wp2_with (go_at_call 118; refine (isNaN_calls _ _).mono ?_; rintro e w' ⟨rfl, rfl⟩)
    go_ret
    exact ⟨rfl, rfl⟩
  · have d1 : decide (a < b) = false := decide_eq_false c1
    by_cases c2 : b < a
    · have d2 : decide (b < a) = true := decide_eq_true c2
      rw [Fl.cmp3_gt c2]
      clear c1 c2
      go_enter Try.func112, Try.ntmps112
      go_wp2_with (go_at_call 118; refine (isNaN_calls _ _).mono ?_; rintro e w' ⟨rfl, rfl⟩)
      go_ret
      exact ⟨rfl, rfl⟩
    · have d2 : decide (b < a) = false := decide_eq_false c2
      rw [Fl.cmp3_eq (by omega)]
      clear c1 c2
      go_enter Try.func112, Try.ntmps112
      go_wp2_with (go_at_call 118; refine (isNaN_calls _ _).mono ?_; rintro e w' ⟨rfl, rfl⟩)
      go_ret
      exact ⟨rfl, rfl⟩

/-- the floor of a number that fits, fits -/
theorem inI64_floor {x : Nat} (h : Fl.isNum Fl.D x) (h1 : Fl.dleq Fl.two63 x = false) (h2 : Fl.dless x Fl.mtwo63 = false) : Fl.inI64 (Fl.dfloor x) = true := by
  have hU := Fl.U_pos
  rw [Fl.dleq_num Fl.two63_fin.num h, Fl.sv_two63] at h1
  rw [Fl.dless_num h Fl.mtwo63_fin.num, Fl.sv_mtwo63] at h2
  have a1 := of_decide_eq_false h1
  have a2 := of_decide_eq_false h2
  have hin : Fl.inI64 x = true := (Fl.inI64_iff h).2 ⟨by omega, by omega⟩
  have hf := Fl.inI64_fin hin
  obtain ⟨f1, f2, _⟩ := Fl.dfloor_fin hf
  have q1 := Fl.flr_le x
  have b : -9223372036854775808 ≤ Fl.flr x := Int.le_ediv_of_mul_le (by omega) (by omega)
  have c : -9223372036854775808 * (Fl.U : Int) ≤ Fl.flr x * Fl.U := Int.mul_le_mul_of_nonneg_right b (by omega)
  rw [Fl.inI64_iff f1.num, f2]
  exact ⟨c, by omega⟩

set_option maxHeartbeats 1600000 in
theorem against_calls (i u : Int) (hi : fits i) (hn : Fl.isNum Fl.D u.toNat) (w : World) : Calls Try.prog 113 #[.int .i64 i, .int .u64 u] w fun e w' => e = .returned (.int .i64 (Fl.cmp3 (i * Fl.U) (Fl.sv Fl.D u.toNat))) ∧ w = w' := by
  rw [← Fl.against_eq hn hi.1 hi.2]
  have hb := frombits_run u
  have hg := geq_eq (x := u.toNat) (y := Fl.two63)
  have hl := lss_eq (x := u.toNat) (y := Fl.mtwo63)
  unfold Fl.against
  cases h1 : Fl.dleq Fl.two63 u.toNat with
  | true =>
    have hg' : (FloatKind.f64.format.order u.toNat 4890909195324358656 == some .gt || FloatKind.f64.format.order u.toNat 4890909195324358656 == some .eq) = true := hg.trans h1
    rw [if_pos rfl]
    clear hg hl h1 hn hi
    go_enter Try.func113, Try.ntmps113
    go_wp2
    go_ret
    exact ⟨rfl, rfl⟩
  | false =>
    have hg' : (FloatKind.f64.format.order u.toNat 4890909195324358656 == some .gt || FloatKind.f64.format.order u.toNat 4890909195324358656 == some .eq) = false := hg.trans h1
    rw [if_neg (by decide)]
    cases h2 : Fl.dless u.toNat Fl.mtwo63 with
    | true =>
      have hl' : (FloatKind.f64.format.order u.toNat 14114281232179134464 == some .lt) = true := h2
      rw [if_pos rfl]
      clear hg hl h1 h2 hn hi
      go_enter Try.func113, Try.ntmps113
      go_wp2
      go_ret
      exact ⟨rfl, rfl⟩
    | false =>
      have hl' : (FloatKind.f64.format.order u.toNat 14114281232179134464 == some .lt) = false := h2
      rw [if_neg (by decide)]
      have hf := floor_num hn
      have hv := convert_float (inI64_floor hn h1 h2)
      have hc := compare_calls i (Fl.trc (Fl.dfloor u.toNat))
      have he : (FloatKind.f64.format.order u.toNat (Fl.dfloor u.toNat) == some .eq) = Fl.deq u.toNat (Fl.dfloor u.toNat) := rfl
      by_cases hz : Fl.cmp3 i (Fl.trc (Fl.dfloor u.toNat)) = 0
      · have z : (Fl.cmp3 i (Fl.trc (Fl.dfloor u.toNat)) != 0) = false := by rw [hz]; rfl
        cases hd : Fl.deq u.toNat (Fl.dfloor u.toNat) with
        | true =>
          rw [hd] at he
          rw [if_pos (.inr rfl)]
          clear hg hl h1 h2 hn hi hz hd
          go_enter Try.func113, Try.ntmps113
          go_wp2_with (first | (go_at_call 86; refine (hf _).mono ?_; rintro e w' ⟨rfl, rfl⟩) | (go_at_call 112; refine (hc _).mono ?_; rintro e w' ⟨rfl, rfl⟩))
          go_ret
          exact ⟨rfl, rfl⟩
        | false =>
          rw [hd] at he
          rw [if_neg (by simp [hz])]
          clear hg hl h1 h2 hn hi hz hd
          go_enter Try.func113, Try.ntmps113
          go_wp2_with (first | (go_at_call 86; refine (hf _).mono ?_; rintro e w' ⟨rfl, rfl⟩) | (go_at_call 112; refine (hc _).mono ?_; rintro e w' ⟨rfl, rfl⟩))
          go_ret
          exact ⟨rfl, rfl⟩
      · have z : (Fl.cmp3 i (Fl.trc (Fl.dfloor u.toNat)) != 0) = true := by rw [bne_iff_ne]; exact hz
        rw [if_pos (.inl hz)]
        clear hg hl h1 h2 hn hi hz he
        go_enter Try.func113, Try.ntmps113
        go_wp2_with (first | (go_at_call 86; refine (hf _).mono ?_; rintro e w' ⟨rfl, rfl⟩) | (go_at_call 112; refine (hc _).mono ?_; rintro e w' ⟨rfl, rfl⟩))
        go_ret
        exact ⟨rfl, rfl⟩
end Go.Proofs.Ytieddikacnmhlaa

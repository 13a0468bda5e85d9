/- The words that package word makes of any double, whole number, truth, text and handle are those of the document. For every input; no condition. -/
import Derived.Test.YtpoedalbgcpgjaaPWordBoxesx2
import Derived.Test.YtpoedalbgcpgjaaLWordBoxes
namespace Go.Proofs.Ytpoedalbgcpgjaa.Pure
open Go.RowKit Go.Proofs.Ytpoedalbgcpgjaa.PWordBoxes Go.Proofs.YtpoedalbgcpgjaaW.PrintWords Go.Proofs.YtpoedalbgcpgjaaW.PrintLast Go.Proofs.Ytpoedalbgcpgjaa.Bits

theorem power_l (n : Nat) (hn : n ≤ 40) : ∀ (d k i : Nat), n - i = d → i ≤ n → d < k → casketref1_power.l0 k n (2 ^ i) i = some (2 ^ n)
  | 0, k, i, hd, hi, hk => by
    obtain ⟨k, rfl⟩ : ∃ m, k = m + 1 := ⟨k - 1, by omega⟩
    obtain rfl : i = n := by omega
    simp only [casketref1_power.l0]; rw [if_neg (by omega)]
  | d + 1, k, i, hd, hi, hk => by
    obtain ⟨k, rfl⟩ : ∃ m, k = m + 1 := ⟨k - 1, by omega⟩
    have hp : (2 : Int) ^ i ≤ 2 ^ 40 := by exact_mod_cast Nat.pow_le_pow_right (by omega) (by omega)
    have hp0 : (0 : Int) < 2 ^ i := Int.pow_pos (by omega)
    simp only [casketref1_power.l0]
    rw [if_pos (by omega), wraps_u64 (2 * 2 ^ i) (by omega) (by omega), show wrap64 ((i : Int) + 1) = ((i + 1 : Nat) : Int) by unfold wrap64; omega, ← Int.pow_succ']
    exact power_l n hn d k (i + 1) (by omega) (by omega) (by omega)
theorem power_f {n k : Nat} (hn : n ≤ 40) (hk : 40 < k) : casketref1_power.f k n = some (2 ^ n) := power_l n hn n k 0 (by omega) (by omega) (by omega)

theorem refText_l {s : ByteArray} (hs : s.size ≤ 5) : ∀ (d k i : Nat), s.size - i = d → i ≤ s.size → d + 41 < k →
    casketref1_FromText.l0 k s ((s.size : Int) * 1099511627776 + tsum s i) i = some (18445055223849287680 + s.size * 1099511627776 + tsum s s.size, true)
  | 0, k, i, hd, hi, hk => by
    obtain ⟨k, rfl⟩ : ∃ m, k = m + 1 := ⟨k - 1, by omega⟩
    obtain rfl : i = s.size := by omega
    have hr := tsum_lt s hs
    simp only [casketref1_FromText.l0]
    rw [if_neg (by omega), wrap_u64]
    congr 2; omega
  | d + 1, k, i, hd, hi, hk => by
    obtain ⟨k, rfl⟩ : ∃ m, k = m + 1 := ⟨k - 1, by omega⟩
    have hr := tsum_lt s (k := i) (by omega)
    have hr2 := tsum_lt s (k := i + 1) (by omega)
    have hb := bt_range s i
    have hm := byte_lt s (i := i) (by omega)
    have hw : wrap64 (8 * (i : Int)) = ((8 * i : Nat) : Int) := by unfold wrap64; omega
    have hw2 : wrap64 ((i : Int) + 1) = ((i + 1 : Nat) : Int) := by unfold wrap64; omega
    rw [tsum_succ] at hr2
    simp only [casketref1_FromText.l0]
    rw [if_pos (by omega), if_pos (by omega), hw, power_f (by omega) (by omega)]
    simp only [Option.bind_some]
    rw [hw2, wraps_u64 (bt s i) (by omega) (by omega)]
    have ht := tsum_succ s i
    generalize bt s i * 2 ^ (8 * i) = m at *
    rw [wraps_u64 m (by omega) (by omega)]
    rw [wraps_u64 _ (by omega) (by omega)]
    rw [show (s.size : Int) * 1099511627776 + tsum s i + m = (s.size : Int) * 1099511627776 + tsum s (i + 1) by rw [ht]; omega]
    exact refText_l hs d k (i + 1) (by omega) (by omega) (by omega)

theorem refText_f {s : ByteArray} (hs : s.size ≤ 5) {k : Nat} (hk : 50 < k) :
    casketref1_FromText.f k s = some (18445055223849287680 + s.size * 1099511627776 + tsum s s.size, true) := by
  unfold casketref1_FromText.f
  rw [if_neg (by omega), show (40 : Int) = ((40 : Nat) : Int) by rfl, power_f (by omega) (by omega)]
  simp only [Option.bind_some]
  rw [wrap_u64, wrap_u64, show (s.size : Int) % 18446744073709551616 * 2 ^ 40 % 18446744073709551616 = (s.size : Int) * 1099511627776 + tsum s 0 by
    unfold tsum; omega]
  exact refText_l hs s.size k 0 (by omega) (by omega) (by omega)

theorem fromFloat_f (a : Int) (h0 : 0 ≤ a) : word_FromFloat.f a = casketref1_FromFloat.f a := by
  unfold word_FromFloat.f casketref1_FromFloat.f casketref1_NaN.f
  rw [nan_f, Int.tdiv_eq_ediv_of_nonneg h0, wrap_u64, Int.tmod_eq_emod_of_nonneg h0, Int.tmod_eq_emod_of_nonneg (by omega)]
  by_cases c : isNan a
  · have c' := c
    unfold isNan at c'
    rw [decide_eq_true c, if_pos (by omega), show (a % 4503599627370496 != 0) = true by simp; omega]
  · rw [decide_eq_false c]
    unfold isNan at c
    by_cases c1 : a / 4503599627370496 % 18446744073709551616 % 2048 = 2047
    · rw [if_pos c1, show (a % 4503599627370496 != 0) = false by simp; omega]
    · rw [if_neg c1]

theorem fromFloat_some (a : Int) : ∃ r, casketref1_FromFloat.f a = some r := by
  unfold casketref1_FromFloat.f casketref1_NaN.f
  split <;> simp only [Option.bind_some] <;> split <;> exact ⟨_, rfl⟩

theorem refInt_f {a : Int} (h0 : -9223372036854775808 ≤ a) (h1 : a ≤ 9223372036854775807) :
    casketref1_FromInt.f a = if -140737488355328 ≤ a ∧ a < 140737488355328 then some (18444773748872577024 + a % 281474976710656, true) else some (0, false) := by
  unfold casketref1_FromInt.f casketref1_Small.f
  by_cases c1 : a ≥ -140737488355328
  · rw [if_pos c1]
    by_cases c2 : a < 140737488355328
    · rw [decide_eq_true c2]
      simp only [Option.bind_some, if_true]
      rw [if_pos (show -140737488355328 ≤ a ∧ a < 140737488355328 from ⟨c1, c2⟩)]
      by_cases c3 : a < 0
      · rw [if_pos c3, wrap_u64, wrap_u64]
        unfold wrap64
        congr 2; omega
      · rw [if_neg c3, wrap_u64, wrap_u64]
        congr 2; omega
    · rw [decide_eq_false c2, if_neg (show ¬ (-140737488355328 ≤ a ∧ a < 140737488355328) by omega)]; rfl
  · rw [if_neg c1, if_neg (show ¬ (-140737488355328 ≤ a ∧ a < 140737488355328) by omega)]; rfl

theorem WordBoxes : casketlaw1_WordBoxes.Pure := by
  intro a i b s h wa wi hs wh
  obtain ⟨a0, _⟩ := u64_range wa
  obtain ⟨i0, i1⟩ := i64_range wi
  obtain ⟨h0, _⟩ := u64_range wh
  refine ⟨60, ?_⟩
  have aw : casketlaw1_awake.f 57 = some true := awake_f 57 (by decide)
  unfold casketlaw1_WordBoxes.f
  by_cases hl : (s.size : Int) > 1000
  · rw [if_pos hl]
  · rw [if_neg hl, fromFloat_f a a0]
    obtain ⟨r, hr⟩ := fromFloat_some a
    rw [hr]
    simp only [Option.bind_some, if_true]
    have hnil : word_FromNil.f = casketref1_FromNil.f := by decide +kernel
    have hnil2 : casketref1_FromNil.f = some 18444492273895866368 := rfl
    rw [hnil, hnil2]
    simp only [Option.bind_some, if_true]
    have hbool : word_FromBool.f b = casketref1_FromBool.f b := by cases b <;> decide +kernel
    have hbool2 : casketref1_FromBool.f b = some (if b then 18444492273895866370 else 18444492273895866369) := by cases b <;> rfl
    rw [hbool, hbool2]
    simp only [Option.bind_some, bne_self_eq_false]
    simp only [casketlaw1_WordBoxes.j0, Bool.false_eq_true, if_false]
    rw [fromInt_f i0 i1, refInt_f i0 i1]
    have hint : ∀ (x : Option (Int × Bool)) (y : Int × Bool) (f : Int × Bool → Int × Bool → Option Bool), x = some y → (x.bind fun p => x.bind fun q => f p q) = f y y := by
      intro x y f e; subst e; rfl
    obtain ⟨y, hy⟩ : ∃ y, (if -140737488355328 ≤ i ∧ i < 140737488355328 then some (18444773748872577024 + i % 281474976710656, true) else some (0, false)) = some y := by
      split <;> exact ⟨_, rfl⟩
    rw [hint _ y _ hy, if_pos rfl, bne_self_eq_false]
    simp only [casketlaw1_WordBoxes.j1, Bool.false_eq_true, if_false]
    have htext : word_FromText.f 58 s = casketref1_FromText.f 58 s := by
      by_cases h5 : s.size ≤ 5
      · rw [fromText_f h5 (by omega), refText_f h5 (by omega)]
      · rw [fromText_long (by omega)]; unfold casketref1_FromText.f; rw [if_pos (by omega)]
    obtain ⟨z, hz⟩ : ∃ z, casketref1_FromText.f 58 s = some z := by
      by_cases h5 : s.size ≤ 5
      · exact ⟨_, refText_f h5 (by omega)⟩
      · unfold casketref1_FromText.f; rw [if_pos (by omega)]; exact ⟨_, rfl⟩
    rw [htext, hint _ z _ hz, if_pos rfl, bne_self_eq_false]
    simp only [casketlaw1_WordBoxes.j2, Bool.false_eq_true, if_false]
    have hh : word_FromHandle.f h = casketref1_FromHandle.f h := by
      unfold word_FromHandle.f casketref1_FromHandle.f
      by_cases c : h > 281474976710655
      · rw [if_pos c, if_pos (by omega)]
      · rw [if_neg c, if_neg (by omega), tagged_f (by omega) (by omega) h0 (by omega), wrap_u64]
        simp only [Option.bind_some]
        congr 2; omega
    obtain ⟨u, hu⟩ : ∃ u, casketref1_FromHandle.f h = some u := by
      unfold casketref1_FromHandle.f; split <;> exact ⟨_, rfl⟩
    rw [hh, hint _ u _ hu, if_pos rfl, beq_self_eq_true, if_pos rfl, aw]; rfl
end Go.Proofs.Ytpoedalbgcpgjaa.Pure

/- The reference's Class, as printed for the law WordClasses: what it comes to. -/
import Derived.Test.YtpoedalbgcpgjaaWC2
import Derived.Test.YtpoedalbgcpgjaaBits
namespace Go.Proofs.Ytpoedalbgcpgjaa.PWordClasses
open Go.RowKit Go.Proofs.YtpoedalbgcpgjaaW.PrintWords Go.Proofs.YtpoedalbgcpgjaaW.PrintLast Go.Proofs.YtpoedalbgcpgjaaW.PrintMore Go.Proofs.Ytpoedalbgcpgjaa.Bits
set_option linter.unusedVariables false

theorem power_l (n : Nat) (hn : n ≤ 40) : ∀ (d k i : Nat), n - i = d → i ≤ n → d < k → casketref1_power.l0 k n (2 ^ i) i = some (2 ^ n)
  | 0, k, i, hd, hi, hk => by
    obtain ⟨k, rfl⟩ : ∃ m, k = m + 1 := ⟨k - 1, by omega⟩
    obtain rfl : i = n := by omega
    simp only [casketref1_power.l0]; rw [if_neg (by omega)]
  | d + 1, k, i, hd, hi, hk => by
    obtain ⟨k, rfl⟩ : ∃ m, k = m + 1 := ⟨k - 1, by omega⟩
    have hp : (2 : Int) ^ i ≤ 2 ^ 40 := by exact_mod_cast Nat.pow_le_pow_right (by omega) (by omega)
    have hp0 : (0 : Int) < 2 ^ i := Int.pow_pos (by omega)
    simp only [casketref1_power.l0]
    rw [if_pos (by omega), wraps_u64 (2 * 2 ^ i) (by omega) (by omega), show wrap64 ((i : Int) + 1) = ((i + 1 : Nat) : Int) by unfold wrap64; omega, ← Int.pow_succ']
    exact power_l n hn d k (i + 1) (by omega) (by omega) (by omega)
theorem power_f {n k : Nat} (hn : n ≤ 40) (hk : 40 < k) : casketref1_power.f k n = some (2 ^ n) := power_l n hn n k 0 (by omega) (by omega) (by omega)

theorem refNaN_f {a : Int} (h0 : 0 ≤ a) (h1 : a < 18446744073709551616) : casketref1_NaN.f a = some (decide (isNan a)) := by
  unfold casketref1_NaN.f
  rw [Int.tdiv_eq_ediv_of_nonneg h0, wraps_u64 _ (by omega) (by omega), Int.tmod_eq_emod_of_nonneg h0, Int.tmod_eq_emod_of_nonneg (by omega)]
  by_cases c1 : a / 4503599627370496 % 2048 = 2047
  · rw [if_pos c1]
    by_cases c2 : a % 4503599627370496 = 0
    · rw [decide_eq_false (by unfold isNan; omega), c2]; rfl
    · rw [decide_eq_true (by unfold isNan; omega), bne_iff_ne.2 c2]
  · rw [if_neg c1, decide_eq_false (by unfold isNan; omega)]

theorem refClass_j2 (k : Nat) (hk : 42 ≤ k) {t l : Int} (ht : 0 ≤ t ∧ t ≤ 7) (hl : 0 ≤ l ∧ l < 281474976710656) :
    casketref1_Class.j2 (k + 1) t l false = some (if t = 1 then 2 else if t = 2 then (if txtOk l then 5 else 7) else if t = 3 then 6 else 7) := by
  obtain ⟨m, rfl⟩ : ∃ m, k = m + 1 := ⟨k - 1, by omega⟩
  simp only [casketref1_Class.j2]
  rw [if_neg (by decide)]
  by_cases c1 : t = 1
  · rw [if_pos c1, if_pos c1]
  · rw [if_neg c1, if_neg c1]
    by_cases c2 : t = 2
    · rw [if_pos c2, if_pos c2]
      have e40 : casketref1_power.f (m + 1) 40 = some 1099511627776 := power_f (n := 40) (by decide) (by omega)
      rw [e40]
      simp only [Option.bind_some]
      rw [Int.tdiv_eq_ediv_of_nonneg hl.1, wraps_u64 _ (by omega) (by omega), Int.tmod_eq_emod_of_nonneg hl.1, if_neg (by decide),
        show wrap64 (l / 1099511627776) = l / 1099511627776 by unfold wrap64; omega]
      have j3t : ∀ b : Bool, casketref1_Class.j3 (m + 1) t b = some (if b = true then 5 else 7) := by
        intro b
        simp only [casketref1_Class.j3]
        cases b
        · rw [if_neg (by decide), if_neg (by omega), if_neg (by decide)]
        · rfl
      by_cases c3 : l / 1099511627776 ≤ 5
      · rw [if_pos c3, if_neg (by decide)]
        have hq : l / 1099511627776 = 0 ∨ l / 1099511627776 = 1 ∨ l / 1099511627776 = 2 ∨ l / 1099511627776 = 3 ∨ l / 1099511627776 = 4 ∨ l / 1099511627776 = 5 := by omega
        have go : ∀ (n : Nat), n ≤ 5 → l / 1099511627776 = n → (casketref1_power.f (m + 1) (wrap64 (8 * (l / 1099511627776)))).bind (fun t107 => casketref1_Class.j3 (m + 1) t (decide (l % 1099511627776 < t107))) = some (if l % 1099511627776 < 2 ^ (8 * n) then 5 else 7) := by
          intro n hn e
          rw [show wrap64 (8 * (l / 1099511627776)) = ((8 * n : Nat) : Int) by unfold wrap64; omega, power_f (n := 8 * n) (by omega) (by omega)]
          simp only [Option.bind_some]
          rw [j3t]
          simp only [decide_eq_true_eq]
        rcases hq with e | e | e | e | e | e
        · rw [go 0 (by omega) e]; congr 1; by_cases h : l % 1099511627776 < 2 ^ (8 * 0)
          · rw [if_pos h, if_pos (show txtOk l by unfold txtOk; omega)]
          · rw [if_neg h, if_neg (show ¬ txtOk l by unfold txtOk; omega)]
        · rw [go 1 (by omega) e]; congr 1; by_cases h : l % 1099511627776 < 2 ^ (8 * 1)
          · rw [if_pos h, if_pos (show txtOk l by unfold txtOk; omega)]
          · rw [if_neg h, if_neg (show ¬ txtOk l by unfold txtOk; omega)]
        · rw [go 2 (by omega) e]; congr 1; by_cases h : l % 1099511627776 < 2 ^ (8 * 2)
          · rw [if_pos h, if_pos (show txtOk l by unfold txtOk; omega)]
          · rw [if_neg h, if_neg (show ¬ txtOk l by unfold txtOk; omega)]
        · rw [go 3 (by omega) e]; congr 1; by_cases h : l % 1099511627776 < 2 ^ (8 * 3)
          · rw [if_pos h, if_pos (show txtOk l by unfold txtOk; omega)]
          · rw [if_neg h, if_neg (show ¬ txtOk l by unfold txtOk; omega)]
        · rw [go 4 (by omega) e]; congr 1; by_cases h : l % 1099511627776 < 2 ^ (8 * 4)
          · rw [if_pos h, if_pos (show txtOk l by unfold txtOk; omega)]
          · rw [if_neg h, if_neg (show ¬ txtOk l by unfold txtOk; omega)]
        · rw [go 5 (by omega) e]; congr 1; rw [if_pos (show l % 1099511627776 < 2 ^ (8 * 5) by omega), if_pos (show txtOk l by unfold txtOk; omega)]
      · rw [if_neg c3, j3t, if_neg (by decide), if_neg (show ¬ txtOk l by unfold txtOk; omega)]
    · rw [if_neg c2, if_neg c2]
      by_cases c3 : t = 3
      · rw [if_pos c3, if_pos c3]
      · rw [if_neg c3, if_neg c3]

theorem refClass_f (k : Nat) (hk : 50 ≤ k) {a : Int} (h0 : 0 ≤ a) (h1 : a < 18446744073709551616) : casketref1_Class.f k a = some (cls a) := by
  obtain ⟨m, rfl⟩ : ∃ m, k = m + 3 := ⟨k - 3, by omega⟩
  unfold casketref1_Class.f
  rw [refNaN_f h0 h1, Option.bind_some]
  unfold cls
  by_cases c1 : isNan a
  · rw [decide_eq_true c1, if_pos rfl]
    by_cases c2 : a = 9221120237041090560
    · rw [show (a == 9221120237041090560) = true from beq_iff_eq.2 c2, if_pos (.inr c2)]
      simp only [casketref1_Class.j0, if_true]
    · have c1' := c1
      unfold isNan at c1'
      rw [show (a == 9221120237041090560) = false from beq_eq_false_iff_ne.2 c2, if_neg (fun h => h.elim (fun h => h c1) c2)]
      simp only [casketref1_Class.j0]
      rw [if_neg (by decide)]
      by_cases c3 : a < 18444492273895866368
      · rw [if_pos c3, if_neg (by omega), if_neg (by omega), if_neg (by omega), if_neg (by omega)]
      · rw [if_neg c3]
        have e1 : IntKind.u64.wrap (a - 18444492273895866368) = a - 18444492273895866368 := wraps_u64 _ (by omega) (by omega)
        rw [e1, Int.tdiv_eq_ediv_of_nonneg (by omega), wraps_u64 _ (by omega) (by omega), Int.tmod_eq_emod_of_nonneg h0]
        have ht : a / 281474976710656 = 65528 + (a - 18444492273895866368) / 281474976710656 := by omega
        rw [ht]
        generalize (a - 18444492273895866368) / 281474976710656 = t at ht
        have ht2 : 0 ≤ t ∧ t ≤ 7 := by omega
        have hl : 0 ≤ a % 281474976710656 ∧ a % 281474976710656 < 281474976710656 := by omega
        generalize a % 281474976710656 = l at hl
        have a0 : (65528 + t = 65528) ↔ t = 0 := by omega
        have a1 : (65528 + t = 65529) ↔ t = 1 := by omega
        have a2 : (65528 + t = 65530) ↔ t = 2 := by omega
        have a3 : (65528 + t = 65531) ↔ t = 3 := by omega
        simp only [a0, a1, a2, a3]
        by_cases d0 : t = 0
        · rw [if_pos d0, if_pos d0]
          by_cases z0 : l = 0
          · rw [if_pos z0, show (l == 0) = true from beq_iff_eq.2 z0]
            simp only [casketref1_Class.j1, if_true]
          · rw [if_neg z0, show (l == 0) = false from beq_eq_false_iff_ne.2 z0]
            simp only [casketref1_Class.j1]
            rw [if_neg (by decide), if_pos d0]
            by_cases z2 : l ≤ 2
            · rw [if_pos z2, decide_eq_true z2]
              obtain ⟨q, rfl⟩ : ∃ q, m = q + 1 := ⟨m - 1, by omega⟩
              simp only [casketref1_Class.j2, if_true]
            · rw [if_neg z2, decide_eq_false z2]
              obtain ⟨q, rfl⟩ : ∃ q, m = q + 1 := ⟨m - 1, by omega⟩
              rw [refClass_j2 (q + 1) (by omega) ht2 hl, if_neg (by omega), if_neg (by omega), if_neg (by omega)]
        · rw [if_neg d0, if_neg d0]
          simp only [casketref1_Class.j1]
          rw [if_neg (by decide), if_neg d0]
          obtain ⟨q, rfl⟩ : ∃ q, m = q + 1 := ⟨m - 1, by omega⟩
          rw [refClass_j2 (q + 1) (by omega) ht2 hl]
  · rw [decide_eq_false c1, if_neg (by decide), if_pos (.inl c1)]
    simp only [casketref1_Class.j0, if_true]
end Go.Proofs.Ytpoedalbgcpgjaa.PWordClasses

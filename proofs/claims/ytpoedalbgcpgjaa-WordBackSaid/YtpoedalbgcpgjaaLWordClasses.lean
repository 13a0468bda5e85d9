/- What the printed functions of package word come to, for the law WordClasses. -/
import Derived.Test.YtpoedalbgcpgjaaPWordClassesx1
import Derived.Test.YtpoedalbgcpgjaaBits
namespace Go.Proofs.Ytpoedalbgcpgjaa.PWordClasses
open Go.RowKit Go.Proofs.YtpoedalbgcpgjaaW.PrintWords Go.Proofs.YtpoedalbgcpgjaaW.PrintLast Go.Proofs.YtpoedalbgcpgjaaW.PrintMore Go.Proofs.Ytpoedalbgcpgjaa.Bits

theorem nan_f (a : Int) : word_nan.f a = some (decide (isNan a)) := by
  unfold word_nan.f isNan; rw [wrap_u64]; rfl

theorem tagged_f {t l : Int} (h0 : 0 ≤ t) (h1 : t ≤ 7) (h2 : 0 ≤ l) (h3 : l < 281474976710656) :
    word_tagged.f t l = some (18444492273895866368 + t * 281474976710656 + l) := by
  unfold word_tagged.f; rw [tagged h0 h1 h2 h3]

theorem class_f (k : Nat) {a : Int} (h0 : 0 ≤ a) (h1 : a < 18446744073709551616) : word_Class.f (k + 1) a = some (cls a) := by
  unfold word_Class.f
  rw [nan_f, Option.bind_some, and48 h0 h1]
  unfold cls
  by_cases c1 : isNan a
  · rw [decide_eq_true c1, if_pos rfl]
    by_cases c2 : a = 9221120237041090560
    · rw [show (a == 9221120237041090560) = true from beq_iff_eq.2 c2, if_pos (.inr c2)]
      simp only [word_Class.j0, if_true]
    · have c1' := c1
      unfold isNan at c1'
      have e7 : Go.bits .and .u64 (a / 281474976710656) 7 = a / 281474976710656 % 8 := and7 (by omega) (by omega)
      have e40 : Go.bits .and .u64 (a % 281474976710656) 1099511627775 = a % 281474976710656 % 1099511627776 := and40 (by omega) (by omega)
      have hw : 0 ≤ IntKind.u64.wrap (8 * (a % 281474976710656 / 1099511627776)) := by rw [wrap_u64]; omega
      rw [show (a == 9221120237041090560) = false from beq_eq_false_iff_ne.2 c2, if_neg (fun h => h.elim (fun h => h c1) c2)]
      simp only [word_Class.j0]
      rw [e7, e40, if_pos hw, if_neg (by decide)]
      have f0 : (a / 2251799813685248 = 8191 ∧ a / 281474976710656 % 8 = 0) ↔ a / 281474976710656 = 65528 := by omega
      have f1 : (a / 2251799813685248 = 8191 ∧ a / 281474976710656 % 8 = 1) ↔ a / 281474976710656 = 65529 := by omega
      have f2 : (a / 2251799813685248 = 8191 ∧ a / 281474976710656 % 8 = 2) ↔ a / 281474976710656 = 65530 := by omega
      have f3 : (a / 2251799813685248 = 8191 ∧ a / 281474976710656 % 8 = 3) ↔ a / 281474976710656 = 65531 := by omega
      by_cases c3 : a / 2251799813685248 = 8191
      · simp only [c3, true_and] at f0 f1 f2 f3
        rw [if_pos c3]
        simp only [f0, f1, f2, f3]
        by_cases d0 : a / 281474976710656 = 65528
        · rw [if_pos d0, if_pos d0]
          by_cases z0 : a % 281474976710656 = 0
          · rw [if_pos z0, if_pos z0]
          · rw [if_neg z0, if_neg z0]
            by_cases z1 : a % 281474976710656 = 1
            · rw [if_pos z1, if_pos (by omega)]
            · rw [if_neg z1]
              by_cases z2 : a % 281474976710656 = 2
              · rw [if_pos z2, if_pos (by omega)]
              · rw [if_neg z2, if_neg (by omega)]
        · rw [if_neg d0, if_neg d0]
          by_cases d1 : a / 281474976710656 = 65529
          · rw [if_pos d1, if_pos d1]
          · rw [if_neg d1, if_neg d1]
            by_cases d2 : a / 281474976710656 = 65530
            · rw [if_pos d2, if_pos d2]
              by_cases z : a % 281474976710656 / 1099511627776 ≤ 5
              · rw [if_pos z]
                by_cases t : txtOk (a % 281474976710656)
                · rw [if_pos ((txt_iff (by omega) z).2 t), if_pos t]
                · rw [if_neg (fun e => t ((txt_iff (by omega) z).1 e)), if_neg t]
              · rw [if_neg z, if_neg (by unfold txtOk; omega)]
            · rw [if_neg d2, if_neg d2]
              by_cases d3 : a / 281474976710656 = 65531
              · rw [if_pos d3, if_pos d3]
              · rw [if_neg d3, if_neg d3]
      · simp only [c3, false_and, false_iff] at f0 f1 f2 f3
        rw [if_neg c3, if_neg f0, if_neg f1, if_neg f2, if_neg f3]
  · rw [decide_eq_false c1, if_neg (by decide), if_pos (.inl c1)]
    simp only [word_Class.j0, if_true]

theorem fromInt_f {a : Int} (h0 : -9223372036854775808 ≤ a) (h1 : a ≤ 9223372036854775807) :
    word_FromInt.f a = if -140737488355328 ≤ a ∧ a < 140737488355328 then some (18444773748872577024 + a % 281474976710656, true) else some (0, false) := by
  unfold word_FromInt.f
  by_cases c1 : a < -140737488355328
  · rw [if_pos c1, if_neg (by omega)]
  · rw [if_neg c1]
    by_cases c2 : a ≥ 140737488355328
    · rw [if_pos c2, if_neg (by omega)]
    · rw [if_neg c2, if_pos (by omega), wrap_u64, and48 (by omega) (by omega), tagged_f (by omega) (by omega) (by omega) (by omega)]
      rw [show a % 18446744073709551616 % 281474976710656 = a % 281474976710656 by omega]
      rfl

theorem fromText_l {s : ByteArray} (hs : s.size ≤ 5) : ∀ (d k i : Nat), s.size - i = d → i ≤ s.size → d < k →
    word_FromText.l0 k s ((s.size : Int) * 1099511627776 + tsum s i) s.size i = some (18445055223849287680 + s.size * 1099511627776 + tsum s s.size, true)
  | 0, k, i, hd, hi, hk => by
    obtain ⟨k, rfl⟩ : ∃ m, k = m + 1 := ⟨k - 1, by omega⟩
    obtain rfl : i = s.size := by omega
    have hr := tsum_range s s.size
    have hp : (2 : Int) ^ (8 * s.size) ≤ 2 ^ 40 := by exact_mod_cast Nat.pow_le_pow_right (by omega) (by omega)
    simp only [word_FromText.l0]
    rw [if_neg (by omega), tagged_f (by omega) (by omega) (by omega) (by omega)]
    simp only [Option.bind_some]
    congr 2; omega
  | d + 1, k, i, hd, hi, hk => by
    obtain ⟨k, rfl⟩ : ∃ m, k = m + 1 := ⟨k - 1, by omega⟩
    have hr := tsum_range s i
    have hb := bt_range s i
    have hw : wrap64 (8 * (i : Int)) = 8 * (i : Int) := by unfold wrap64; omega
    have hw2 : wrap64 ((i : Int) + 1) = ((i + 1 : Nat) : Int) := by unfold wrap64; omega
    have hsh : shl .u64 (IntKind.u64.wrap (bt s i)) (8 * (i : Int)) = bt s i * 2 ^ (8 * i) := by
      unfold shl
      rw [show (8 * (i : Int)).toNat = 8 * i by omega, Nat.min_eq_left (by show 8 * i ≤ 64; omega)]
      rw [wraps_u64 (bt s i) (by omega) (by omega)]
      have hp : (2 : Int) ^ (8 * i) ≤ 2 ^ 32 := by exact_mod_cast Nat.pow_le_pow_right (by omega) (by omega)
      have hp0 : (0 : Int) < 2 ^ (8 * i) := Int.pow_pos (by omega)
      have : bt s i * 2 ^ (8 * i) ≤ 255 * 2 ^ 32 := Int.le_trans (Int.mul_le_mul_of_nonneg_right hb.2 (Int.le_of_lt hp0)) (Int.mul_le_mul_of_nonneg_left hp (by omega))
      exact wraps_u64 _ (Int.mul_nonneg hb.1 (Int.le_of_lt hp0)) (by omega)
    simp only [word_FromText.l0]
    rw [if_pos (by omega), if_pos (by omega), if_pos (by omega), hw, if_pos (by omega), hw2, hsh]
    rw [or3 (8 * i) (by omega) (by omega) hr.1 hr.2 hb.1 (by omega) (by omega)]
    exact fromText_l hs d k (i + 1) (by omega) (by omega) (by omega)

theorem fromText_f {s : ByteArray} (hs : s.size ≤ 5) {k : Nat} (hk : 5 < k) :
    word_FromText.f k s = some (18445055223849287680 + s.size * 1099511627776 + tsum s s.size, true) := by
  unfold word_FromText.f
  rw [if_neg (by omega), wrap_u64, wrap_u64, show (s.size : Int) % 18446744073709551616 * 1099511627776 % 18446744073709551616 = (s.size : Int) * 1099511627776 + tsum s 0 by
    unfold tsum; omega]
  exact fromText_l hs s.size k 0 (by omega) (by omega) (by omega)
theorem fromText_long {s : ByteArray} (hs : 5 < s.size) (k : Nat) : word_FromText.f k s = some (0, false) := by
  unfold word_FromText.f
  rw [if_pos (by omega)]

theorem awake_f (k : Nat) (hk : 6 ≤ k) : casketlaw1_awake.f k = some true :=
  at_rounds casketlaw1_awake.mono hk (by
    unfold casketlaw1_awake.f
    rw [fromInt_f (by omega) (by omega), if_pos (by omega), fromText_f (by decide) (by omega), class_f 5 (by omega) (by omega)]
    decide +kernel)

end Go.Proofs.Ytpoedalbgcpgjaa.PWordClasses

/- Plain facts about bits of 64-bit words: masks, tags and joined bytes, in plain arithmetic. -/
import Derived.Laws.BitsAllLaws
import Derived.Laws.BitsLemmas
import Derived.Test.YtpoedalbgcpgjaaWMore
namespace Go.Proofs.Ytpoedalbgcpgjaa.Bits
open Go.RowKit Go.Proofs.YtpoedalbgcpgjaaW.PrintWords Go.Proofs.YtpoedalbgcpgjaaW.PrintMore

theorem wraps_u64 (n : Int) (h0 : 0 ≤ n) (h1 : n < 2 ^ 64) : IntKind.u64.wrap n = n := by
  rw [show IntKind.u64.wrap n = n % 18446744073709551616 by simp [IntKind.wrap, IntKind.bits, IntKind.signed]]; omega
theorem wrap_u64 (n : Int) : IntKind.u64.wrap n = n % 18446744073709551616 := by simp [IntKind.wrap, IntKind.bits, IntKind.signed]

theorem mask (i : Nat) (hi : i ≤ 64) (x : Int) (h0 : 0 ≤ x) (h1 : x < 18446744073709551616) : Go.bits .and .u64 x (2 ^ i - 1) = x % 2 ^ i :=
  bits_mask .u64 64 (by decide) wraps_u64 i hi x h0 (by omega)
theorem and7 {x : Int} (h0 : 0 ≤ x) (h1 : x < 18446744073709551616) : Go.bits .and .u64 x 7 = x % 8 := mask 3 (by decide) x h0 h1
theorem and255 {x : Int} (h0 : 0 ≤ x) (h1 : x < 18446744073709551616) : Go.bits .and .u64 x 255 = x % 256 := mask 8 (by decide) x h0 h1
theorem and40 {x : Int} (h0 : 0 ≤ x) (h1 : x < 18446744073709551616) : Go.bits .and .u64 x 1099511627775 = x % 1099511627776 := mask 40 (by decide) x h0 h1
theorem and48 {x : Int} (h0 : 0 ≤ x) (h1 : x < 18446744073709551616) : Go.bits .and .u64 x 281474976710655 = x % 281474976710656 := mask 48 (by decide) x h0 h1
theorem and52 {x : Int} (h0 : 0 ≤ x) (h1 : x < 18446744073709551616) : Go.bits .and .u64 x 4503599627370495 = x % 4503599627370496 := mask 52 (by decide) x h0 h1

theorem nat_and_high (a : Nat) : a &&& 2047 * 2 ^ 52 = a / 2 ^ 52 % 2048 * 2 ^ 52 := by
  have e : a / 2 ^ 52 % 2048 = a / 2 ^ 52 &&& 2047 := (Nat.and_two_pow_sub_one_eq_mod (a / 2 ^ 52) 11).symm
  rw [e, ← Nat.shiftRight_eq_div_pow, ← Nat.shiftLeft_eq, ← Nat.shiftLeft_eq]
  apply Nat.eq_of_testBit_eq
  intro i
  simp only [Nat.testBit_and, Nat.testBit_shiftLeft, Nat.testBit_shiftRight]
  by_cases h : 52 ≤ i
  · simp [h, show 52 + (i - 52) = i by omega]
  · simp [h]
theorem and_exp {x : Int} (h0 : 0 ≤ x) (h1 : x < 18446744073709551616) : Go.bits .and .u64 x 9218868437227405312 = x / 4503599627370496 % 2048 * 4503599627370496 := by
  obtain ⟨a, rfl⟩ := Int.eq_ofNat_of_zero_le h0
  have h := u64_and_nat a 9218868437227405312 (by omega) (by decide)
  have e : a &&& 9218868437227405312 = a / 4503599627370496 % 2048 * 4503599627370496 := nat_and_high a
  rw [e] at h
  refine h.trans ?_
  omega

/-- high and low bits put together -/
theorem join (i : Nat) (x y : Int) (h0 : 0 ≤ x) (h1 : x % 2 ^ i = 0) (h2 : x < 18446744073709551616) (h3 : 0 ≤ y) (h4 : y < 2 ^ i) (h5 : y < 18446744073709551616) : Go.bits .or .u64 x y = x + y :=
  bits_join .u64 64 (by decide) wraps_u64 i x y h0 h1 (by omega) h3 h4 (by omega)

theorem nat_or3 {n lo c : Nat} (k : Nat) (h1 : lo < 2 ^ k) (h2 : c < 256) (h3 : k + 8 ≤ 40) : (2 ^ 40 * n + lo) ||| (2 ^ k * c) = 2 ^ 40 * n + (2 ^ k * c + lo) := by
  have e1 : 2 ^ k * c + lo < 2 ^ 40 := by
    have a1 : 2 ^ k * c + lo < 2 ^ k * 256 := by
      have : 2 ^ k * c ≤ 2 ^ k * 255 := Nat.mul_le_mul_left _ (by omega)
      omega
    have a2 : 2 ^ k * 256 ≤ 2 ^ 40 := by
      rw [show (256 : Nat) = 2 ^ 8 by decide, ← Nat.pow_add]; exact Nat.pow_le_pow_right (by omega) h3
    omega
  have e2 : lo < 2 ^ 40 := by omega
  rw [Nat.two_pow_add_eq_or_of_lt e2, Nat.or_assoc, Nat.or_comm lo, ← Nat.two_pow_add_eq_or_of_lt h1, Nat.two_pow_add_eq_or_of_lt e1]

theorem or3 {n lo c : Int} (k : Nat) (hn : 0 ≤ n) (hn2 : n < 256) (h0 : 0 ≤ lo) (h1 : lo < 2 ^ k) (hc : 0 ≤ c) (h2 : c < 256) (h3 : k + 8 ≤ 40) :
    Go.bits .or .u64 (n * 1099511627776 + lo) (c * 2 ^ k) = n * 1099511627776 + (c * 2 ^ k + lo) := by
  obtain ⟨n, rfl⟩ := Int.eq_ofNat_of_zero_le hn
  obtain ⟨lo, rfl⟩ := Int.eq_ofNat_of_zero_le h0
  obtain ⟨c, rfl⟩ := Int.eq_ofNat_of_zero_le hc
  have h1' : lo < 2 ^ k := by exact_mod_cast h1
  have hk : 2 ^ k ≤ 2 ^ 32 := Nat.pow_le_pow_right (by omega) (by omega)
  have hck : c * 2 ^ k ≤ 255 * 2 ^ 32 := Nat.mul_le_mul (by omega) hk
  have h := u64_or_nat (n * 1099511627776 + lo) (c * 2 ^ k) (by omega) (by omega)
  have e := nat_or3 (n := n) k h1' (show c < 256 by omega) h3
  rw [Nat.mul_comm (2 ^ k) c] at e
  have hp : (c : Int) * 2 ^ k = ((c * 2 ^ k : Nat) : Int) := by rw [Int.natCast_mul, Int.natCast_pow]; rfl
  rw [hp]
  generalize c * 2 ^ k = p at *
  have e2 : n * 1099511627776 + lo = 2 ^ 40 * n + lo := by omega
  rw [e2, e] at h
  have e3 : ((2 ^ 40 * n + lo : Nat) : Int) = (n : Int) * 1099511627776 + lo := by omega
  rw [e3] at h
  rw [h]
  omega

/-- a tagged word -/
theorem tagged {t l : Int} (h0 : 0 ≤ t) (h1 : t ≤ 7) (h2 : 0 ≤ l) (h3 : l < 281474976710656) :
    Go.bits .or .u64 (Go.bits .or .u64 18444492273895866368 (IntKind.u64.wrap (t * 281474976710656))) l = 18444492273895866368 + t * 281474976710656 + l := by
  rw [wrap_u64, show t * 281474976710656 % 18446744073709551616 = t * 281474976710656 by omega]
  rw [join 51 18444492273895866368 (t * 281474976710656) (by omega) (by decide) (by omega) (by omega) (by omega) (by omega)]
  exact join 48 _ l (by omega) (by omega) (by omega) h2 (by omega) (by omega)

theorem u64_range {a : Int} (h : (Lit.int .u64 a).wf = true) : 0 ≤ a ∧ a < 18446744073709551616 := by
  simp [Lit.wf, IntKind.min, IntKind.max, IntKind.bits, IntKind.signed] at h; omega
theorem i64_range {a : Int} (h : (Lit.int .i64 a).wf = true) : -9223372036854775808 ≤ a ∧ a ≤ 9223372036854775807 := by
  simp [Lit.wf, IntKind.min, IntKind.max, IntKind.bits, IntKind.signed] at h; omega

/-! ## Classes -/

def isNan (w : Int) : Prop := 18437736874454810624 < w * 2 % 18446744073709551616
instance (w : Int) : Decidable (isNan w) := inferInstanceAs (Decidable (_ < _))
/-- the load of a string: its length, and noughts behind its bytes -/
def txtOk (l : Int) : Prop := l / 1099511627776 = 0 ∧ l % 1099511627776 < 1 ∨ l / 1099511627776 = 1 ∧ l % 1099511627776 < 256 ∨ l / 1099511627776 = 2 ∧ l % 1099511627776 < 65536 ∨
  l / 1099511627776 = 3 ∧ l % 1099511627776 < 16777216 ∨ l / 1099511627776 = 4 ∧ l % 1099511627776 < 4294967296 ∨ l / 1099511627776 = 5
instance (l : Int) : Decidable (txtOk l) := inferInstanceAs (Decidable (_ ∨ _))

theorem txt_iff {l : Int} (h0 : 0 ≤ l) (h : l / 1099511627776 ≤ 5) : (shr .u64 (l % 1099511627776) (IntKind.u64.wrap (8 * (l / 1099511627776))) = 0) ↔ txtOk l := by
  have hq : l / 1099511627776 = 0 ∨ l / 1099511627776 = 1 ∨ l / 1099511627776 = 2 ∨ l / 1099511627776 = 3 ∨ l / 1099511627776 = 4 ∨ l / 1099511627776 = 5 := by omega
  unfold txtOk
  rcases hq with e | e | e | e | e | e
  · rw [e, show shr .u64 (l % 1099511627776) (IntKind.u64.wrap (8 * 0)) = l % 1099511627776 / 1 from rfl]; omega
  · rw [e, show shr .u64 (l % 1099511627776) (IntKind.u64.wrap (8 * 1)) = l % 1099511627776 / 256 from rfl]; omega
  · rw [e, show shr .u64 (l % 1099511627776) (IntKind.u64.wrap (8 * 2)) = l % 1099511627776 / 65536 from rfl]; omega
  · rw [e, show shr .u64 (l % 1099511627776) (IntKind.u64.wrap (8 * 3)) = l % 1099511627776 / 16777216 from rfl]; omega
  · rw [e, show shr .u64 (l % 1099511627776) (IntKind.u64.wrap (8 * 4)) = l % 1099511627776 / 4294967296 from rfl]; omega
  · rw [e, show shr .u64 (l % 1099511627776) (IntKind.u64.wrap (8 * 5)) = l % 1099511627776 / 1099511627776 from rfl]; omega

/-- 1.2 -/
def cls (w : Int) : Int :=
  if ¬ isNan w ∨ w = 9221120237041090560 then 1
  else if w / 281474976710656 = 65528 then (if w % 281474976710656 = 0 then 3 else if w % 281474976710656 ≤ 2 then 4 else 7)
  else if w / 281474976710656 = 65529 then 2
  else if w / 281474976710656 = 65530 then (if txtOk (w % 281474976710656) then 5 else 7)
  else if w / 281474976710656 = 65531 then 6 else 7

theorem cls_tagged {t l : Int} (h0 : 0 ≤ t) (h1 : t ≤ 7) (h2 : 0 ≤ l) (h3 : l < 281474976710656) :
    cls (18444492273895866368 + t * 281474976710656 + l) = if t = 0 then (if l = 0 then 3 else if l ≤ 2 then 4 else 7) else if t = 1 then 2 else if t = 2 then (if txtOk l then 5 else 7) else if t = 3 then 6 else 7 := by
  have e1 : (18444492273895866368 + t * 281474976710656 + l) / 281474976710656 = 65528 + t := by omega
  have e2 : (18444492273895866368 + t * 281474976710656 + l) % 281474976710656 = l := by omega
  have e3 : ¬ (¬ isNan (18444492273895866368 + t * 281474976710656 + l) ∨ 18444492273895866368 + t * 281474976710656 + l = 9221120237041090560) := by
    unfold isNan; omega
  unfold cls
  rw [if_neg e3, e1, e2]
  have a0 : (65528 + t = 65528) ↔ t = 0 := by omega
  have a1 : (65528 + t = 65529) ↔ t = 1 := by omega
  have a2 : (65528 + t = 65530) ↔ t = 2 := by omega
  have a3 : (65528 + t = 65531) ↔ t = 3 := by omega
  simp only [a0, a1, a2, a3]

theorem cls_cases {w : Int} (h0 : 0 ≤ w) (h1 : w < 18446744073709551616) :
    (cls w = 1 ∧ (¬ isNan w ∨ w = 9221120237041090560)) ∨ (cls w = 3 ∧ w = 18444492273895866368) ∨ (cls w = 4 ∧ (w = 18444492273895866369 ∨ w = 18444492273895866370)) ∨
    (cls w = 2 ∧ w / 281474976710656 = 65529) ∨ (cls w = 5 ∧ w / 281474976710656 = 65530 ∧ txtOk (w % 281474976710656)) ∨ (cls w = 6 ∧ w / 281474976710656 = 65531) ∨
    (cls w = 7 ∧ isNan w ∧ w ≠ 9221120237041090560 ∧ ¬ (18444492273895866368 ≤ w ∧ w ≤ 18444492273895866370) ∧ w / 281474976710656 ≠ 65529 ∧ w / 281474976710656 ≠ 65531 ∧ (w / 281474976710656 = 65530 → ¬ txtOk (w % 281474976710656))) := by
  unfold cls
  by_cases c1 : ¬ isNan w ∨ w = 9221120237041090560
  · rw [if_pos c1]; exact .inl ⟨rfl, c1⟩
  · rw [if_neg c1]
    have c2 : isNan w := by
      by_cases h : isNan w
      · exact h
      · exact absurd (.inl h) c1
    have c3 : w ≠ 9221120237041090560 := fun h => c1 (.inr h)
    by_cases c4 : w / 281474976710656 = 65528
    · rw [if_pos c4]
      by_cases c5 : w % 281474976710656 = 0
      · rw [if_pos c5]; exact .inr (.inl ⟨rfl, by omega⟩)
      · rw [if_neg c5]
        by_cases c6 : w % 281474976710656 ≤ 2
        · rw [if_pos c6]; exact .inr (.inr (.inl ⟨rfl, by omega⟩))
        · rw [if_neg c6]; exact .inr (.inr (.inr (.inr (.inr (.inr ⟨rfl, c2, c3, by omega, by omega, by omega, fun h => by omega⟩)))))
    · rw [if_neg c4]
      by_cases c5 : w / 281474976710656 = 65529
      · rw [if_pos c5]; exact .inr (.inr (.inr (.inl ⟨rfl, c5⟩)))
      · rw [if_neg c5]
        by_cases c6 : w / 281474976710656 = 65530
        · rw [if_pos c6]
          by_cases c7 : txtOk (w % 281474976710656)
          · rw [if_pos c7]; exact .inr (.inr (.inr (.inr (.inl ⟨rfl, c6, c7⟩))))
          · rw [if_neg c7]; exact .inr (.inr (.inr (.inr (.inr (.inr ⟨rfl, c2, c3, by omega, c5, by omega, fun _ => c7⟩)))))
        · rw [if_neg c6]
          by_cases c7 : w / 281474976710656 = 65531
          · rw [if_pos c7]; exact .inr (.inr (.inr (.inr (.inr (.inl ⟨rfl, c7⟩)))))
          · rw [if_neg c7]; exact .inr (.inr (.inr (.inr (.inr (.inr ⟨rfl, c2, c3, by omega, c5, c7, fun h => absurd h c6⟩)))))

/-! ## Texts -/

/-- the bytes below k, the first one lowest -/
def tsum (s : ByteArray) : Nat → Int
  | 0 => 0
  | k + 1 => bt s k * 2 ^ (8 * k) + tsum s k
theorem tsum_range (s : ByteArray) : ∀ k, 0 ≤ tsum s k ∧ tsum s k < 2 ^ (8 * k)
  | 0 => by simp [tsum]
  | k + 1 => by
    obtain ⟨h1, h2⟩ := tsum_range s k
    obtain ⟨b1, b2⟩ := bt_range s k
    have hp : (0 : Int) < 2 ^ (8 * k) := Int.pow_pos (by omega)
    unfold tsum
    rw [show 8 * (k + 1) = 8 * k + 8 by omega, Int.pow_add]
    constructor
    · have := Int.mul_nonneg b1 (Int.le_of_lt hp); omega
    · have : bt s k * 2 ^ (8 * k) ≤ 255 * 2 ^ (8 * k) := Int.mul_le_mul_of_nonneg_right b2 (Int.le_of_lt hp)
      generalize (2 : Int) ^ (8 * k) = p at *
      omega
theorem tsum_lt (s : ByteArray) {k : Nat} (h : k ≤ 5) : 0 ≤ tsum s k ∧ tsum s k < 1099511627776 := by
  have hr := tsum_range s k
  have hp : (2 : Int) ^ (8 * k) ≤ 2 ^ 40 := by exact_mod_cast Nat.pow_le_pow_right (by omega) (by omega)
  exact ⟨hr.1, Int.lt_of_lt_of_le hr.2 hp⟩
theorem byte_lt (s : ByteArray) {i : Nat} (h : i ≤ 4) : 0 ≤ bt s i * 2 ^ (8 * i) ∧ bt s i * 2 ^ (8 * i) ≤ 1095216660480 := by
  have hb := bt_range s i
  have hp : (2 : Int) ^ (8 * i) ≤ 2 ^ 32 := by exact_mod_cast Nat.pow_le_pow_right (by omega) (by omega)
  have hp0 : (0 : Int) < 2 ^ (8 * i) := Int.pow_pos (by omega)
  exact ⟨Int.mul_nonneg hb.1 (Int.le_of_lt hp0), Int.le_trans (Int.mul_le_mul_of_nonneg_right hb.2 (Int.le_of_lt hp0)) (Int.mul_le_mul_of_nonneg_left hp (by omega))⟩
theorem tsum_succ (s : ByteArray) (k : Nat) : tsum s (k + 1) = bt s k * 2 ^ (8 * k) + tsum s k := rfl
end Go.Proofs.Ytpoedalbgcpgjaa.Bits

/- Small numbers that follow one another have words that do; the word of a string of at most five bytes is told by its bytes and their number. For every number, and every string of at most 100 bytes (of longer ones the law asks nothing). -/
import Derived.Test.YtpoedalbgcpgjaaPWordRowsx2
import Derived.Test.YtpoedalbgcpgjaaLWordRows
namespace Go.Proofs.Ytpoedalbgcpgjaa.Pure
open Go.RowKit Go.Proofs.Ytpoedalbgcpgjaa.PWordRows Go.Proofs.YtpoedalbgcpgjaaW.PrintWords Go.Proofs.YtpoedalbgcpgjaaW.PrintLast Go.Proofs.YtpoedalbgcpgjaaW.PrintMore Go.Proofs.Ytpoedalbgcpgjaa.Bits

theorem tsum_byte (s : ByteArray) (n i : Nat) : ∀ k, k ≤ 5 → tsum s k / 2 ^ (8 * i) % 256 = if i < k then bt s i else 0
  | 0, _ => by simp [tsum]
  | k + 1, hk => by
    have ih := tsum_byte s n i k (by omega)
    have hb := bt_range s k
    have hr := tsum_range s k
    rw [tsum_succ]
    by_cases h : i < k
    · rw [if_pos h] at ih; rw [if_pos (by omega), ← ih]
      have e : bt s k * 2 ^ (8 * k) = bt s k * 2 ^ (8 * (k - i) - 8) * 256 * 2 ^ (8 * i) := by
        rw [Int.mul_assoc (bt s k * _), Int.mul_assoc (bt s k), show (256 : Int) = 2 ^ 8 by rfl, ← Int.pow_add, ← Int.pow_add]; congr 2; omega
      have hp : (2 : Int) ^ (8 * i) ≠ 0 := Int.ne_of_gt (Int.pow_pos (by omega))
      rw [e, Int.add_comm, Int.add_mul_ediv_right _ _ hp]
      omega
    · by_cases h2 : i = k
      · subst h2
        have hp : (2 : Int) ^ (8 * i) ≠ 0 := Int.ne_of_gt (Int.pow_pos (by omega))
        rw [if_pos (by omega), Int.add_comm, Int.add_mul_ediv_right _ _ hp, Int.ediv_eq_zero_of_lt hr.1 hr.2]
        omega
      · rw [if_neg (by omega)]
        have h3 := tsum_range s (k + 1)
        rw [tsum_succ] at h3
        have h4 : (2 : Int) ^ (8 * (k + 1)) ≤ 2 ^ (8 * i) := by exact_mod_cast Nat.pow_le_pow_right (by omega) (by omega)
        rw [Int.ediv_eq_zero_of_lt h3.1 (Int.lt_of_lt_of_le h3.2 h4)]; rfl

theorem word_byte (s : ByteArray) (hs : s.size ≤ 5) (i : Nat) (hi : i < 5) :
    (18445055223849287680 + s.size * 1099511627776 + tsum s s.size) / 2 ^ (8 * i) % 256 = if i < s.size then bt s i else 0 := by
  rw [← tsum_byte s 0 i s.size hs]
  have e : (18445055223849287680 + (s.size : Int) * 1099511627776) = (16775680 + s.size) * 2 ^ (32 - 8 * i) * 256 * 2 ^ (8 * i) := by
    rw [Int.mul_assoc, Int.mul_assoc, show (256 : Int) = 2 ^ 8 by rfl, ← Int.pow_add, ← Int.pow_add, show 32 - 8 * i + (8 + 8 * i) = 40 by omega]
    omega
  have hp : (2 : Int) ^ (8 * i) ≠ 0 := Int.ne_of_gt (Int.pow_pos (by omega))
  rw [e, Int.add_comm, Int.add_mul_ediv_right _ _ hp]
  omega

theorem rows_l {s : ByteArray} (hs : s.size ≤ 5) : ∀ (d k i : Nat), 5 - i = d → i ≤ 5 → d + 6 < k →
    casketlaw1_WordRows.l0 k s (18445055223849287680 + s.size * 1099511627776 + tsum s s.size) i = some true
  | 0, k, i, hd, hi, hk => by
    obtain ⟨k, rfl⟩ : ∃ m, k = m + 1 := ⟨k - 1, by omega⟩
    obtain rfl : i = 5 := by omega
    simp only [casketlaw1_WordRows.l0]
    rw [if_neg (by omega), awake_f k (by omega)]; rfl
  | d + 1, k, i, hd, hi, hk => by
    obtain ⟨k, rfl⟩ : ∃ m, k = m + 1 := ⟨k - 1, by omega⟩
    have hw : wrap64 (8 * (i : Int)) = ((8 * i : Nat) : Int) := by unfold wrap64; omega
    have hw2 : wrap64 ((i : Int) + 1) = ((i + 1 : Nat) : Int) := by unfold wrap64; omega
    have hb := word_byte s hs i (by omega)
    have hsh : ∀ x : Int, shr .u64 x ((8 * i : Nat) : Int) = x / 2 ^ (8 * i) := by
      intro x; unfold shr; rw [Int.toNat_natCast, Nat.min_eq_left (by show 8 * i ≤ 64; omega)]
    simp only [casketlaw1_WordRows.l0]
    rw [hw, hw2, hsh, hb, if_pos (by omega)]
    by_cases h : i < s.size
    · rw [if_pos (show (i : Int) < s.size by omega), if_pos (by omega), if_pos (by omega), if_pos h, if_pos rfl]
      exact rows_l hs d k (i + 1) (by omega) (by omega) (by omega)
    · rw [if_neg (show ¬ (i : Int) < s.size by omega), if_pos (by omega), if_neg h, if_pos rfl]
      exact rows_l hs d k (i + 1) (by omega) (by omega) (by omega)

theorem rows_j2 (s : ByteArray) : casketlaw1_WordRows.j2 20 s = some true := by
  simp only [casketlaw1_WordRows.j2]
  by_cases h5 : s.size ≤ 5
  · rw [fromText_f h5 (by omega)]
    have hr := tsum_lt s h5
    have hl := rows_l h5 5 19 0 (by omega) (by omega) (by omega)
    rw [show ((0 : Nat) : Int) = 0 from rfl] at hl
    simp only [Option.bind_some]
    rw [decide_eq_true (show (s.size : Int) ≤ 5 by omega)]
    rw [and255 (by omega) (by omega), wrap_u64, hl, if_neg (by decide), if_pos trivial]
    rw [if_pos (by omega)]
  · rw [fromText_long (by omega)]
    simp only [Option.bind_some]
    rw [decide_eq_false (show ¬ (s.size : Int) ≤ 5 by omega), awake_f 19 (by omega), if_neg (by decide), if_neg (by decide), if_pos trivial]
    rfl

theorem rows_j1 (i : Int) (s : ByteArray) : casketlaw1_WordRows.j1 21 i s (18444773748872577024 + i % 281474976710656) true = some true ∧ (i ≠ -1 → ∀ x b, casketlaw1_WordRows.j1 21 i s x b = some true) := by
  constructor
  · simp only [casketlaw1_WordRows.j1]
    rw [rows_j2]
    by_cases h : i = -1
    · subst h
      rw [if_pos rfl, fromInt_f (by omega) (by omega), if_pos (by omega)]
      simp only [Option.bind_some, wrap_u64]
      decide
    · rw [if_neg h]
  · intro h x b
    simp only [casketlaw1_WordRows.j1]
    rw [rows_j2, if_neg h]

theorem WordRows : casketlaw1_WordRows.Pure := by
  intro i s wi hs
  obtain ⟨i0, i1⟩ := i64_range wi
  refine ⟨22, ?_⟩
  unfold casketlaw1_WordRows.f
  by_cases hl : (s.size : Int) > 100
  · rw [if_pos hl]
  · rw [if_neg hl, fromInt_f i0 i1]
    -- where the number behind it is small, too
    have yes : (0 ≤ i ∧ i < 140737488355327 ∨ -140737488355328 ≤ i ∧ i < -1) → casketlaw1_WordRows.j0 22 i s (18444773748872577024 + i % 281474976710656) true true = some true := by
      intro h
      simp only [casketlaw1_WordRows.j0, if_true]
      rw [show wrap64 (i + 1) = i + 1 by unfold wrap64; omega, fromInt_f (by omega) (by omega), if_pos (by omega), wrap_u64]
      simp only [Option.bind_some, if_true]
      rw [if_pos (by omega)]
      exact (rows_j1 i s).1
    have no : ∀ x b, (i ≠ -1 ∨ x = 18444773748872577024 + i % 281474976710656 ∧ b = true) → casketlaw1_WordRows.j0 22 i s x b false = some true := by
      intro x b h
      simp only [casketlaw1_WordRows.j0, Bool.false_eq_true, if_false]
      rcases h with h | ⟨rfl, rfl⟩
      · exact (rows_j1 i s).2 h x b
      · exact (rows_j1 i s).1
    by_cases c : -140737488355328 ≤ i ∧ i < 140737488355328
    · rw [if_pos c]
      simp only [Option.bind_some]
      by_cases c1 : i ≥ 0
      · rw [if_pos c1]
        by_cases c2 : i < 140737488355327
        · rw [if_pos c2]; exact yes (by omega)
        · rw [if_neg c2, if_neg (by omega)]; exact no _ _ (by omega)
      · rw [if_neg c1]
        by_cases c2 : i < -1
        · rw [if_pos c2, decide_eq_true (by omega)]; exact yes (by omega)
        · rw [if_neg c2]; exact no _ _ (.inr ⟨rfl, rfl⟩)
    · rw [if_neg c]
      simp only [Option.bind_some]
      by_cases c1 : i ≥ 0
      · rw [if_pos c1, if_neg (by omega), if_neg (by omega)]; exact no _ _ (by omega)
      · rw [if_neg c1]
        by_cases c2 : i < -1
        · rw [if_pos c2, decide_eq_false (by omega)]; exact no _ _ (by omega)
        · omega
end Go.Proofs.Ytpoedalbgcpgjaa.Pure

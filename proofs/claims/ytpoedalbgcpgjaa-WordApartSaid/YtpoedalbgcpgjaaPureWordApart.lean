/- Unlike contents make unlike words: of any two whole numbers, two strings of at most 1000 bytes and two truths. No other condition. -/
import Derived.Test.YtpoedalbgcpgjaaPWordApartx2
import Derived.Test.YtpoedalbgcpgjaaLWordApart
import Derived.WideShapes
import Derived.Lib.IndexBytes
import Derived.Lib.RabinKarpLaws
namespace Go.Proofs.Ytpoedalbgcpgjaa.Pure
open Go.RowKit Go.Proofs.Ytpoedalbgcpgjaa.PWordApart Go.Proofs.YtpoedalbgcpgjaaW.PrintWords Go.Proofs.YtpoedalbgcpgjaaW.PrintLast Go.Proofs.YtpoedalbgcpgjaaW.PrintMore Go.Proofs.Ytpoedalbgcpgjaa.Bits

theorem tsum_inj (s t : ByteArray) : ∀ k, tsum s k = tsum t k → ∀ i, i < k → bt s i = bt t i
  | 0, _ => fun _ h => by omega
  | k + 1, h => fun i hi => by
    rw [tsum_succ, tsum_succ] at h
    have hs := tsum_range s k
    have ht := tsum_range t k
    have hp : (0 : Int) < 2 ^ (8 * k) := Int.pow_pos (by omega)
    have e1 : (bt s k * 2 ^ (8 * k) + tsum s k) / 2 ^ (8 * k) = bt s k := by
      rw [Int.add_comm, Int.add_mul_ediv_right _ _ (Int.ne_of_gt hp), Int.ediv_eq_zero_of_lt hs.1 hs.2]; omega
    have e2 : (bt t k * 2 ^ (8 * k) + tsum t k) / 2 ^ (8 * k) = bt t k := by
      rw [Int.add_comm, Int.add_mul_ediv_right _ _ (Int.ne_of_gt hp), Int.ediv_eq_zero_of_lt ht.1 ht.2]; omega
    have e3 : bt s k = bt t k := by rw [← e1, ← e2, h]
    by_cases hk : i = k
    · subst hk; exact e3
    · rw [e3] at h
      exact tsum_inj s t k (by omega) i (by omega)

theorem bytes_of {s t : ByteArray} (hn : s.size = t.size) (h : ∀ i : Nat, i < s.size → bt s i = bt t i) : s = t := by
  apply Go.WideShapes.bytes_inj
  refine List.ext_getElem (by rw [data_length, data_length, hn]) fun i h1 h2 => ?_
  rw [data_length] at h1 h2
  have := h i h1
  unfold bt at this
  rw [dif_pos (by simpa using h1), dif_pos (by simpa using h2)] at this
  have h3 : s[i].toNat = t[i].toNat := by
    simp only [Int.toNat_natCast] at this
    omega
  exact UInt8.toNat_inj.1 h3

theorem word_inj {s t : ByteArray} (hs : s.size ≤ 5) (ht : t.size ≤ 5)
    (h : (18445055223849287680 + s.size * 1099511627776 + tsum s s.size : Int) = 18445055223849287680 + t.size * 1099511627776 + tsum t t.size) : s = t := by
  have h1 := tsum_lt s hs
  have h2 := tsum_lt t ht
  have hn : s.size = t.size := by omega
  refine bytes_of hn (tsum_inj s t s.size ?_)
  rw [hn] at h ⊢
  omega

theorem text_same {s t : ByteArray} (hs : s.size ≤ 5) (ht : t.size ≤ 5) :
    (((18445055223849287680 + s.size * 1099511627776 + tsum s s.size : Int) == 18445055223849287680 + t.size * 1099511627776 + tsum t t.size) != (s.toList == t.toList)) = false := by
  by_cases h : s = t
  · subst h; simp
  · have h1 : ¬ (18445055223849287680 + s.size * 1099511627776 + tsum s s.size : Int) = 18445055223849287680 + t.size * 1099511627776 + tsum t t.size := fun e => h (word_inj hs ht e)
    have h2 : ¬ s.toList = t.toList := fun e => h (Go.WideShapes.bytes_inj (by rw [← ByteArray.toList_eq, ← ByteArray.toList_eq]; exact e))
    rw [beq_eq_false_iff_ne.2 h1, beq_eq_false_iff_ne.2 h2]; rfl

theorem fromFloat_tagged {t l : Int} (h0 : 0 ≤ t) (h1 : t ≤ 7) (h2 : 0 ≤ l) (h3 : l < 281474976710656) : word_FromFloat.f (18444492273895866368 + t * 281474976710656 + l) = some 9221120237041090560 := by
  unfold word_FromFloat.f
  rw [nan_f, decide_eq_true (by unfold isNan; omega)]; rfl

theorem fromBool_f (b : Bool) : word_FromBool.f b = some (if b then 18444492273895866370 else 18444492273895866369) := by cases b <;> decide +kernel

theorem apart_l0_end (k : Nat) (x y : Bool) (l : List Int) (i : Int) (h : (l.length : Int) ≤ i) : casketlaw1_WordApart.l0 (k + 7) x y l i = some true := by
  simp only [casketlaw1_WordApart.l0]
  rw [if_neg (by omega), fromBool_f, fromBool_f, awake_f (k + 6) (by omega)]
  cases x <;> cases y <;> decide

/-- a word of the list: it is a tagged one, and no double -/
def Good (w : Int) : Prop := ∃ t l : Int, 0 ≤ t ∧ t ≤ 7 ∧ 0 ≤ l ∧ l < 281474976710656 ∧ w = 18444492273895866368 + t * 281474976710656 + l ∧ cls w ≠ 1

theorem apart_l1 (x y : Bool) (l : List Int) (i : Nat) (hi : i < l.length) (hl : l.length ≤ 4) (hg : Good (rd l i)) (hd : ∀ j : Nat, j < i → rd l i ≠ rd l j) (K : Nat) (hnext : ∀ k, K ≤ k → casketlaw1_WordApart.l0 k x y l ((i + 1 : Nat) : Int) = some true) :
    ∀ (d j k : Nat), i - j = d → j ≤ i → K + d < k → 1 + d < k → casketlaw1_WordApart.l1 k x y l i j = some true
  | 0, j, k, hd', hj, hk, hk1 => by
    obtain rfl : j = i := by omega
    obtain ⟨t, n, h0, h1, h2, h3, hw, hc⟩ := hg
    obtain ⟨k, rfl⟩ : ∃ m, k = m + 1 := ⟨k - 1, by omega⟩
    simp only [casketlaw1_WordApart.l1]
    rw [if_neg (by omega), if_pos (by omega), if_pos (by omega)]
    have hn := hnext k (by omega)
    have hcl : word_Class.f k (rd l j) = some (cls (rd l j)) := by
      obtain ⟨m, rfl⟩ : ∃ m, k = m + 1 := ⟨k - 1, by omega⟩
      exact class_f m (by omega) (by omega)
    rw [hcl]
    simp only [Option.bind_some]
    rw [if_neg hc, hw, fromFloat_tagged h0 h1 h2 h3]
    simp only [Option.bind_some, if_true]
    rw [show wrap64 ((j : Int) + 1) = ((j + 1 : Nat) : Int) by unfold wrap64; omega]
    exact hn
  | d + 1, j, k, hd', hj, hk, hk1 => by
    obtain ⟨k, rfl⟩ : ∃ m, k = m + 1 := ⟨k - 1, by omega⟩
    have ih := apart_l1 x y l i hi hl hg hd K hnext d (j + 1) k (by omega) (by omega) (by omega) (by omega)
    simp only [casketlaw1_WordApart.l1]
    rw [if_pos (by omega), if_pos (by omega), if_pos (by omega), if_pos (by omega), if_pos (by omega), if_neg (hd j (by omega))]
    rw [show wrap64 ((j : Int) + 1) = ((j + 1 : Nat) : Int) by unfold wrap64; omega]
    exact ih

theorem apart_l0 (x y : Bool) (l : List Int) (hl : l.length ≤ 4) (hg : ∀ i : Nat, i < l.length → Good (rd l i)) (hd : ∀ i j : Nat, i < l.length → j < i → rd l i ≠ rd l j) :
    ∀ (d i k : Nat), l.length - i = d → i ≤ l.length → 7 + d * 6 < k → casketlaw1_WordApart.l0 k x y l i = some true
  | 0, i, k, h, _, hk => by
    obtain ⟨k, rfl⟩ : ∃ m, k = m + 7 := ⟨k - 7, by omega⟩
    exact apart_l0_end k x y l i (by omega)
  | d + 1, i, k, h, hi, hk => by
    have h1 := apart_l1 x y l i (by omega) hl (hg i (by omega)) (fun j hj => hd i j (by omega) hj) (8 + d * 6) (fun k hk => apart_l0 x y l hl hg hd d (i + 1) k (by omega) (by omega) (by omega)) i 0 (k - 1) (by omega) (by omega) (by omega) (by omega)
    obtain ⟨k, rfl⟩ : ∃ m, k = m + 1 := ⟨k - 1, by omega⟩
    rw [Nat.add_sub_cancel] at h1
    simp only [casketlaw1_WordApart.l0]
    rw [if_pos (by omega)]
    exact h1

theorem apart_j4 (x y : Bool) (l : List Int) (hl : l.length ≤ 4) (hg : ∀ i : Nat, i < l.length → Good (rd l i)) (hd : ∀ i j : Nat, i < l.length → j < i → rd l i ≠ rd l j) :
    casketlaw1_WordApart.j4 40 x y l = some true := by
  have h := apart_l0 x y l hl hg hd l.length 0 39 (by omega) (by omega) (by omega)
  simp only [casketlaw1_WordApart.j4]
  exact h

/-- words that grow, all of them tagged -/
def Row (l : List Int) : Prop := l.length ≤ 4 ∧ (∀ w, w ∈ l → Good w) ∧ l.Pairwise (· < ·)
theorem Row.snoc {l : List Int} {w : Int} (h : Row l) (hl : l.length ≤ 3) (hw : Good w) (hlt : ∀ v, v ∈ l → v < w) : Row (l ++ [w]) := by
  obtain ⟨h1, h2, h3⟩ := h
  refine ⟨by simp; omega, ?_, ?_⟩
  · intro v hv
    rcases List.mem_append.1 hv with hv | hv
    · exact h2 v hv
    · obtain rfl : v = w := by simpa using hv
      exact hw
  · rw [List.pairwise_append]
    exact ⟨h3, by simp, fun a ha b hb => by obtain rfl : b = w := by simpa using hb
                                            exact hlt a ha⟩
theorem rd_mem {l : List Int} {i : Nat} (h : i < l.length) : rd l i = l[i] := by
  unfold rd; rw [Int.toNat_natCast, List.getD, List.getElem?_eq_getElem h, Option.getD_some]

theorem row_j4 (x y : Bool) {l : List Int} (h : Row l) : casketlaw1_WordApart.j4 40 x y l = some true := by
  obtain ⟨h1, h2, h3⟩ := h
  refine apart_j4 x y l h1 ?_ ?_
  · intro i hi; rw [rd_mem hi]; exact h2 _ (List.getElem_mem hi)
  · intro i j hi hj
    rw [rd_mem hi, rd_mem (show j < l.length by omega)]
    have := List.pairwise_iff_getElem.1 h3 j i (by omega) hi hj
    omega

theorem row_j3 (x y : Bool) (u : Int) (three : Bool) {l : List Int} (h : Row l) (hl : l.length ≤ 3) (hu : three = true → Good u ∧ ∀ v, v ∈ l → v < u) : casketlaw1_WordApart.j3 41 x y u three l = some true := by
  simp only [casketlaw1_WordApart.j3]
  cases three with
  | true =>
    obtain ⟨g, hlt⟩ := hu rfl
    simp only [if_true]
    rw [if_pos (by omega)]
    exact row_j4 x y (h.snoc hl g hlt)
  | false =>
    simp only [Bool.false_eq_true, if_false]
    exact row_j4 x y h

theorem good_of {t l : Int} (h0 : 0 ≤ t) (h1 : t ≤ 3) (h2 : 0 ≤ l) (h3 : l < 281474976710656) (hc : cls (18444492273895866368 + t * 281474976710656 + l) ≠ 1) : Good (18444492273895866368 + t * 281474976710656 + l) :=
  ⟨t, l, h0, by omega, h2, h3, rfl, hc⟩

theorem good_plain {l : Int} (h0 : 0 ≤ l) (h1 : l ≤ 2) : Good (18444492273895866368 + l) := by
  have := good_of (t := 0) (l := l) (by omega) (by omega) h0 (by omega) (by
    rw [cls_tagged (by omega) (by omega) h0 (by omega), if_pos rfl, if_pos h1]; split <;> decide)
  rw [Int.zero_mul, Int.add_zero] at this; exact this
theorem good_int {l : Int} (h0 : 0 ≤ l) (h1 : l < 281474976710656) : Good (18444773748872577024 + l) := by
  have := good_of (t := 1) (l := l) (by omega) (by omega) h0 h1 (by
    rw [cls_tagged (by omega) (by omega) h0 (by omega), if_neg (by decide), if_pos rfl]; decide)
  rw [Int.one_mul] at this; exact this
theorem good_text (s : ByteArray) (hs : s.size ≤ 5) : Good (18445055223849287680 + s.size * 1099511627776 + tsum s s.size) := by
  have hr := tsum_lt s hs
  have hr2 := tsum_range s s.size
  have ht : txtOk (s.size * 1099511627776 + tsum s s.size) := by
    have e1 : (s.size * 1099511627776 + tsum s s.size) / 1099511627776 = s.size := by omega
    have e2 : (s.size * 1099511627776 + tsum s s.size) % 1099511627776 = tsum s s.size := by omega
    unfold txtOk; rw [e1, e2]
    have h5 : s.size = 0 ∨ s.size = 1 ∨ s.size = 2 ∨ s.size = 3 ∨ s.size = 4 ∨ s.size = 5 := by omega
    rcases h5 with h | h | h | h | h | h <;> rw [h] at hr2 ⊢ <;> omega
  have := good_of (t := 2) (l := s.size * 1099511627776 + tsum s s.size) (by omega) (by omega) (by omega) (by omega) (by
    rw [cls_tagged (by omega) (by omega) (by omega) (by omega), if_neg (by decide), if_neg (by decide), if_pos rfl, if_pos ht]; decide)
  rw [show (18444492273895866368 + 2 * 281474976710656 + (s.size * 1099511627776 + tsum s s.size) : Int) = 18445055223849287680 + s.size * 1099511627776 + tsum s s.size by omega] at this
  exact this

theorem row_two (b : Bool) : Row [18444492273895866368, if b then 18444492273895866370 else 18444492273895866369] := by
  have g0 := good_plain (l := 0) (by omega) (by omega)
  have g1 := good_plain (l := 1) (by omega) (by omega)
  have g2 := good_plain (l := 2) (by omega) (by omega)
  have w0 : Row [18444492273895866368] := ⟨by simp, by intro w hw; obtain rfl : w = 18444492273895866368 := by simpa using hw
                                                       exact g0, by simp⟩
  cases b
  · exact w0.snoc (by simp) g1 (by simp)
  · exact w0.snoc (by simp) g2 (by simp)

theorem row_j2 (x y one three : Bool) (p : Int) (s : ByteArray) (u : Int) (hp : one = true → ∃ l, 0 ≤ l ∧ l < 281474976710656 ∧ p = 18444773748872577024 + l) (hu : three = true → s.size ≤ 5 ∧ u = 18445055223849287680 + s.size * 1099511627776 + tsum s s.size) :
    casketlaw1_WordApart.j2 42 x y p one u three false = some true := by
  have hn : word_FromNil.f = some 18444492273895866368 := by decide +kernel
  have h2 := row_two x
  have hb : ∀ v, v ∈ ([18444492273895866368, if x then 18444492273895866370 else 18444492273895866369] : List Int) → v ≤ 18444492273895866370 := by
    intro v hv
    cases x <;> simp at hv <;> omega
  simp only [casketlaw1_WordApart.j2, Bool.false_eq_true, if_false]
  rw [hn, fromBool_f]
  simp only [Option.bind_some]
  have hug : three = true → Good u ∧ 18445055223849287680 ≤ u := by
    intro h3
    obtain ⟨hs, rfl⟩ := hu h3
    have := tsum_lt s hs
    exact ⟨good_text s hs, by omega⟩
  cases one with
  | true =>
    obtain ⟨l, l0, l1, rfl⟩ := hp rfl
    simp only [if_true]
    rw [if_pos (by simp)]
    refine row_j3 x y u three (h2.snoc (by simp) (good_int l0 l1) ?_) (by simp) ?_
    · intro v hv; have := hb v hv; omega
    · intro h3
      obtain ⟨g, hge⟩ := hug h3
      refine ⟨g, fun v hv => ?_⟩
      rcases List.mem_append.1 hv with hv | hv
      · have := hb v hv; omega
      · obtain rfl : v = 18444773748872577024 + l := by simpa using hv
        omega
  | false =>
    simp only [Bool.false_eq_true, if_false]
    refine row_j3 x y u three h2 (by simp) ?_
    intro h3
    obtain ⟨g, hge⟩ := hug h3
    exact ⟨g, fun v hv => by have := hb v hv; omega⟩

theorem row_j1 (x y one : Bool) (p : Int) (s t : ByteArray) (hp : one = true → ∃ l, 0 ≤ l ∧ l < 281474976710656 ∧ p = 18444773748872577024 + l) : casketlaw1_WordApart.j1 43 s t x y p one false = some true := by
  simp only [casketlaw1_WordApart.j1, Bool.false_eq_true, if_false]
  have ht : ∀ r : ByteArray, ∃ b v, word_FromText.f 42 r = some (v, b) ∧ (b = true → r.size ≤ 5 ∧ v = 18445055223849287680 + r.size * 1099511627776 + tsum r r.size) := by
    intro r
    by_cases h : r.size ≤ 5
    · exact ⟨true, _, fromText_f h (by omega), fun _ => ⟨h, rfl⟩⟩
    · exact ⟨false, _, fromText_long (by omega) 42, fun e => by cases e⟩
  obtain ⟨b, u, e1, h1⟩ := ht s
  obtain ⟨c, v, e2, h2⟩ := ht t
  rw [e1, e2]
  simp only [Option.bind_some]
  have hfin := row_j2 x y one b p s u hp h1
  cases b with
  | true =>
    cases c with
    | true =>
      obtain ⟨hs, rfl⟩ := h1 rfl
      obtain ⟨ht, rfl⟩ := h2 rfl
      simp only [if_true]
      rw [text_same hs ht]; exact hfin
    | false => simp only [Bool.false_eq_true, if_true, if_false]; exact hfin
  | false => simp only [Bool.false_eq_true, if_false]; exact hfin

theorem WordApart : casketlaw1_WordApart.Pure := by
  intro a b s t x y wa wb _ _
  obtain ⟨a0, a1⟩ := i64_range wa
  obtain ⟨b0, b1⟩ := i64_range wb
  refine ⟨44, ?_⟩
  have key : casketlaw1_WordApart.j0 44 a b s t x y false = some true := by
    simp only [casketlaw1_WordApart.j0, Bool.false_eq_true, if_false]
    rw [fromInt_f a0 a1, fromInt_f b0 b1]
    by_cases ha : -140737488355328 ≤ a ∧ a < 140737488355328
    · rw [if_pos ha]
      have hp : true = true → ∃ l, 0 ≤ l ∧ l < 281474976710656 ∧ 18444773748872577024 + a % 281474976710656 = 18444773748872577024 + l := fun _ => ⟨_, by omega, by omega, rfl⟩
      by_cases hb : -140737488355328 ≤ b ∧ b < 140737488355328
      · rw [if_pos hb]
        simp only [Option.bind_some, if_true]
        have e : (((18444773748872577024 + a % 281474976710656 : Int) == 18444773748872577024 + b % 281474976710656) != (a == b)) = false := by
          by_cases h : a = b
          · subst h; simp
          · have h1 : ¬ (18444773748872577024 + a % 281474976710656 : Int) = 18444773748872577024 + b % 281474976710656 := by omega
            rw [beq_eq_false_iff_ne.2 h1, beq_eq_false_iff_ne.2 h]; rfl
        rw [e]
        exact row_j1 x y true _ s t hp
      · rw [if_neg hb]
        simp only [Option.bind_some, if_true, Bool.false_eq_true, if_false]
        exact row_j1 x y true _ s t hp
    · rw [if_neg ha]
      simp only [Option.bind_some, Bool.false_eq_true, if_false]
      have hp : false = true → ∃ l, 0 ≤ l ∧ l < 281474976710656 ∧ (0 : Int) = 18444773748872577024 + l := fun h => by cases h
      by_cases hb : -140737488355328 ≤ b ∧ b < 140737488355328
      · rw [if_pos hb]
        simp only [Option.bind_some]
        exact row_j1 x y false _ s t hp
      · rw [if_neg hb]
        simp only [Option.bind_some]
        exact row_j1 x y false _ s t hp
  have long : casketlaw1_WordApart.j0 44 a b s t x y true = some true := by
    simp only [casketlaw1_WordApart.j0, if_true]
  unfold casketlaw1_WordApart.f
  by_cases h1 : (s.size : Int) > 1000
  · rw [if_pos h1, long]
  · rw [if_neg h1]
    by_cases h2 : (t.size : Int) > 1000
    · rw [decide_eq_true h2, long]
    · rw [decide_eq_false h2, key]
end Go.Proofs.Ytpoedalbgcpgjaa.Pure

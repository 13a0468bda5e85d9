/- What was put in a word comes out; every word that is of a class is what its content makes. For every input; no condition. -/
import Derived.Test.YtpoedalbgcpgjaaWordClasses
import Derived.Test.YtpoedalbgcpgjaaLWordBack
import Derived.Test.YtpoedalbgcpgjaaBackWalk
namespace Go.Proofs.Ytpoedalbgcpgjaa
open Go.RowKit Go.Proofs.YtpoedalbgcpgjaaW.PrintWords Go.Proofs.YtpoedalbgcpgjaaW.PrintLast Go.Proofs.YtpoedalbgcpgjaaW.PrintMore Go.Proofs.Ytpoedalbgcpgjaa.Bits
set_option linter.unusedVariables false
set_option linter.unusedSimpArgs false

theorem wb_bytes {s t : ByteArray} (hn : s.size = t.size) (h : ∀ i : Nat, i < s.size → bt s i = bt t i) : s = t := by
  apply Go.WideShapes.bytes_inj
  refine List.ext_getElem (by rw [data_length, data_length, hn]) fun i h1 h2 => ?_
  rw [data_length] at h1 h2
  have := h i h1
  unfold bt at this
  rw [dif_pos (by simpa using h1), dif_pos (by simpa using h2)] at this
  have h3 : s[i].toNat = t[i].toNat := by
    simp only [Int.toNat_natCast] at this
    omega
  exact UInt8.toNat_inj.1 h3
theorem wb_tsum (s : ByteArray) (i : Nat) : ∀ k, k ≤ 5 → tsum s k / 2 ^ (8 * i) % 256 = if i < k then bt s i else 0
  | 0, _ => by simp [tsum]
  | k + 1, hk => by
    have ih := wb_tsum s i k (by omega)
    have hb := bt_range s k
    have hr := tsum_range s k
    rw [tsum_succ]
    by_cases h : i < k
    · rw [if_pos h] at ih; rw [if_pos (by omega), ← ih]
      have e : bt s k * 2 ^ (8 * k) = bt s k * 2 ^ (8 * (k - i) - 8) * 256 * 2 ^ (8 * i) := by
        rw [Int.mul_assoc (bt s k * _), Int.mul_assoc (bt s k), show (256 : Int) = 2 ^ 8 by rfl, ← Int.pow_add, ← Int.pow_add]; congr 2; omega
      have hp : (2 : Int) ^ (8 * i) ≠ 0 := Int.ne_of_gt (Int.pow_pos (by omega))
      rw [e, Int.add_comm, Int.add_mul_ediv_right _ _ hp]
      omega
    · by_cases h2 : i = k
      · subst h2
        have hp : (2 : Int) ^ (8 * i) ≠ 0 := Int.ne_of_gt (Int.pow_pos (by omega))
        rw [if_pos (by omega), Int.add_comm, Int.add_mul_ediv_right _ _ hp, Int.ediv_eq_zero_of_lt hr.1 hr.2]
        omega
      · rw [if_neg (by omega)]
        have h3 := tsum_range s (k + 1)
        rw [tsum_succ] at h3
        have h4 : (2 : Int) ^ (8 * (k + 1)) ≤ 2 ^ (8 * i) := by exact_mod_cast Nat.pow_le_pow_right (by omega) (by omega)
        rw [Int.ediv_eq_zero_of_lt h3.1 (Int.lt_of_lt_of_le h3.2 h4)]; rfl
theorem wb_byte (s : ByteArray) (hs : s.size ≤ 5) (i : Nat) (hi : i < 5) :
    (18445055223849287680 + s.size * 1099511627776 + tsum s s.size) / 2 ^ (8 * i) % 256 = if i < s.size then bt s i else 0 := by
  rw [← wb_tsum s i s.size hs]
  have e : (18445055223849287680 + (s.size : Int) * 1099511627776) = (16775680 + s.size) * 2 ^ (32 - 8 * i) * 256 * 2 ^ (8 * i) := by
    rw [Int.mul_assoc, Int.mul_assoc, show (256 : Int) = 2 ^ 8 by rfl, ← Int.pow_add, ← Int.pow_add, show 32 - 8 * i + (8 + 8 * i) = 40 by omega]
    omega
  have hp : (2 : Int) ^ (8 * i) ≠ 0 := Int.ne_of_gt (Int.pow_pos (by omega))
  rw [e, Int.add_comm, Int.add_mul_ediv_right _ _ hp]
  omega
theorem strB_size (xs : List Int) : (strB xs).size = xs.length := by simp [strB, ByteArray.size]
theorem bt_strB (xs : List Int) (j : Nat) (x : Int) (hx : xs[j]? = some x) (h : 0 ≤ x ∧ x ≤ 255) : bt (strB xs) j = x := by
  have hj : j < xs.length := (List.getElem?_eq_some_iff.1 hx).1
  have hv : xs[j] = x := (List.getElem?_eq_some_iff.1 hx).2
  unfold bt
  rw [dif_pos (by rw [strB_size]; simpa using hj)]
  have : ((strB xs)[(j : Int).toNat]'(by rw [strB_size]; simpa using hj)) = UInt8.ofNat x.toNat := by
    simp [strB, ByteArray.getElem_eq_getElem_data, hv]
  rw [this]
  simp
  omega
theorem txt_back (s : ByteArray) (hs : s.size ≤ 5) : tvV (18445055223849287680 + s.size * 1099511627776 + tsum s s.size) = (s, true) ∧ cls (18445055223849287680 + s.size * 1099511627776 + tsum s s.size) = 5 := by
  have hr := tsum_lt s hs
  have hn : s.size = 0 ∨ s.size = 1 ∨ s.size = 2 ∨ s.size = 3 ∨ s.size = 4 ∨ s.size = 5 := by omega
  have hok : txtOk ((s.size : Int) * 1099511627776 + tsum s s.size) := by
    have hq := tsum_range s s.size
    unfold txtOk
    rcases hn with e | e | e | e | e | e <;> rw [e] at hq ⊢ <;> omega
  have hc : cls (18445055223849287680 + s.size * 1099511627776 + tsum s s.size) = 5 := by
    have := cls_tagged (t := 2) (l := (s.size : Int) * 1099511627776 + tsum s s.size) (by decide) (by decide) (by omega) (by omega)
    rw [if_neg (by decide), if_neg (by decide), if_pos rfl, if_pos hok] at this
    rw [← this]; congr 1; omega
  refine ⟨?_, hc⟩
  unfold tvV
  rw [if_pos hc]
  have b := wb_byte s hs
  have b0 := b 0 (by decide)
  have b1 := b 1 (by decide)
  have b2 := b 2 (by decide)
  have b3 := b 3 (by decide)
  have b4 := b 4 (by decide)
  clear b
  have el : (18445055223849287680 + (s.size : Int) * 1099511627776 + tsum s s.size) % 281474976710656 / 1099511627776 = s.size := by omega
  rw [el]
  generalize hY : (18445055223849287680 + (s.size : Int) * 1099511627776 + tsum s s.size) = Y at b0 b1 b2 b3 b4 ⊢
  have r := bt_range s
  have c0 : Y % 256 = Y / 2 ^ (8 * 0) % 256 := by omega
  have c1 : Y / 256 % 256 = Y / 2 ^ (8 * 1) % 256 := by omega
  have c2 : Y / 65536 % 256 = Y / 2 ^ (8 * 2) % 256 := by omega
  have c3 : Y / 16777216 % 256 = Y / 2 ^ (8 * 3) % 256 := by omega
  have c4 : Y / 4294967296 % 256 = Y / 2 ^ (8 * 4) % 256 := by omega
  rw [b0] at c0
  rw [b1] at c1
  rw [b2] at c2
  rw [b3] at c3
  rw [b4] at c4
  unfold txtV
  rw [c0, c1, c2, c3, c4]
  congr 1
  rcases hn with e | e | e | e | e | e
  · rw [if_pos (by omega)]
    exact wb_bytes (by rw [strB_size, e]; rfl) (fun i hi => by rw [strB_size] at hi; exact absurd hi (by simp))
  · rw [if_neg (by omega), if_pos (by omega), e, if_pos (by decide)]
    refine wb_bytes (by rw [strB_size, e]; rfl) (fun i hi => ?_)
    rw [strB_size] at hi
    simp at hi
    subst hi
    exact bt_strB _ 0 _ rfl (r _)
  · rw [if_neg (by omega), if_neg (by omega), if_pos (by omega), e, if_pos (by decide), if_pos (by decide)]
    refine wb_bytes (by rw [strB_size, e]; rfl) (fun i hi => ?_)
    rw [strB_size] at hi
    simp at hi
    have : i = 0 ∨ i = 1 := by omega
    rcases this with rfl | rfl <;> exact bt_strB _ _ _ rfl (r _)
  · rw [if_neg (by omega), if_neg (by omega), if_neg (by omega), if_pos (by omega), e, if_pos (by decide), if_pos (by decide), if_pos (by decide)]
    refine wb_bytes (by rw [strB_size, e]; rfl) (fun i hi => ?_)
    rw [strB_size] at hi
    simp at hi
    have : i = 0 ∨ i = 1 ∨ i = 2 := by omega
    rcases this with rfl | rfl | rfl <;> exact bt_strB _ _ _ rfl (r _)
  · rw [if_neg (by omega), if_neg (by omega), if_neg (by omega), if_neg (by omega), if_pos (by omega), e, if_pos (by decide), if_pos (by decide), if_pos (by decide), if_pos (by decide)]
    refine wb_bytes (by rw [strB_size, e]; rfl) (fun i hi => ?_)
    rw [strB_size] at hi
    simp at hi
    have : i = 0 ∨ i = 1 ∨ i = 2 ∨ i = 3 := by omega
    rcases this with rfl | rfl | rfl | rfl <;> exact bt_strB _ _ _ rfl (r _)
  · rw [if_neg (by omega), if_neg (by omega), if_neg (by omega), if_neg (by omega), if_neg (by omega), e, if_pos (by decide), if_pos (by decide), if_pos (by decide), if_pos (by decide), if_pos (by decide)]
    refine wb_bytes (by rw [strB_size, e]; rfl) (fun i hi => ?_)
    rw [strB_size] at hi
    simp at hi
    have : i = 0 ∨ i = 1 ∨ i = 2 ∨ i = 3 ∨ i = 4 := by omega
    rcases this with rfl | rfl | rfl | rfl | rfl <;> exact bt_strB _ _ _ rfl (r _)
theorem txt_forth {a : Int} (h0 : 0 ≤ a) (q : a / 281474976710656 = 65530) (ok : txtOk (a % 281474976710656)) :
    (txtV a (a % 281474976710656 / 1099511627776)).size ≤ 5 ∧ 18445055223849287680 + ((txtV a (a % 281474976710656 / 1099511627776)).size : Int) * 1099511627776 + tsum (txtV a (a % 281474976710656 / 1099511627776)) (txtV a (a % 281474976710656 / 1099511627776)).size = a := by
  have k0 : 0 ≤ a % 256 ∧ a % 256 ≤ 255 := by omega
  have k1 : 0 ≤ a / 256 % 256 ∧ a / 256 % 256 ≤ 255 := by omega
  have k2 : 0 ≤ a / 65536 % 256 ∧ a / 65536 % 256 ≤ 255 := by omega
  have k3 : 0 ≤ a / 16777216 % 256 ∧ a / 16777216 % 256 ≤ 255 := by omega
  have k4 : 0 ≤ a / 4294967296 % 256 ∧ a / 4294967296 % 256 ≤ 255 := by omega
  unfold txtOk at ok
  unfold txtV
  rcases ok with ⟨e, lo⟩ | ⟨e, lo⟩ | ⟨e, lo⟩ | ⟨e, lo⟩ | ⟨e, lo⟩ | e <;> rw [e]
  · rw [if_pos rfl, strB_size]
    refine ⟨by simp, ?_⟩
    simp only [List.length_nil, tsum]; omega
  · rw [if_neg (by decide), if_pos rfl, strB_size]
    refine ⟨by simp, ?_⟩
    have t0 := bt_strB [a % 256] 0 _ rfl k0
    simp only [List.length_cons, List.length_nil, tsum, t0]; omega
  · rw [if_neg (by decide), if_neg (by decide), if_pos rfl, strB_size]
    refine ⟨by simp, ?_⟩
    have t0 := bt_strB [a % 256, a / 256 % 256] 0 _ rfl k0
    have t1 := bt_strB [a % 256, a / 256 % 256] 1 _ rfl k1
    simp only [List.length_cons, List.length_nil, tsum, Nat.zero_add, t0, t1]; omega
  · rw [if_neg (by decide), if_neg (by decide), if_neg (by decide), if_pos rfl, strB_size]
    refine ⟨by simp, ?_⟩
    have t0 := bt_strB [a % 256, a / 256 % 256, a / 65536 % 256] 0 _ rfl k0
    have t1 := bt_strB [a % 256, a / 256 % 256, a / 65536 % 256] 1 _ rfl k1
    have t2 := bt_strB [a % 256, a / 256 % 256, a / 65536 % 256] 2 _ rfl k2
    simp only [List.length_cons, List.length_nil, tsum, Nat.zero_add, Nat.reduceAdd, t0, t1, t2]; omega
  · rw [if_neg (by decide), if_neg (by decide), if_neg (by decide), if_neg (by decide), if_pos rfl, strB_size]
    refine ⟨by simp, ?_⟩
    have t0 := bt_strB [a % 256, a / 256 % 256, a / 65536 % 256, a / 16777216 % 256] 0 _ rfl k0
    have t1 := bt_strB [a % 256, a / 256 % 256, a / 65536 % 256, a / 16777216 % 256] 1 _ rfl k1
    have t2 := bt_strB [a % 256, a / 256 % 256, a / 65536 % 256, a / 16777216 % 256] 2 _ rfl k2
    have t3 := bt_strB [a % 256, a / 256 % 256, a / 65536 % 256, a / 16777216 % 256] 3 _ rfl k3
    simp only [List.length_cons, List.length_nil, tsum, Nat.zero_add, Nat.reduceAdd, t0, t1, t2, t3]; omega
  · rw [if_neg (by decide), if_neg (by decide), if_neg (by decide), if_neg (by decide), if_neg (by decide), strB_size]
    refine ⟨by simp, ?_⟩
    have t0 := bt_strB [a % 256, a / 256 % 256, a / 65536 % 256, a / 16777216 % 256, a / 4294967296 % 256] 0 _ rfl k0
    have t1 := bt_strB [a % 256, a / 256 % 256, a / 65536 % 256, a / 16777216 % 256, a / 4294967296 % 256] 1 _ rfl k1
    have t2 := bt_strB [a % 256, a / 256 % 256, a / 65536 % 256, a / 16777216 % 256, a / 4294967296 % 256] 2 _ rfl k2
    have t3 := bt_strB [a % 256, a / 256 % 256, a / 65536 % 256, a / 16777216 % 256, a / 4294967296 % 256] 3 _ rfl k3
    have t4 := bt_strB [a % 256, a / 256 % 256, a / 65536 % 256, a / 16777216 % 256, a / 4294967296 % 256] 4 _ rfl k4
    simp only [List.length_cons, List.length_nil, tsum, Nat.zero_add, Nat.reduceAdd, t0, t1, t2, t3, t4]; omega

theorem wb_fromInt (i x : Int) (b : Bool) (h : PWordBack.word_FromInt.f i = some (x, b)) (w : World) : Calls Try.prog 16 #[.int .i64 i] w fun e w' => e = .returned (.tuple #[.int .u64 x, .bool b]) ∧ Below w.heap.size w w' := by
  refine (PWordBack.word_FromInt.calls i x b w h).mono ?_
  rintro e w' ⟨rfl, h⟩; exact ⟨rfl, wcDrawn h⟩
theorem wb_fromText (k : Nat) (s : ByteArray) (x : Int) (b : Bool) (h : PWordBack.word_FromText.f k s = some (x, b)) (w : World) : Calls Try.prog 17 #[.string s] w fun e w' => e = .returned (.tuple #[.int .u64 x, .bool b]) ∧ Below w.heap.size w w' := by
  refine (PWordBack.word_FromText.calls k s x b w h).mono ?_
  rintro e w' ⟨rfl, h⟩; exact ⟨rfl, wcDrawn h⟩
theorem wb_fromHandle (g x : Int) (b : Bool) (h : PWordBack.word_FromHandle.f g = some (x, b)) (w : World) : Calls Try.prog 26 #[.int .u64 g] w fun e w' => e = .returned (.tuple #[.int .u64 x, .bool b]) ∧ Below w.heap.size w w' := by
  refine (PWordBack.word_FromHandle.calls g x b w h).mono ?_
  rintro e w' ⟨rfl, h⟩; exact ⟨rfl, wcDrawn h⟩
theorem wb_fromFloat (a x : Int) (h : PWordBack.word_FromFloat.f a = some x) (w : World) : Calls Try.prog 20 #[.int .u64 a] w fun e w' => e = .returned (.int .u64 x) ∧ Below w.heap.size w w' := by
  refine (PWordBack.word_FromFloat.calls a x w h).mono ?_
  rintro e w' ⟨rfl, h⟩; exact ⟨rfl, wcDrawn h⟩
theorem float_f (a : Int) : PWordBack.word_FromFloat.f a = some (if isNan a then 9221120237041090560 else a) := by
  unfold PWordBack.word_FromFloat.f
  rw [PWordBack.nan_f, Option.bind_some]
  by_cases c : isNan a
  · rw [decide_eq_true c, if_pos rfl, if_pos c]
  · rw [decide_eq_false c, if_neg (by decide), if_neg c]

theorem wordBack_walk (a bits i : Int) (s : ByteArray) (h : Int) (w : World) (wa : (Lit.int .u64 a).wf = true) (wb : (Lit.int .u64 bits).wf = true) (wi : (Lit.int .i64 i).wf = true) (_ : s.size ≤ 140737488351232) (wh : (Lit.int .u64 h).wf = true) :
    Calls Try.prog 13 #[.int .u64 a, .int .u64 bits, .int .i64 i, .string s, .int .u64 h] w fun e w' => e = .returned (.bool true) ∧ Below w.heap.size w w' := by
  obtain ⟨a0, a1⟩ := u64_range wa
  obtain ⟨b0, b1⟩ := u64_range wb
  obtain ⟨h0, h1⟩ := u64_range wh
  obtain ⟨i0, i1⟩ := i64_range wi
  by_cases d : s.size > 1000
  · exact back_long a bits i h s (decide_eq_true (by omega)) (decide_eq_true d) w
  have XA : ∃ X ba, (∀ w, Calls Try.prog 16 #[.int .i64 i] w fun e w' => e = .returned (.tuple #[.int .u64 X, .bool ba]) ∧ Below w.heap.size w w') ∧
      (ba = true → (∀ w, Calls Try.prog 35 #[.int .u64 X] w fun e w' => e = .returned (.tuple #[.int .i64 i, .bool true]) ∧ Below w.heap.size w w') ∧ (∀ w, Calls Try.prog 14 #[.int .u64 X] w fun e w' => e = .returned (.int .i64 2) ∧ Below w.heap.size w w')) ∧
      (ba = false → decide (i ≥ -140737488355328) = false ∨ (decide (i ≥ -140737488355328) = true ∧ decide (i < 140737488355328) = false)) := by
    have f := PWordBack.fromInt_f i0 i1
    by_cases c : -140737488355328 ≤ i ∧ i < 140737488355328
    · rw [if_pos c] at f
      refine ⟨_, _, wb_fromInt i _ _ f, fun _ => ?_, fun q => by cases q⟩
      have x0 : 0 ≤ 18444773748872577024 + i % 281474976710656 := by omega
      have x1 : 18444773748872577024 + i % 281474976710656 < 18446744073709551616 := by omega
      have hc : cls (18444773748872577024 + i % 281474976710656) = 2 := by
        have := cls_tagged (t := 1) (l := i % 281474976710656) (by decide) (by decide) (by omega) (by omega)
        rw [if_neg (by decide), if_pos rfl] at this
        rw [← this]; congr 1
      have t1 := fun w => wc_toInt x0 x1 w
      have t2 := fun w => wc_class x0 x1 w
      rw [hc] at t2
      refine ⟨?_, t2⟩
      have e : ivV (18444773748872577024 + i % 281474976710656) = (i, true) := by
        unfold ivV
        rw [if_pos hc]
        by_cases z : (18444773748872577024 + i % 281474976710656) % 281474976710656 ≥ 140737488355328
        · rw [if_pos z]; congr 1; omega
        · rw [if_neg z]; congr 1; omega
      rw [e] at t1
      exact t1
    · rw [if_neg c] at f
      refine ⟨_, _, wb_fromInt i _ _ f, fun q => (by cases q), fun _ => ?_⟩
      by_cases z : i ≥ -140737488355328
      · exact .inr ⟨decide_eq_true z, decide_eq_false (by omega)⟩
      · exact .inl (decide_eq_false z)
  have YB : ∃ Y bb, (∀ w, Calls Try.prog 17 #[.string s] w fun e w' => e = .returned (.tuple #[.int .u64 Y, .bool bb]) ∧ Below w.heap.size w w') ∧
      (bb = true → (∀ w, Calls Try.prog 39 #[.int .u64 Y] w fun e w' => e = .returned (.tuple #[.string s, .bool true]) ∧ Below w.heap.size w w') ∧ (∀ w, Calls Try.prog 14 #[.int .u64 Y] w fun e w' => e = .returned (.int .i64 5) ∧ Below w.heap.size w w')) ∧
      (bb = false → decide ((s.size : Int) ≤ 5) = false ∧ decide (s.size ≤ 5) = false) := by
    by_cases c : s.size ≤ 5
    · have f := PWordBack.fromText_f c (k := 8) (by decide)
      refine ⟨_, _, wb_fromText 8 s _ _ f, fun _ => ?_, fun q => by cases q⟩
      have hr := tsum_lt s c
      have y0 : 0 ≤ 18445055223849287680 + (s.size : Int) * 1099511627776 + tsum s s.size := by omega
      have y1 : 18445055223849287680 + (s.size : Int) * 1099511627776 + tsum s s.size < 18446744073709551616 := by omega
      obtain ⟨e1, e2⟩ := txt_back s c
      have t1 := fun w => wc_toText y0 y1 w
      have t2 := fun w => wc_class y0 y1 w
      rw [e1] at t1
      rw [e2] at t2
      exact ⟨t1, t2⟩
    · have f := PWordBack.fromText_long (show 5 < s.size by omega) 8
      exact ⟨_, _, wb_fromText 8 s _ _ f, fun q => (by cases q), fun _ => ⟨decide_eq_false (by omega), decide_eq_false c⟩⟩
  have ZC : ∃ Z bc, (∀ w, Calls Try.prog 26 #[.int .u64 h] w fun e w' => e = .returned (.tuple #[.int .u64 Z, .bool bc]) ∧ Below w.heap.size w w') ∧
      (bc = true → (∀ w, Calls Try.prog 41 #[.int .u64 Z] w fun e w' => e = .returned (.tuple #[.int .u64 h, .bool true]) ∧ Below w.heap.size w w') ∧ (∀ w, Calls Try.prog 14 #[.int .u64 Z] w fun e w' => e = .returned (.int .i64 6) ∧ Below w.heap.size w w')) := by
    by_cases c : h > 281474976710655
    · exact ⟨0, false, wb_fromHandle h 0 false (by unfold PWordBack.word_FromHandle.f; rw [if_pos c]), fun q => (by cases q)⟩
    · refine ⟨18444492273895866368 + 3 * 281474976710656 + h, true, wb_fromHandle h _ true (by unfold PWordBack.word_FromHandle.f; rw [if_neg c, PWordBack.tagged_f (by decide) (by decide) h0 (by omega)]; rfl), fun _ => ?_⟩
      have z0 : 0 ≤ 18444492273895866368 + 3 * 281474976710656 + h := by omega
      have z1 : 18444492273895866368 + 3 * 281474976710656 + h < 18446744073709551616 := by omega
      have hc : cls (18444492273895866368 + 3 * 281474976710656 + h) = 6 := by
        have := cls_tagged (t := 3) (l := h) (by decide) (by decide) h0 (by omega)
        rw [if_neg (by decide), if_neg (by decide), if_neg (by decide), if_pos rfl] at this
        exact this
      have t1 := fun w => wc_toHandle z0 z1 w
      have t2 := fun w => wc_class z0 z1 w
      rw [hc] at t2
      have e : hvV (18444492273895866368 + 3 * 281474976710656 + h) = (h, true) := by
        unfold hvV; rw [if_pos hc]; congr 1; omega
      rw [e] at t1
      exact ⟨t1, t2⟩
  obtain ⟨X, ba, f16, A1, A0⟩ := XA
  obtain ⟨Y, bb, f17, B1, B0⟩ := YB
  obtain ⟨Z, bc, f26, C1⟩ := ZC
  have FF : ∃ F, 0 ≤ F ∧ F < 18446744073709551616 ∧ PWordBack.word_FromFloat.f bits = some F ∧ PWordBack.word_FromFloat.f F = some F ∧ cls F = 1 := by
    by_cases c : isNan bits
    · exact ⟨9221120237041090560, by decide, by decide, by rw [float_f, if_pos c], by decide +kernel, by decide +kernel⟩
    · exact ⟨bits, b0, b1, by rw [float_f, if_neg c], by rw [float_f, if_neg c], by unfold cls; rw [if_pos (.inl c)]⟩
  obtain ⟨F, F0, F1, e1, e2, e3⟩ := FF
  have fF1 := fun w => wc_class F0 F1 w
  rw [e3] at fF1
  have fc := fun w => wc_class a0 a1 w
  refine back_walk a bits i h (cls a) X Y Z F ba bb bc s (decide_eq_false (by omega)) (decide_eq_false d) w f16 A1 A0 f17 B1 B0 f26 C1 (wb_fromFloat bits F e1) fF1 (wb_fromFloat F F e2) fc ?_ wc_awake
  have ti := fun w => wc_toInt a0 a1 w
  have tb := fun w => wc_toBool a0 a1 w
  have tt := fun w => wc_toText a0 a1 w
  have th := fun w => wc_toHandle a0 a1 w
  rcases cls_cases a0 a1 with ⟨c, q⟩ | ⟨c, q⟩ | ⟨c, q⟩ | ⟨c, q⟩ | ⟨c, q, ok⟩ | ⟨c, q⟩ | ⟨c, q, q2, _⟩
  · refine .inl ⟨c, wb_fromFloat a a ?_⟩
    rw [float_f]
    rcases q with q | q
    · rw [if_neg q]
    · subst q; decide +kernel
  · refine .inr (.inr (.inl ⟨c, fun w => ?_⟩))
    subst q
    refine (PWordBack.word_FromNil.calls 18444492273895866368 w (by decide +kernel)).mono ?_
    rintro e w' ⟨rfl, h⟩; exact ⟨rfl, wcDrawn h⟩
  · refine .inr (.inr (.inr (.inl ⟨c, (a == 18444492273895866370), ?_, fun w => ?_⟩)))
    · have e : bvV a = ((a == 18444492273895866370), true) := by unfold bvV; rw [if_pos c]
      rw [e] at tb; exact tb
    · refine (PWordBack.word_FromBool.calls _ a w ?_).mono ?_
      · rcases q with rfl | rfl <;> decide +kernel
      · rintro e w' ⟨rfl, h⟩; exact ⟨rfl, wcDrawn h⟩
  · refine .inr (.inl ⟨c, (ivV a).1, ?_, wb_fromInt _ a true ?_⟩)
    · have e : (ivV a).2 = true := by unfold ivV; rw [if_pos c]
      rw [e] at ti; exact ti
    · have e : (ivV a).1 = if a % 281474976710656 ≥ 140737488355328 then a % 281474976710656 - 281474976710656 else a % 281474976710656 := by unfold ivV; rw [if_pos c]
      rw [e]
      by_cases z : a % 281474976710656 ≥ 140737488355328
      · rw [if_pos z, PWordBack.fromInt_f (by omega) (by omega), if_pos (by omega)]; congr 2; omega
      · rw [if_neg z, PWordBack.fromInt_f (by omega) (by omega), if_pos (by omega)]; congr 2; omega
  · refine .inr (.inr (.inr (.inr (.inl ⟨c, txtV a (a % 281474976710656 / 1099511627776), ?_, ?_⟩))))
    · have e : tvV a = (txtV a (a % 281474976710656 / 1099511627776), true) := by unfold tvV; rw [if_pos c]
      rw [e] at tt; exact tt
    · obtain ⟨p1, p2⟩ := txt_forth a0 q ok
      have f := PWordBack.fromText_f p1 (k := 8) (by decide)
      rw [p2] at f
      exact wb_fromText 8 _ _ _ f
  · refine .inr (.inr (.inr (.inr (.inr (.inl ⟨c, a % 281474976710656, ?_, wb_fromHandle _ a true ?_⟩)))))
    · have e : hvV a = (a % 281474976710656, true) := by unfold hvV; rw [if_pos c]
      rw [e] at th; exact th
    · unfold PWordBack.word_FromHandle.f
      rw [if_neg (by omega), PWordBack.tagged_f (by decide) (by decide) (by omega) (by omega), Option.bind_some]
      congr 2; omega
  · refine .inr (.inr (.inr (.inr (.inr (.inr ⟨c, 0, false, ⟨#[]⟩, 0, ?_, ?_, ?_, ?_, wb_fromFloat a _ (by rw [float_f, if_pos q])⟩)))))
    · have e : ivV a = (0, false) := by unfold ivV; rw [if_neg (by rw [c]; decide)]
      rw [e] at ti; exact ti
    · have e : bvV a = (false, false) := by unfold bvV; rw [if_neg (by rw [c]; decide)]
      rw [e] at tb; exact tb
    · have e : tvV a = (⟨#[]⟩, false) := by unfold tvV; rw [if_neg (by rw [c]; decide)]
      rw [e] at tt; exact tt
    · have e : hvV a = (0, false) := by unfold hvV; rw [if_neg (by rw [c]; decide)]
      rw [e] at th; exact th
end Go.Proofs.Ytpoedalbgcpgjaa

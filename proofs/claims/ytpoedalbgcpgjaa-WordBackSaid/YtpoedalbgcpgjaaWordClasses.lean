/- What any pattern is, and what it leads back to: as the document tells. For every input; no condition. -/
import Derived.Test.YtpoedalbgcpgjaaWC3
import Derived.Test.YtpoedalbgcpgjaaLWordClasses
import Derived.Test.YtpoedalbgcpgjaaRWordClasses
import Derived.Test.YtpoedalbgcpgjaaTT
namespace Go.Proofs.Ytpoedalbgcpgjaa
open Go.RowKit Go.Proofs.YtpoedalbgcpgjaaW.PrintWords Go.Proofs.Ytpoedalbgcpgjaa.Bits
set_option linter.unusedVariables false
set_option linter.unusedSimpArgs false

theorem wcDrawn {w w' : World} (h : Drawn0 w w') : Below w.heap.size w w' := by
  obtain ⟨n, rfl⟩ := h.out
  exact ⟨rfl, rfl, rfl, Nat.le_refl _, fun _ _ => rfl⟩
/-- the whole number of a word -/
def ivV (a : Int) : Int × Bool := if cls a = 2 then (if a % 281474976710656 ≥ 140737488355328 then a % 281474976710656 - 281474976710656 else a % 281474976710656, true) else (0, false)
/-- the truth of a word -/
def bvV (a : Int) : Bool × Bool := if cls a = 4 then (a == 18444492273895866370, true) else (false, false)
/-- the handle of a word -/
def hvV (a : Int) : Int × Bool := if cls a = 6 then (a % 281474976710656, true) else (0, false)
/-- the text of a word -/
def txtV (a n : Int) : ByteArray :=
  if n = 0 then strB [] else if n = 1 then strB [a % 256] else if n = 2 then strB [a % 256, a / 256 % 256] else if n = 3 then strB [a % 256, a / 256 % 256, a / 65536 % 256]
  else if n = 4 then strB [a % 256, a / 256 % 256, a / 65536 % 256, a / 16777216 % 256] else strB [a % 256, a / 256 % 256, a / 65536 % 256, a / 16777216 % 256, a / 4294967296 % 256]
def tvV (a : Int) : ByteArray × Bool := if cls a = 5 then (txtV a (a % 281474976710656 / 1099511627776), true) else (⟨#[]⟩, false)

section
variable {a : Int} (h0 : 0 ≤ a) (h1 : a < 18446744073709551616)
include h0 h1
theorem wc_class (w : World) : Calls Try.prog 14 #[.int .u64 a] w fun e w' => e = .returned (.int .i64 (cls a)) ∧ Below w.heap.size w w' := by
  refine (PWordClasses.word_Class.calls 8 a (cls a) w (PWordClasses.class_f 7 h0 h1)).mono ?_
  rintro e w' ⟨rfl, h⟩; exact ⟨rfl, wcDrawn h⟩
theorem wc_refClass (w : World) : Calls Try.prog 34 #[.int .u64 a] w fun e w' => e = .returned (.int .i64 (cls a)) ∧ Below w.heap.size w w' := by
  refine (PWordClasses.casketref1_Class.calls 60 a (cls a) w (PWordClasses.refClass_f 60 (by decide) h0 h1)).mono ?_
  rintro e w' ⟨rfl, h⟩; exact ⟨rfl, wcDrawn h⟩
theorem wc_toInt (w : World) : Calls Try.prog 35 #[.int .u64 a] w fun e w' => e = .returned (.tuple #[.int .i64 (ivV a).1, .bool (ivV a).2]) ∧ Below w.heap.size w w' := by
  refine (PWordClasses.word_ToInt.calls 8 a (ivV a).1 (ivV a).2 w ?_).mono ?_
  · unfold PWordClasses.word_ToInt.f ivV
    rw [PWordClasses.class_f 7 h0 h1, Option.bind_some]
    by_cases c : cls a = 2
    · rw [if_pos c, if_pos c, wrap_u64]
      congr 2
      unfold wrap64
      by_cases d : a % 281474976710656 ≥ 140737488355328
      · rw [if_pos d]; omega
      · rw [if_neg d]; omega
    · rw [if_neg c, if_neg c]
  · rintro e w' ⟨rfl, h⟩; exact ⟨rfl, wcDrawn h⟩
theorem wc_refInt (w : World) : Calls Try.prog 36 #[.int .u64 a] w fun e w' => e = .returned (.tuple #[.int .i64 (ivV a).1, .bool (ivV a).2]) ∧ Below w.heap.size w w' := by
  refine (PWordClasses.casketref1_ToInt.calls 60 a (ivV a).1 (ivV a).2 w ?_).mono ?_
  · unfold PWordClasses.casketref1_ToInt.f ivV
    rw [PWordClasses.refClass_f 60 (by decide) h0 h1, Option.bind_some, Int.tmod_eq_emod_of_nonneg h0, show wrap64 (a % 281474976710656) = a % 281474976710656 by unfold wrap64; omega]
    by_cases c : cls a = 2
    · rw [if_pos c, if_pos c]
      by_cases d : a % 281474976710656 ≥ 140737488355328
      · rw [if_pos d, if_pos d]
        congr 2
        unfold wrap64; omega
      · rw [if_neg d, if_neg d]
    · rw [if_neg c, if_neg c]
  · rintro e w' ⟨rfl, h⟩; exact ⟨rfl, wcDrawn h⟩
theorem wc_toBool (w : World) : Calls Try.prog 37 #[.int .u64 a] w fun e w' => e = .returned (.tuple #[.bool (bvV a).1, .bool (bvV a).2]) ∧ Below w.heap.size w w' := by
  refine (PWordClasses.word_ToBool.calls 8 a (bvV a).1 (bvV a).2 w ?_).mono ?_
  · unfold PWordClasses.word_ToBool.f bvV
    rw [show PWordClasses.word_FromBool.f true = some 18444492273895866370 by decide +kernel, Option.bind_some, PWordClasses.class_f 7 h0 h1, Option.bind_some]
    by_cases c : cls a = 4
    · rw [if_pos c, c]; rfl
    · rw [if_neg c, show (cls a == 4) = false from beq_eq_false_iff_ne.2 c]
      have d : a ≠ 18444492273895866370 := by
        rintro rfl
        exact c (by decide +kernel)
      rw [show (a == 18444492273895866370) = false from beq_eq_false_iff_ne.2 d]
  · rintro e w' ⟨rfl, h⟩; exact ⟨rfl, wcDrawn h⟩
theorem wc_refBool (w : World) : Calls Try.prog 38 #[.int .u64 a] w fun e w' => e = .returned (.tuple #[.bool (bvV a).1, .bool (bvV a).2]) ∧ Below w.heap.size w w' := by
  refine (PWordClasses.casketref1_ToBool.calls 60 a (bvV a).1 (bvV a).2 w ?_).mono ?_
  · unfold PWordClasses.casketref1_ToBool.f bvV
    rw [PWordClasses.refClass_f 60 (by decide) h0 h1, Option.bind_some]
    by_cases c : cls a = 4
    · rw [if_pos c, if_pos c]
    · rw [if_neg c, if_neg c]
  · rintro e w' ⟨rfl, h⟩; exact ⟨rfl, wcDrawn h⟩
theorem wc_toHandle (w : World) : Calls Try.prog 41 #[.int .u64 a] w fun e w' => e = .returned (.tuple #[.int .u64 (hvV a).1, .bool (hvV a).2]) ∧ Below w.heap.size w w' := by
  refine (PWordClasses.word_ToHandle.calls 8 a (hvV a).1 (hvV a).2 w ?_).mono ?_
  · unfold PWordClasses.word_ToHandle.f hvV
    rw [PWordClasses.class_f 7 h0 h1, Option.bind_some, and48 h0 h1]
    by_cases c : cls a = 6
    · rw [if_pos c, if_pos c]
    · rw [if_neg c, if_neg c]
  · rintro e w' ⟨rfl, h⟩; exact ⟨rfl, wcDrawn h⟩
theorem wc_refHandle (w : World) : Calls Try.prog 42 #[.int .u64 a] w fun e w' => e = .returned (.tuple #[.int .u64 (hvV a).1, .bool (hvV a).2]) ∧ Below w.heap.size w w' := by
  refine (PWordClasses.casketref1_ToHandle.calls 60 a (hvV a).1 (hvV a).2 w ?_).mono ?_
  · unfold PWordClasses.casketref1_ToHandle.f hvV
    rw [PWordClasses.refClass_f 60 (by decide) h0 h1, Option.bind_some, Int.tmod_eq_emod_of_nonneg h0]
    by_cases c : cls a = 6
    · rw [if_pos c, if_pos c]
    · rw [if_neg c, if_neg c]
  · rintro e w' ⟨rfl, h⟩; exact ⟨rfl, wcDrawn h⟩
theorem wc_len (c : cls a = 5) : 0 ≤ a % 281474976710656 / 1099511627776 ∧ a % 281474976710656 / 1099511627776 ≤ 5 := by
  rcases cls_cases h0 h1 with ⟨d, _⟩ | ⟨d, _⟩ | ⟨d, _⟩ | ⟨d, _⟩ | ⟨d, _, t⟩ | ⟨d, _⟩ | ⟨d, _⟩
  · rw [d] at c; exact absurd c (by decide)
  · rw [d] at c; exact absurd c (by decide)
  · rw [d] at c; exact absurd c (by decide)
  · rw [d] at c; exact absurd c (by decide)
  · unfold txtOk at t; omega
  · rw [d] at c; exact absurd c (by decide)
  · rw [d] at c; exact absurd c (by decide)
theorem wc_toText_not (c : (cls a != 5) = true) (w : World) : Calls Try.prog 39 #[.int .u64 a] w fun e w' => e = .returned (.tuple #[.string ⟨#[]⟩, .bool false]) ∧ Below w.heap.size w w' := by
  have L := Below.refl w.heap.size w
  have hc := fun w => wc_class h0 h1 w
  generalize cls a = x at c hc
  go_enter Try.func39, Try.ntmps39
  go_wp2_with fail
  refine (hc _).mono ?_
  rintro x w1 ⟨rfl, hb⟩
  have L := bnext L hb rfl rfl rfl rfl
  clear hb
  go_wp2
  go_ret2
  exact ⟨by first | rfl | simp, ⟨L.os, L.tape, L.output, L.size, L.block⟩⟩
theorem wc_toText (w : World) : Calls Try.prog 39 #[.int .u64 a] w fun e w' => e = .returned (.tuple #[.string (tvV a).1, .bool (tvV a).2]) ∧ Below w.heap.size w w' := by
  unfold tvV
  by_cases c : cls a = 5
  · rw [if_pos c]
    have hc : ∀ w, Calls Try.prog 14 #[.int .u64 a] w fun e w' => e = .returned (.int .i64 5) ∧ Below w.heap.size w w' := by
      intro w; have := wc_class h0 h1 w; rw [c] at this; exact this
    obtain ⟨n0, n5⟩ := wc_len h0 h1 c
    have e0 : Go.bits .and .u64 a 281474976710655 / 1099511627776 = a % 281474976710656 / 1099511627776 := by rw [and48 h0 h1]
    generalize a % 281474976710656 / 1099511627776 = n at n0 n5 e0
    have hn : n = 0 ∨ n = 1 ∨ n = 2 ∨ n = 3 ∨ n = 4 ∨ n = 5 := by omega
    rcases hn with rfl | rfl | rfl | rfl | rfl | rfl
    · exact toText_0 a w hc e0
    · exact toText_1 a w hc e0
    · exact toText_2 a w hc e0
    · exact toText_3 a w hc e0
    · exact toText_4 a w hc e0
    · exact toText_5 a w hc e0
  · rw [if_neg c]
    exact wc_toText_not h0 h1 (bne_iff_ne.2 c) w
end

theorem ref_step (k : Nat) (hk : 50 ≤ k) {l : Int} (l0 : 0 ≤ l) (l1 : l < 281474976710656) (xs : List Int) (i : Nat) (hi : (i : Int) < l / 1099511627776) (h5 : i ≤ 4) (hx : xs.length ≤ 10) :
    PWordClasses.casketref1_ToText.l0 (k + 1) l xs i = PWordClasses.casketref1_ToText.l0 k l (xs ++ [l / 2 ^ (8 * i) % 256]) ((i + 1 : Nat) : Int) := by
  have e40 : PWordClasses.casketref1_power.f k 40 = some 1099511627776 := PWordClasses.power_f (n := 40) (by decide) (by omega)
  have e8 : PWordClasses.casketref1_power.f k (wrap64 (8 * (i : Int))) = some (2 ^ (8 * i)) := by
    rw [show wrap64 (8 * (i : Int)) = ((8 * i : Nat) : Int) by unfold wrap64; omega]
    exact PWordClasses.power_f (by omega) (by omega)
  have hp : (0 : Int) < 2 ^ (8 * i) := Int.pow_pos (by decide)
  have hq : 0 ≤ l / 2 ^ (8 * i) := Int.ediv_nonneg l0 (by omega)
  have hq2 : l / 2 ^ (8 * i) ≤ l := Int.ediv_le_self _ l0
  simp only [PWordClasses.casketref1_ToText.l0]
  rw [e40, Option.bind_some, if_neg (by decide), Int.tdiv_eq_ediv_of_nonneg l0, wraps_u64 _ (by omega) (by omega), show wrap64 (l / 1099511627776) = l / 1099511627776 by unfold wrap64; omega, if_pos hi, e8, Option.bind_some,
    if_neg (by omega), if_pos (by omega), Int.tdiv_eq_ediv_of_nonneg l0, wraps_u64 _ hq (by omega), Int.tmod_eq_emod_of_nonneg hq, show wrap64 ((i : Int) + 1) = ((i + 1 : Nat) : Int) by unfold wrap64; omega]
  congr 2
  rw [List.cons.injEq]
  exact ⟨by omega, rfl⟩
theorem ref_end (k : Nat) (hk : 50 ≤ k) {l : Int} (l0 : 0 ≤ l) (l1 : l < 281474976710656) (xs : List Int) (i : Int) (hi : i = l / 1099511627776) :
    PWordClasses.casketref1_ToText.l0 (k + 1) l xs i = some (strOfNums xs, true) := by
  have e40 : PWordClasses.casketref1_power.f k 40 = some 1099511627776 := PWordClasses.power_f (n := 40) (by decide) (by omega)
  simp only [PWordClasses.casketref1_ToText.l0]
  rw [e40, Option.bind_some, if_neg (by decide), Int.tdiv_eq_ediv_of_nonneg l0, wraps_u64 _ (by omega) (by omega), show wrap64 (l / 1099511627776) = l / 1099511627776 by unfold wrap64; omega, if_neg (by omega)]

theorem wc_refText {a : Int} (h0 : 0 ≤ a) (h1 : a < 18446744073709551616) (w : World) : Calls Try.prog 40 #[.int .u64 a] w fun e w' => e = .returned (.tuple #[.string (tvV a).1, .bool (tvV a).2]) ∧ Below w.heap.size w w' := by
  refine (PWordClasses.casketref1_ToText.calls 60 a (tvV a).1 (tvV a).2 w ?_).mono ?_
  · unfold PWordClasses.casketref1_ToText.f tvV
    rw [PWordClasses.refClass_f 60 (by decide) h0 h1, Option.bind_some, Int.tmod_eq_emod_of_nonneg h0]
    by_cases c : cls a = 5
    · rw [if_pos c, if_pos c]
      obtain ⟨n0, n5⟩ := wc_len h0 h1 c
      have l0 : 0 ≤ a % 281474976710656 := by omega
      have l1 : a % 281474976710656 < 281474976710656 := by omega
      have b0 : a % 281474976710656 / 2 ^ (8 * 0) % 256 = a % 256 := by omega
      have b1 : a % 281474976710656 / 2 ^ (8 * 1) % 256 = a / 256 % 256 := by omega
      have b2 : a % 281474976710656 / 2 ^ (8 * 2) % 256 = a / 65536 % 256 := by omega
      have b3 : a % 281474976710656 / 2 ^ (8 * 3) % 256 = a / 16777216 % 256 := by omega
      have b4 : a % 281474976710656 / 2 ^ (8 * 4) % 256 = a / 4294967296 % 256 := by omega
      generalize a % 281474976710656 = l at n0 n5 l0 l1 b0 b1 b2 b3 b4
      have hn : l / 1099511627776 = 0 ∨ l / 1099511627776 = 1 ∨ l / 1099511627776 = 2 ∨ l / 1099511627776 = 3 ∨ l / 1099511627776 = 4 ∨ l / 1099511627776 = 5 := by omega
      have s0 := fun h xs hx => ref_step 59 (by decide) l0 l1 xs 0 h (by decide) hx
      have s1 := fun h xs hx => ref_step 58 (by decide) l0 l1 xs 1 h (by decide) hx
      have s2 := fun h xs hx => ref_step 57 (by decide) l0 l1 xs 2 h (by decide) hx
      have s3 := fun h xs hx => ref_step 56 (by decide) l0 l1 xs 3 h (by decide) hx
      have s4 := fun h xs hx => ref_step 55 (by decide) l0 l1 xs 4 h (by decide) hx
      have fin : ∀ xs ys : List Int, xs = ys → (some (strOfNums xs, true) : Option (ByteArray × Bool)) = some (strB ys, true) := fun xs ys e => by subst e; rfl
      rcases hn with e | e | e | e | e | e
      · rw [ref_end 59 (by decide) l0 l1 [] 0 e.symm, e]; exact fin _ _ rfl
      · refine (s0 (by omega) [] (by decide)).trans ((ref_end 58 (by decide) l0 l1 _ _ (by omega)).trans ?_)
        rw [e]; exact fin _ _ (by simp [b0] <;> omega)
      · refine (s0 (by omega) [] (by decide)).trans ((s1 (by omega) _ (by simp)).trans ((ref_end 57 (by decide) l0 l1 _ _ (by omega)).trans ?_))
        rw [e]; exact fin _ _ (by simp only [b0, b1, List.nil_append, List.cons_append])
      · refine (s0 (by omega) [] (by decide)).trans ((s1 (by omega) _ (by simp)).trans ((s2 (by omega) _ (by simp)).trans ((ref_end 56 (by decide) l0 l1 _ _ (by omega)).trans ?_)))
        rw [e]; exact fin _ _ (by simp only [b0, b1, b2, List.nil_append, List.cons_append])
      · refine (s0 (by omega) [] (by decide)).trans ((s1 (by omega) _ (by simp)).trans ((s2 (by omega) _ (by simp)).trans ((s3 (by omega) _ (by simp)).trans ((ref_end 55 (by decide) l0 l1 _ _ (by omega)).trans ?_))))
        rw [e]; exact fin _ _ (by simp only [b0, b1, b2, b3, List.nil_append, List.cons_append])
      · refine (s0 (by omega) [] (by decide)).trans ((s1 (by omega) _ (by simp)).trans ((s2 (by omega) _ (by simp)).trans ((s3 (by omega) _ (by simp)).trans ((s4 (by omega) _ (by simp)).trans ((ref_end 54 (by decide) l0 l1 _ _ (by omega)).trans ?_)))))
        rw [e]; exact fin _ _ (by simp only [b0, b1, b2, b3, b4, List.nil_append, List.cons_append])
    · rw [if_neg c, if_neg c]
  · rintro e w' ⟨rfl, h⟩; exact ⟨rfl, h⟩

theorem wc_awake (w : World) : Calls Try.prog 15 #[] w fun e w' => e = .returned (.bool true) ∧ Below w.heap.size w w' := by
  refine (PWordClasses.casketlaw1_awake.calls 8 true w (PWordClasses.awake_f 8 (by decide))).mono ?_
  rintro e w' ⟨rfl, h⟩; exact ⟨rfl, wcDrawn h⟩

set_option maxRecDepth 100000 in
set_option maxHeartbeats 6400000 in
theorem wc_walk (a c i h : Int) (ib x xb tb hb' : Bool) (t : ByteArray) (w : World)
    (f14 : ∀ w, Calls Try.prog 14 #[.int .u64 a] w fun e w' => e = .returned (.int .i64 c) ∧ Below w.heap.size w w')
    (f34 : ∀ w, Calls Try.prog 34 #[.int .u64 a] w fun e w' => e = .returned (.int .i64 c) ∧ Below w.heap.size w w')
    (f35 : ∀ w, Calls Try.prog 35 #[.int .u64 a] w fun e w' => e = .returned (.tuple #[.int .i64 i, .bool ib]) ∧ Below w.heap.size w w')
    (f36 : ∀ w, Calls Try.prog 36 #[.int .u64 a] w fun e w' => e = .returned (.tuple #[.int .i64 i, .bool ib]) ∧ Below w.heap.size w w')
    (f37 : ∀ w, Calls Try.prog 37 #[.int .u64 a] w fun e w' => e = .returned (.tuple #[.bool x, .bool xb]) ∧ Below w.heap.size w w')
    (f38 : ∀ w, Calls Try.prog 38 #[.int .u64 a] w fun e w' => e = .returned (.tuple #[.bool x, .bool xb]) ∧ Below w.heap.size w w')
    (f39 : ∀ w, Calls Try.prog 39 #[.int .u64 a] w fun e w' => e = .returned (.tuple #[.string t, .bool tb]) ∧ Below w.heap.size w w')
    (f40 : ∀ w, Calls Try.prog 40 #[.int .u64 a] w fun e w' => e = .returned (.tuple #[.string t, .bool tb]) ∧ Below w.heap.size w w')
    (f41 : ∀ w, Calls Try.prog 41 #[.int .u64 a] w fun e w' => e = .returned (.tuple #[.int .u64 h, .bool hb']) ∧ Below w.heap.size w w')
    (f42 : ∀ w, Calls Try.prog 42 #[.int .u64 a] w fun e w' => e = .returned (.tuple #[.int .u64 h, .bool hb']) ∧ Below w.heap.size w w') :
    Calls Try.prog 9 #[.int .u64 a] w fun e w' => e = .returned (.bool true) ∧ Below w.heap.size w w' := by
  have L := Below.refl w.heap.size w
  go_enter Try.func9, Try.ntmps9
  go_wp2_with fail
  refine (f14 _).mono ?_
  rintro e w1 ⟨rfl, hb⟩
  have L := bnext L hb rfl rfl rfl rfl
  clear hb
  go_wp2_with fail
  refine (f34 _).mono ?_
  rintro e w1 ⟨rfl, hb⟩
  have L := bnext L hb rfl rfl rfl rfl
  clear hb
  go_wp2_with fail
  refine (f35 _).mono ?_
  rintro e w1 ⟨rfl, hb⟩
  have L := bnext L hb rfl rfl rfl rfl
  clear hb
  go_wp2_with fail
  refine (f36 _).mono ?_
  rintro e w1 ⟨rfl, hb⟩
  have L := bnext L hb rfl rfl rfl rfl
  clear hb
  go_wp2_with fail
  refine (f37 _).mono ?_
  rintro e w1 ⟨rfl, hb⟩
  have L := bnext L hb rfl rfl rfl rfl
  clear hb
  go_wp2_with fail
  refine (f38 _).mono ?_
  rintro e w1 ⟨rfl, hb⟩
  have L := bnext L hb rfl rfl rfl rfl
  clear hb
  go_wp2_with fail
  refine (f39 _).mono ?_
  rintro e w1 ⟨rfl, hb⟩
  have L := bnext L hb rfl rfl rfl rfl
  clear hb
  go_wp2_with fail
  refine (f40 _).mono ?_
  rintro e w1 ⟨rfl, hb⟩
  have L := bnext L hb rfl rfl rfl rfl
  clear hb
  go_wp2_with fail
  refine (f41 _).mono ?_
  rintro e w1 ⟨rfl, hb⟩
  have L := bnext L hb rfl rfl rfl rfl
  clear hb
  go_wp2_with fail
  refine (f42 _).mono ?_
  rintro e w1 ⟨rfl, hb⟩
  have L := bnext L hb rfl rfl rfl rfl
  clear hb
  go_wp2_with fail
  refine (wc_awake _).mono ?_
  rintro e w1 ⟨rfl, hb⟩
  have L := bnext L hb rfl rfl rfl rfl
  clear hb
  go_wp2
  go_ret
  exact ⟨by first | rfl | simp, ⟨L.os, L.tape, L.output, L.size, L.block⟩⟩

theorem wordClasses_walk (a : Int) (w : World) (wa : (Lit.int .u64 a).wf = true) :
    Calls Try.prog 9 #[.int .u64 a] w fun e w' => e = .returned (.bool true) ∧ Below w.heap.size w w' := by
  obtain ⟨h0, h1⟩ := u64_range wa
  exact wc_walk a _ _ _ _ _ _ _ _ _ w (wc_class h0 h1) (wc_refClass h0 h1) (wc_toInt h0 h1) (wc_refInt h0 h1) (wc_toBool h0 h1) (wc_refBool h0 h1) (wc_toText h0 h1) (wc_refText h0 h1) (wc_toHandle h0 h1) (wc_refHandle h0 h1)
end Go.Proofs.Ytpoedalbgcpgjaa

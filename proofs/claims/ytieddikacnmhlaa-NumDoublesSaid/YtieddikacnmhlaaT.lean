/- num's operations on two whole numbers, each answer by itself. -/
import Derived.Test.YtieddikacnmhlaaS
import Derived.Test.YtieddikacnmhlaaQ
import Derived.Test.YtieddikacnmhlaaF
namespace Go.Proofs.Ytieddikacnmhlaa
open Go.RowKit

theorem fits_zero : fits 0 := by decide
theorem op_ok {z : Int} (h : fits z) : opN (exact z) = ⟨true, z, 0, 0⟩ := by unfold exact; rw [if_pos h]; rfl
theorem op_err {z : Int} (h : ¬ fits z) : opN (exact z) = ⟨false, 0, 0, 10⟩ := by unfold exact; rw [if_neg h]; rfl

theorem add_ok {i j : Int} (hi : fits i) (hj : fits j) (h : fits (i + j)) (u v : Int) (w : World) : Calls Try.prog 60 #[numV true i u, numV true j v] w fun e w' => e = .returned (.tuple #[numV true (i + j) 0, .int .i64 0]) ∧ Below w.heap.size w w' := by
  have := numAdd_calls true true i u j v hi hj w
  rw [show nAdd true true i u j v = opN (exact (i + j)) from rfl, op_ok h] at this; exact this
theorem add_err {i j : Int} (hi : fits i) (hj : fits j) (h : ¬ fits (i + j)) (u v : Int) (w : World) : Calls Try.prog 60 #[numV true i u, numV true j v] w fun e w' => e = .returned (.tuple #[numV false 0 0, .int .i64 10]) ∧ Below w.heap.size w w' := by
  have := numAdd_calls true true i u j v hi hj w
  rw [show nAdd true true i u j v = opN (exact (i + j)) from rfl, op_err h] at this; exact this
theorem sub_ok {i j : Int} (hi : fits i) (hj : fits j) (h : fits (i - j)) (u v : Int) (w : World) : Calls Try.prog 73 #[numV true i u, numV true j v] w fun e w' => e = .returned (.tuple #[numV true (i - j) 0, .int .i64 0]) ∧ Below w.heap.size w w' := by
  have := numSub_calls true true i u j v hi hj w
  rw [show nSub true true i u j v = opN (exact (i - j)) from rfl, op_ok h] at this; exact this
theorem sub_err {i j : Int} (hi : fits i) (hj : fits j) (h : ¬ fits (i - j)) (u v : Int) (w : World) : Calls Try.prog 73 #[numV true i u, numV true j v] w fun e w' => e = .returned (.tuple #[numV false 0 0, .int .i64 10]) ∧ Below w.heap.size w w' := by
  have := numSub_calls true true i u j v hi hj w
  rw [show nSub true true i u j v = opN (exact (i - j)) from rfl, op_err h] at this; exact this
theorem mul_ok {i j : Int} (hi : fits i) (hj : fits j) (h : fits (i * j)) (u v : Int) (w : World) : Calls Try.prog 62 #[numV true i u, numV true j v] w fun e w' => e = .returned (.tuple #[numV true (i * j) 0, .int .i64 0]) ∧ Below w.heap.size w w' := by
  have := numMul_calls true true i u j v hi hj w
  rw [show nMul true true i u j v = opN (exact (i * j)) from rfl, op_ok h] at this; exact this
theorem mul_err {i j : Int} (hi : fits i) (hj : fits j) (h : ¬ fits (i * j)) (u v : Int) (w : World) : Calls Try.prog 62 #[numV true i u, numV true j v] w fun e w' => e = .returned (.tuple #[numV false 0 0, .int .i64 10]) ∧ Below w.heap.size w w' := by
  have := numMul_calls true true i u j v hi hj w
  rw [show nMul true true i u j v = opN (exact (i * j)) from rfl, op_err h] at this; exact this
theorem div_zero (i : Int) (hi : fits i) (u v : Int) (w : World) : Calls Try.prog 67 #[numV true i u, numV true 0 v] w fun e w' => e = .returned (.tuple #[numV false 0 0, .int .i64 11]) ∧ Below w.heap.size w w' := numFloorDiv_calls true true i u 0 v hi fits_zero w
theorem div_ok {i j : Int} (hi : fits i) (hj : fits j) (h0 : j ≠ 0) (h : fits (i.fdiv j)) (u v : Int) (w : World) : Calls Try.prog 67 #[numV true i u, numV true j v] w fun e w' => e = .returned (.tuple #[numV true (i.fdiv j) 0, .int .i64 0]) ∧ Below w.heap.size w w' := by
  have := numFloorDiv_calls true true i u j v hi hj w
  rw [show nFloorDiv true true i u j v = opN (iDiv i j) from rfl, show iDiv i j = exact (i.fdiv j) by unfold iDiv; rw [if_neg h0], op_ok h] at this; exact this
theorem div_err {i j : Int} (hi : fits i) (hj : fits j) (h0 : j ≠ 0) (h : ¬ fits (i.fdiv j)) (u v : Int) (w : World) : Calls Try.prog 67 #[numV true i u, numV true j v] w fun e w' => e = .returned (.tuple #[numV false 0 0, .int .i64 10]) ∧ Below w.heap.size w w' := by
  have := numFloorDiv_calls true true i u j v hi hj w
  rw [show nFloorDiv true true i u j v = opN (iDiv i j) from rfl, show iDiv i j = exact (i.fdiv j) by unfold iDiv; rw [if_neg h0], op_err h] at this; exact this
theorem mod_zero (i : Int) (hi : fits i) (u v : Int) (w : World) : Calls Try.prog 69 #[numV true i u, numV true 0 v] w fun e w' => e = .returned (.tuple #[numV false 0 0, .int .i64 11]) ∧ Below w.heap.size w w' := numMod_calls true true i u 0 v hi fits_zero w
theorem mod_ok {i j : Int} (hi : fits i) (hj : fits j) (h0 : j ≠ 0) (u v : Int) (w : World) : Calls Try.prog 69 #[numV true i u, numV true j v] w fun e w' => e = .returned (.tuple #[numV true (i.fmod j) 0, .int .i64 0]) ∧ Below w.heap.size w w' := by
  have := numMod_calls true true i u j v hi hj w
  rw [show nMod true true i u j v = opN (iMod i j) from rfl, show iMod i j = (i.fmod j, 0) by unfold iMod; rw [if_neg h0]] at this; exact this
/-- the number that an answer holds fits -/
theorem opN_fits (z : Int) : fits (opN (exact z)).x := by
  by_cases h : fits z
  · rw [op_ok h]; exact h
  · rw [op_err h]; exact fits_zero
theorem drew_heap (w : World) : w.drew.heap = w.heap := rfl
/-- A store into a number's block. -/
theorem heap_set {W : World} {g k : Nat} {xs : Array Value} {t : TypeId} {f : Nat × Nat} (h : W.heap[g]? = some (.cells xs t f)) (v : Value) :
    (W.setCell ⟨g, k, none⟩ v).heap[g]? = some (.cells (xs.setIfInBounds k v) t f) := by
  have hlt := lt_of_block h
  have h' : W.heap[g] = .cells xs t f := by simpa [Array.getElem?_eq_getElem hlt] using h
  show (W.heap.modify g _)[g]? = _
  rw [Array.getElem?_eq_getElem (by simpa using hlt), Array.getElem_modify_self, h']
  rfl
theorem Box.put {W : World} {g : Nat} {b : Bool} {i u : Int} (h : Box W g b i u) (b' : Bool) (x y : Int) :
    Box (((W.setCell ⟨g, 0, none⟩ (.bool b')).setCell ⟨g, 1, none⟩ (.int .i64 x)).setCell ⟨g, 2, none⟩ (.int .u64 y)) g b' x y :=
  heap_set (heap_set (heap_set h _) _) _
theorem Box.putOther {W : World} {g k : Nat} {b : Bool} {i u : Int} (h : Box W g b i u) (hk : g ≠ k) (x y z : Value) :
    Box (((W.setCell ⟨k, 0, none⟩ x).setCell ⟨k, 1, none⟩ y).setCell ⟨k, 2, none⟩ z) g b i u := by
  unfold Box at *
  rw [Below.heap_setCell _ _ _ _ hk, Below.heap_setCell _ _ _ _ hk, Below.heap_setCell _ _ _ _ hk]; exact h
theorem setAt {w W : World} (L : Below w.heap.size w W) {g : Nat} (hg : w.heap.size ≤ g) (x y z : Value) :
    Below w.heap.size w (((W.setCell ⟨g, 0, none⟩ x).setCell ⟨g, 1, none⟩ y).setCell ⟨g, 2, none⟩ z) :=
  ((L.setCell hg x).setCell hg y).setCell hg z
theorem leq_tt {p a : Int} (h : p ≤ a) (u v : Int) : nLessEq true p u true a v = true := by
  have e : nLessEq true p u true a v = decide (Fl.cmp3 (p * Fl.U) (a * Fl.U) ≤ 0) := rfl
  rw [e, Fl.cmp3_mul]
  refine decide_eq_true ?_
  unfold Fl.cmp3
  split
  · omega
  · split <;> omega

theorem lower_neg (r b : Int) (h : b < 0) : lowerB r b = decide (0 < r) := by
  unfold lowerB
  rw [decide_eq_true h]
  rcases Int.lt_trichotomy r 0 with c | c | c
  · rw [decide_eq_true c, decide_eq_false (show ¬ 0 < r by omega)]; simp
  · subst c; rfl
  · rw [decide_eq_false (show ¬ r < 0 by omega), decide_eq_true c]; simp; omega
theorem rests_facts {a b : Int} (ha : fits a) (h0 : b ≠ 0) (_ : fits (a.fdiv b)) :
    (wrap64 (wrap64 (a.fdiv b * b) + a.fmod b) != a) = false ∧
        ((decide (0 < b) = true ∧ decide (0 ≤ a.fmod b) = true ∧ decide (a.fmod b < b) = true) ∨ (decide (0 < b) = false ∧ decide (a.fmod b ≤ 0) = true ∧ decide (b < a.fmod b) = true)) := by
  have h1 : a.fdiv b * b + a.fmod b = a := Int.fdiv_mul_add_fmod a b
  constructor
  · have e : wrap64 (wrap64 (a.fdiv b * b) + a.fmod b) = wrap64 (a.fdiv b * b + a.fmod b) := by
      generalize a.fdiv b * b = x; generalize a.fmod b = y; unfold wrap64; omega
    rw [e, h1, wrap_fits ha]; simp
  · rcases Int.lt_or_lt_of_ne h0 with h | h
    · right
      have h4 := fmod_lower (a := a) h0
      rw [lower_neg _ _ h] at h4
      have h6 := Nat.mod_lt a.natAbs (show 0 < b.natAbs by omega)
      rw [← Int.natAbs_tmod] at h6
      refine ⟨decide_eq_false (by omega), ?_⟩
      rw [h4]
      generalize a.tmod b = r at h6
      by_cases c : 0 < r
      · rw [if_pos (decide_eq_true c)]
        exact ⟨decide_eq_true (by omega), decide_eq_true (by omega)⟩
      · rw [if_neg (by rw [decide_eq_false c]; exact Bool.false_ne_true)]
        exact ⟨decide_eq_true (by omega), decide_eq_true (by omega)⟩
    · left
      exact ⟨decide_eq_true h, decide_eq_true (Int.fmod_nonneg_of_pos a h), decide_eq_true (Int.fmod_lt_of_pos a h)⟩
end Go.Proofs.Ytieddikacnmhlaa

/- Just one of less, the same and greater holds of two numbers that are no NaN; less and the same lead on, across whole numbers and doubles. For every input; no condition. -/
import Derived.Test.YtieddikacnmhlaaThreeL1
import Derived.Test.YtieddikacnmhlaaThreeL2
import Derived.Test.YtieddikacnmhlaaThreeS1
import Derived.Test.YtieddikacnmhlaaThreeS2
import Derived.Test.YtieddikacnmhlaaThreeM
namespace Go.Proofs.Ytieddikacnmhlaa
open Go.RowKit
set_option linter.unusedVariables false

theorem three_l (p q : Bool) (i u j v : Int) (hi : fits i) (hj : fits j) {b : Bool} (h : nLess p i u q j v = b) : ∀ w, Calls Try.prog 52 #[numV p i u, numV q j v] w fun e w' => e = .returned (.bool b) ∧ Below w.heap.size w w' := by
  subst h; exact numLess_calls p q i u j v hi hj
theorem three_e (p q : Bool) (i u j v : Int) (hi : fits i) (hj : fits j) {b : Bool} (h : nLessEq p i u q j v = b) : ∀ w, Calls Try.prog 54 #[numV p i u, numV q j v] w fun e w' => e = .returned (.bool b) ∧ Below w.heap.size w w' := by
  subst h; exact numLessEq_calls p q i u j v hi hj
theorem three_q (p q : Bool) (i u j v : Int) (hi : fits i) (hj : fits j) {b : Bool} (h : nEqual p i u q j v = b) : ∀ w, Calls Try.prog 56 #[numV p i u, numV q j v] w fun e w' => e = .returned (.bool b) ∧ Below w.heap.size w w' := by
  subst h; exact numEqual_calls p q i u j v hi hj
theorem three_n (p : Bool) (i u : Int) (h0 : 0 ≤ u) (h1 : u < 18446744073709551616) {b : Bool} (h : xnan p u = b) : ∀ w, Calls Try.prog 59 #[numV p i u] w fun e w' => e = .returned (.bool b) ∧ Below w.heap.size w w' := by
  subst h; exact lawNan_calls p i u h0 h1

theorem numThree_walk (p : Bool) (i u : Int) (q : Bool) (j v : Int) (r : Bool) (k x : Int) (w : World) (wi : (Lit.int .i64 i).wf = true) (wu : (Lit.int .u64 u).wf = true)
    (wj : (Lit.int .i64 j).wf = true) (wv : (Lit.int .u64 v).wf = true) (wk : (Lit.int .i64 k).wf = true) (wx : (Lit.int .u64 x).wf = true) :
    Calls Try.prog 13 #[numV p i u, numV q j v, numV r k x] w fun e w' => e = .returned (.bool true) ∧ Below w.heap.size w w' := by
  have hi : fits i := i64_range wi
  have hj : fits j := i64_range wj
  have hk : fits k := i64_range wk
  obtain ⟨u0, u1⟩ := u64_range wu
  obtain ⟨v0, v1⟩ := u64_range wv
  cases na : xnan p u
  · cases nb : xnan q v
    · generalize hX : xval p i u = X
      generalize hY : xval q j v = Y
      generalize hZ : xval r k x = Z
      have lab : nLess p i u q j v = decide (X < Y) := by rw [nLess_tell, na, nb, hX, hY]; rfl
      have lba : nLess q j v p i u = decide (Y < X) := by rw [nLess_tell, na, nb, hX, hY]; rfl
      have eab : nLessEq p i u q j v = decide (X ≤ Y) := by rw [nLessEq_tell, na, nb, hX, hY]; rfl
      have eba : nLessEq q j v p i u = decide (Y ≤ X) := by rw [nLessEq_tell, na, nb, hX, hY]; rfl
      have qab : nEqual p i u q j v = decide (X = Y) := by rw [nEqual_tell, na, nb, hX, hY]; rfl
      have qba : nEqual q j v p i u = decide (Y = X) := by rw [nEqual_tell, na, nb, hX, hY]; rfl
      have qaa : nEqual p i u p i u = true := by rw [nEqual_tell, na, hX]; simp
      have ebc : nLessEq q j v r k x = (!xnan r x && decide (Y ≤ Z)) := by rw [nLessEq_tell, nb, hY, hZ]; rfl
      have eac : nLessEq p i u r k x = (!xnan r x && decide (X ≤ Z)) := by rw [nLessEq_tell, na, hX, hZ]; rfl
      have lac : nLess p i u r k x = (!xnan r x && decide (X < Z)) := by rw [nLess_tell, na, hX, hZ]; rfl
      have qbc : nEqual q j v r k x = (!xnan r x && decide (Y = Z)) := by rw [nEqual_tell, nb, hY, hZ]; rfl
      have qac : nEqual p i u r k x = (!xnan r x && decide (X = Z)) := by rw [nEqual_tell, na, hX, hZ]; rfl
      have n1 := three_n p i u u0 u1 na
      have n2 := three_n q j v v0 v1 nb
      rcases Int.lt_trichotomy X Y with c | c | c
      · have A1 := three_l p q i u j v hi hj (lab.trans (decide_eq_true c))
        have A2 := three_q p q i u j v hi hj (qab.trans (decide_eq_false (by omega)))
        have A3 := three_l q p j v i u hj hi (lba.trans (decide_eq_false (by omega)))
        have A4 := three_e p q i u j v hi hj (eab.trans (decide_eq_true (by omega)))
        have A5 := three_e q p j v i u hj hi (eba.trans (decide_eq_false (by omega)))
        have A6 := three_q q p j v i u hj hi (qba.trans (decide_eq_false (by omega)))
        have A9 := three_q p p i u i u hi hi qaa
        cases hb : nLessEq q j v r k x
        · exact numThree_l2 p q r _ _ _ _ i u j v k x w A1 A2 A3 n1 n2 A4 A5 A6 (three_e q r j v k x hj hk hb) (three_e p r i u k x hi hk rfl) (three_l p r i u k x hi hk rfl) (three_q q r j v k x hj hk rfl) (three_q p r i u k x hi hk rfl) A9 trivial
        · rw [ebc, Bool.and_eq_true, decide_eq_true_eq] at hb
          exact numThree_l1 p q r _ _ i u j v k x w A1 A2 A3 n1 n2 A4 A5 A6 (three_e q r j v k x hj hk (by rw [ebc, hb.1, decide_eq_true hb.2]; rfl))
            (three_e p r i u k x hi hk (by rw [eac, hb.1, decide_eq_true (show X ≤ Z by omega)]; rfl)) (three_l p r i u k x hi hk (by rw [lac, hb.1, decide_eq_true (show X < Z by omega)]; rfl)) (three_q q r j v k x hj hk rfl) (three_q p r i u k x hi hk rfl) A9 trivial
      · have A1 := three_l p q i u j v hi hj (lab.trans (decide_eq_false (by omega)))
        have A2 := three_q p q i u j v hi hj (qab.trans (decide_eq_true c))
        have A3 := three_l q p j v i u hj hi (lba.trans (decide_eq_false (by omega)))
        have A4 := three_e p q i u j v hi hj (eab.trans (decide_eq_true (by omega)))
        have A5 := three_e q p j v i u hj hi (eba.trans (decide_eq_true (by omega)))
        have A6 := three_q q p j v i u hj hi (qba.trans (decide_eq_true (by omega)))
        have A9 := three_q p p i u i u hi hi qaa
        have ne : (nEqual q j v r k x != nEqual p i u r k x) = false := by rw [qbc, qac, c]; simp
        cases hb : nLessEq q j v r k x
        · exact numThree_s2 p q r _ _ _ _ i u j v k x w A1 A2 A3 n1 n2 A4 A5 A6 (three_e q r j v k x hj hk hb) (three_e p r i u k x hi hk rfl) (three_l p r i u k x hi hk rfl) (three_q q r j v k x hj hk rfl) (three_q p r i u k x hi hk rfl) A9 ne
        · rw [ebc, Bool.and_eq_true, decide_eq_true_eq] at hb
          exact numThree_s1 p q r _ _ _ i u j v k x w A1 A2 A3 n1 n2 A4 A5 A6 (three_e q r j v k x hj hk (by rw [ebc, hb.1, decide_eq_true hb.2]; rfl))
            (three_e p r i u k x hi hk (by rw [eac, hb.1, decide_eq_true (show X ≤ Z by omega)]; rfl)) (three_l p r i u k x hi hk rfl) (three_q q r j v k x hj hk rfl) (three_q p r i u k x hi hk rfl) A9 ne
      · have A1 := three_l p q i u j v hi hj (lab.trans (decide_eq_false (by omega)))
        have A2 := three_q p q i u j v hi hj (qab.trans (decide_eq_false (by omega)))
        have A3 := three_l q p j v i u hj hi (lba.trans (decide_eq_true c))
        have A4 := three_e p q i u j v hi hj (eab.trans (decide_eq_false (by omega)))
        have A5 := three_e q p j v i u hj hi (eba.trans (decide_eq_true (by omega)))
        have A6 := three_q q p j v i u hj hi (qba.trans (decide_eq_false (by omega)))
        have A9 := three_q p p i u i u hi hi qaa
        exact numThree_m p q r _ _ _ _ _ i u j v k x w A1 A2 A3 n1 n2 A4 A5 A6 (three_e q r j v k x hj hk rfl) (three_e p r i u k x hi hk rfl) (three_l p r i u k x hi hk rfl) (three_q q r j v k x hj hk rfl) (three_q p r i u k x hi hk rfl) A9 trivial
    · have t : (xnan p u || xnan q v) = true := by rw [nb]; simp
      have t2 : (xnan q v || xnan p u) = true := by rw [nb]; simp
      exact numThree_nan2 p q r i u j v k x w (three_l p q i u j v hi hj (by rw [nLess_tell, t]; rfl)) (three_q p q i u j v hi hj (by rw [nEqual_tell, t]; rfl)) (three_l q p j v i u hj hi (by rw [nLess_tell, t2]; rfl))
        (three_e p q i u j v hi hj (by rw [nLessEq_tell, t]; rfl)) (three_e q p j v i u hj hi (by rw [nLessEq_tell, t2]; rfl)) (three_n p i u u0 u1 na) (three_n q j v v0 v1 nb)
  · have t : (xnan p u || xnan q v) = true := by rw [na]; simp
    have t2 : (xnan q v || xnan p u) = true := by rw [na]; simp
    exact numThree_nan1 p q r i u j v k x w (three_l p q i u j v hi hj (by rw [nLess_tell, t]; rfl)) (three_q p q i u j v hi hj (by rw [nEqual_tell, t]; rfl)) (three_l q p j v i u hj hi (by rw [nLess_tell, t2]; rfl))
      (three_e p q i u j v hi hj (by rw [nLessEq_tell, t]; rfl)) (three_e q p j v i u hj hi (by rw [nLessEq_tell, t2]; rfl)) (three_n p i u u0 u1 na)
end Go.Proofs.Ytieddikacnmhlaa

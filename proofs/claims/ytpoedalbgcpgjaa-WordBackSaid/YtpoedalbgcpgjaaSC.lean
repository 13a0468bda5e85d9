/- What On does with a site, as a plain function; the program's and the reference's. -/
import Derived.Test.YtpoedalbgcpgjaaSBp
import Derived.Test.YtpoedalbgcpgjaaSBr
namespace Go.Proofs.Ytpoedalbgcpgjaa
open Go.RowKit
set_option linter.unusedVariables false
set_option linter.unusedSimpArgs false

/-- What On answers, and the site behind it. -/
structure OS where
  x : Int
  f : Int
  e : Int
  h : Int
  l : Int
  k : Int
  r : Int
def onP (p f e h l k r : Int) : OS :=
  if p = 1 ∨ p = 2 then
    if f = p then ⟨p, p, e, wrap64 (h + 1), l, k, r⟩
    else if f ≠ 0 then ⟨0, 0, wrap64 (e + 1), h, wrap64 (l + 1), p, 1⟩
    else if k = p then
      if r = 0 then ⟨0, 0, wrap64 (e + 1), h, l, p, 1⟩ else if r = 1 then ⟨0, 0, wrap64 (e + 1), h, l, p, 2⟩
      else if l < 4 then ⟨0, p, wrap64 (e + 1), h, l, 0, 0⟩ else ⟨0, 0, wrap64 (e + 1), h, l, p, 3⟩
    else ⟨0, 0, wrap64 (e + 1), h, l, p, 1⟩
  else if f ≠ 0 then ⟨0, 0, wrap64 (e + 1), h, wrap64 (l + 1), 0, 0⟩ else ⟨0, 0, wrap64 (e + 1), h, l, k, 0⟩
def onR (p f e h l k r : Int) : OS :=
  if p = 1 ∨ p = 2 then
    if f = p then ⟨p, p, e, wrap64 (h + 1), l, k, r⟩
    else if f ≠ 0 then ⟨0, 0, wrap64 (e + 1), h, wrap64 (l + 1), p, 1⟩
    else if r ≠ 0 ∧ k = p then
      if r = 1 then ⟨0, 0, wrap64 (e + 1), h, l, p, 2⟩
      else if l < 4 then ⟨0, p, wrap64 (e + 1), h, l, p, 0⟩ else ⟨0, 0, wrap64 (e + 1), h, l, p, 3⟩
    else ⟨0, 0, wrap64 (e + 1), h, l, p, 1⟩
  else if f ≠ 0 then ⟨0, 0, wrap64 (e + 1), h, wrap64 (l + 1), k, 0⟩ else ⟨0, 0, wrap64 (e + 1), h, l, k, 0⟩

theorem on_calls (g : Nat) (p f a e h l k r : Int) (w : World) (s : SB w g 70 a f e h l k r) (hr : 0 ≤ r ∧ r ≤ 3) :
    Calls Try.prog 33 #[.pointer (some ⟨g, 0, none⟩), .int .i64 p] w fun x w' => x = .returned (.int .i64 (onP p f e h l k r).x) ∧
      SB w' g 70 a (onP p f e h l k r).f (onP p f e h l k r).e (onP p f e h l k r).h (onP p f e h l k r).l (onP p f e h l k r).k (onP p f e h l k r).r ∧ Chg g w w' := by
  have rr : r = 0 ∨ r = 1 ∨ r = 2 ∨ r = 3 := by omega
  unfold onP
  by_cases c1 : p = 1 ∨ p = 2
  · rw [if_pos c1]
    by_cases c2 : f = p
    · rw [if_pos c2]; subst c2
      rcases c1 with rfl | rfl
      · exact on_fast1 g e h l k r a w s
      · exact on_fast2 g e h l k r a w s
    · rw [if_neg c2]
      by_cases c3 : f = 0
      · rw [if_neg (fun n => n c3)]; subst c3
        by_cases c4 : k = p
        · rw [if_pos c4]; subst c4
          by_cases c5 : l < 4
          · rcases rr with rfl | rfl | rfl | rfl <;> simp only [if_true, if_pos c5, Int.reduceEq, if_false] <;> rcases c1 with rfl | rfl
            · exact on_same10 g e h l a w s
            · exact on_same20 g e h l a w s
            · exact on_same11 g e h l a w s
            · exact on_same21 g e h l a w s
            · exact on_warm12 g e h l a w s (decide_eq_true c5)
            · exact on_warm22 g e h l a w s (decide_eq_true c5)
            · exact on_warm13 g e h l a w s (decide_eq_true c5)
            · exact on_warm23 g e h l a w s (decide_eq_true c5)
          · rcases rr with rfl | rfl | rfl | rfl <;> simp only [if_true, if_neg c5, Int.reduceEq, if_false] <;> rcases c1 with rfl | rfl
            · exact on_same10 g e h l a w s
            · exact on_same20 g e h l a w s
            · exact on_same11 g e h l a w s
            · exact on_same21 g e h l a w s
            · exact on_stay12 g e h l a w s (decide_eq_false c5)
            · exact on_stay22 g e h l a w s (decide_eq_false c5)
            · exact on_stay13 g e h l a w s (decide_eq_false c5)
            · exact on_stay23 g e h l a w s (decide_eq_false c5)
        · rw [if_neg c4]
          rcases c1 with rfl | rfl
          · exact on_new1 g e h l k r a w s (beq_eq_false_iff_ne.2 (fun q => c4 q.symm))
          · exact on_new2 g e h l k r a w s (beq_eq_false_iff_ne.2 (fun q => c4 q.symm))
      · rw [if_pos c3]
        rcases c1 with rfl | rfl
        · exact on_guard1 g f e h l k r a w s (bne_iff_ne.2 c3) (beq_eq_false_iff_ne.2 c2)
        · exact on_guard2 g f e h l k r a w s (bne_iff_ne.2 c3) (beq_eq_false_iff_ne.2 c2)
  · rw [if_neg c1]
    have n1 : (p != 1) = true := bne_iff_ne.2 (fun q => c1 (.inl q))
    have n2 : (p != 2) = true := bne_iff_ne.2 (fun q => c1 (.inr q))
    by_cases c3 : f = 0
    · rw [if_neg (fun n => n c3)]; subst c3
      exact on_gen0 g e h l k r p a w s n1 n2
    · rw [if_pos c3]
      exact on_guard0 g f e h l k r p a w s n1 n2 (bne_iff_ne.2 c3) (beq_eq_false_iff_ne.2 c3)

theorem ref_calls (g : Nat) (p f a e h l k r : Int) (w : World) (s : SB w g 57 a f e h l k r) (hr : 0 ≤ r ∧ r ≤ 3) :
    Calls Try.prog 45 #[.pointer (some ⟨g, 0, none⟩), .int .i64 p] w fun x w' => x = .returned (.int .i64 (onR p f e h l k r).x) ∧
      SB w' g 57 a (onR p f e h l k r).f (onR p f e h l k r).e (onR p f e h l k r).h (onR p f e h l k r).l (onR p f e h l k r).k (onR p f e h l k r).r ∧ Chg g w w' := by
  have rr : r = 0 ∨ r = 1 ∨ r = 2 ∨ r = 3 := by omega
  unfold onR
  by_cases c1 : p = 1 ∨ p = 2
  · rw [if_pos c1]
    by_cases c2 : f = p
    · rw [if_pos c2]; subst c2
      rcases c1 with rfl | rfl
      · exact ref_fast1 g e h l k r a w s
      · exact ref_fast2 g e h l k r a w s
    · rw [if_neg c2]
      by_cases c3 : f = 0
      · rw [if_neg (fun n => n c3)]; subst c3
        by_cases c4 : k = p
        · subst c4
          by_cases c5 : l < 4
          · rcases rr with rfl | rfl | rfl | rfl <;> simp only [if_true, if_pos c5, Int.reduceEq, if_false, ne_eq, not_true_eq_false, not_false_eq_true, and_true, false_and, true_and] <;> rcases c1 with rfl | rfl
            · exact ref_zero1 g e h l 1 a w s
            · exact ref_zero2 g e h l 2 a w s
            · exact ref_same11 g e h l a w s
            · exact ref_same21 g e h l a w s
            · exact ref_warm12 g e h l a w s (decide_eq_true c5)
            · exact ref_warm22 g e h l a w s (decide_eq_true c5)
            · exact ref_warm13 g e h l a w s (decide_eq_true c5)
            · exact ref_warm23 g e h l a w s (decide_eq_true c5)
          · rcases rr with rfl | rfl | rfl | rfl <;> simp only [if_true, if_neg c5, Int.reduceEq, if_false, ne_eq, not_true_eq_false, not_false_eq_true, and_true, false_and, true_and] <;> rcases c1 with rfl | rfl
            · exact ref_zero1 g e h l 1 a w s
            · exact ref_zero2 g e h l 2 a w s
            · exact ref_same11 g e h l a w s
            · exact ref_same21 g e h l a w s
            · exact ref_stay12 g e h l a w s (decide_eq_false c5)
            · exact ref_stay22 g e h l a w s (decide_eq_false c5)
            · exact ref_stay13 g e h l a w s (decide_eq_false c5)
            · exact ref_stay23 g e h l a w s (decide_eq_false c5)
        · rw [if_neg (fun q => c4 q.2)]
          rcases rr with rfl | rfl | rfl | rfl <;> rcases c1 with rfl | rfl
          · exact ref_zero1 g e h l k a w s
          · exact ref_zero2 g e h l k a w s
          · exact ref_new11 g e h l k a w s (beq_eq_false_iff_ne.2 c4)
          · exact ref_new21 g e h l k a w s (beq_eq_false_iff_ne.2 c4)
          · exact ref_new12 g e h l k a w s (beq_eq_false_iff_ne.2 c4)
          · exact ref_new22 g e h l k a w s (beq_eq_false_iff_ne.2 c4)
          · exact ref_new13 g e h l k a w s (beq_eq_false_iff_ne.2 c4)
          · exact ref_new23 g e h l k a w s (beq_eq_false_iff_ne.2 c4)
      · rw [if_pos c3]
        rcases c1 with rfl | rfl
        · exact ref_guard1 g f e h l k r a w s (bne_iff_ne.2 c3) (beq_eq_false_iff_ne.2 c2)
        · exact ref_guard2 g f e h l k r a w s (bne_iff_ne.2 c3) (beq_eq_false_iff_ne.2 c2)
  · rw [if_neg c1]
    have n1 : (p != 1) = true := bne_iff_ne.2 (fun q => c1 (.inl q))
    have n2 : (p != 2) = true := bne_iff_ne.2 (fun q => c1 (.inr q))
    by_cases c3 : f = 0
    · rw [if_neg (fun n => n c3)]; subst c3
      exact ref_gen0 g e h l k r p a w s n1 n2
    · rw [if_pos c3]
      exact ref_guard0 g f e h l k r p a w s n1 n2 (bne_iff_ne.2 c3) (beq_eq_false_iff_ne.2 c3)

/-- Force -/
theorem force_bad (g : Nat) (v a f e h l k r : Int) (w : World) (s : SB w g 70 a f e h l k r) (hv : ¬ (0 ≤ v ∧ v ≤ 2)) :
    Calls Try.prog 43 #[.pointer (some ⟨g, 0, none⟩), .int .i64 v] w fun x w' => x = .returned (.int .i64 1) ∧ w = w' := by
  by_cases c : v < 0
  · have c1 : decide (v < 0) = true := decide_eq_true c
    go_enter Try.func43, Try.ntmps43
    go_wp2
    go_ret
    exact ⟨rfl, rfl⟩
  · have c1 : decide (v < 0) = false := decide_eq_false c
    have c2 : decide (v ≥ 3) = true := decide_eq_true (by omega)
    go_enter Try.func43, Try.ntmps43
    go_wp2
    go_ret
    exact ⟨rfl, rfl⟩
theorem force_good (g : Nat) (v a f e h l k r : Int) (w : World) (s : SB w g 70 a f e h l k r) (hv : 0 ≤ v ∧ v ≤ 2) :
    Calls Try.prog 43 #[.pointer (some ⟨g, 0, none⟩), .int .i64 v] w fun x w' => x = .returned (.int .i64 0) ∧ SB w' g 70 a v e h l 0 0 ∧ Chg g w w' := by
  have c1 : decide (v < 0) = false := decide_eq_false (by omega)
  have c2 : decide (v ≥ 3) = false := decide_eq_false (by omega)
  go_enter Try.func43, Try.ntmps43
  go_wp2_with fail
  refine (become_calls g _ _ _ _ _ _ _ _ _ s).mono ?_
  rintro x w' ⟨rfl, S, C⟩
  go_wp2
  go_ret
  exact ⟨rfl, S, C⟩
theorem refForce_bad (g : Nat) (v a f e h l k r : Int) (w : World) (s : SB w g 57 a f e h l k r) (hv : ¬ (0 ≤ v ∧ v ≤ 2)) :
    Calls Try.prog 44 #[.pointer (some ⟨g, 0, none⟩), .int .i64 v] w fun x w' => x = .returned (.int .i64 1) ∧ w = w' := by
  by_cases c : v < 0
  · have c1 : decide (v < 0) = true := decide_eq_true c
    go_enter Try.func44, Try.ntmps44
    go_wp2
    go_ret
    exact ⟨rfl, rfl⟩
  · have c1 : decide (v < 0) = false := decide_eq_false c
    have c2 : decide (v > 2) = true := decide_eq_true (by omega)
    go_enter Try.func44, Try.ntmps44
    go_wp2
    go_ret
    exact ⟨rfl, rfl⟩
theorem refForce_good (g : Nat) (v a f e h l k r : Int) (w : World) (s : SB w g 57 a f e h l k r) (hv : 0 ≤ v ∧ v ≤ 2) :
    Calls Try.prog 44 #[.pointer (some ⟨g, 0, none⟩), .int .i64 v] w fun x w' => x = .returned (.int .i64 0) ∧ SB w' g 57 a v e h l k 0 ∧ Chg g w w' := by
  have c1 : decide (v < 0) = false := decide_eq_false (by omega)
  have c2 : decide (v > 2) = false := decide_eq_false (by omega)
  obtain ⟨x0, x1, x2, x3, x4, x5, x6, xf⟩ := s.cells
  go_enter Try.func44, Try.ntmps44
  go_wp2
  go_ret
  exact ⟨rfl, SB.set6 (SB.set1 s), ((Chg.refl g w).set _ _).set _ _⟩
end Go.Proofs.Ytpoedalbgcpgjaa

/- What stays true of a site that is executed and forced; and of one that is executed with pairs of one kind alone. -/
import Derived.Test.YtpoedalbgcpgjaaStops
namespace Go.Proofs.Ytpoedalbgcpgjaa
open Go.RowKit
set_option linter.unusedVariables false
set_option linter.unusedSimpArgs false

def Inv2 (j f e h l k r : Int) : Prop := 0 ≤ e ∧ 0 ≤ h ∧ e + h ≤ j ∧ j ≤ 600 ∧ 0 ≤ l ∧ l ≤ j ∧ 0 ≤ f ∧ f ≤ 2 ∧ 0 ≤ r ∧ r ≤ 3
theorem inv2_on {p j f e h l k r : Int} (I : Inv2 j f e h l k r) (hj : j ≤ 599) {x f' e' h' l' k' r' : Int} (o : onP p f e h l k r = ⟨x, f', e', h', l', k', r'⟩) : Inv2 (j + 1) f' e' h' l' k' r' := by
  unfold Inv2 at I ⊢
  obtain ⟨h0, h1, h2, h3, h4, h5, h6, h7, h8, h9⟩ := I
  unfold onP at o
  rw [w_id (show 0 ≤ e + 1 by omega) (by omega), w_id (show 0 ≤ h + 1 by omega) (by omega), w_id (show 0 ≤ l + 1 by omega) (by omega)] at o
  split at o
  · split at o
    · injection o with a b c d e2 f2 g2; omega
    · split at o
      · injection o with a b c d e2 f2 g2; omega
      · split at o
        · split at o
          · injection o with a b c d e2 f2 g2; omega
          · split at o
            · injection o with a b c d e2 f2 g2; omega
            · split at o
              · injection o with a b c d e2 f2 g2; omega
              · injection o with a b c d e2 f2 g2; omega
        · injection o with a b c d e2 f2 g2; omega
  · split at o
    · injection o with a b c d e2 f2 g2; omega
    · injection o with a b c d e2 f2 g2; omega

/-- i executions with pairs of kind q, from a site with e0, h0, l0. -/
def Inv3 (q i e0 h0 l0 f e h l k r : Int) : Prop := 0 ≤ r ∧ r ≤ 3 ∧ l = l0 ∧ 0 ≤ i ∧
  ((f = q ∧ e0 ≤ e ∧ e ≤ e0 + 3 ∧ h0 ≤ h ∧ e + h = e0 + h0 + i) ∨ (f = 0 ∧ h = h0 ∧ e = e0 + i ∧ i ≤ 2 ∧ (i = 0 ∨ (k = q ∧ i ≤ r))))
theorem inv3_on {q i e0 h0 l0 f e h l k r : Int} (hq : q = 1 ∨ q = 2) (I : Inv3 q i e0 h0 l0 f e h l k r) (hi : i ≤ 100) (he : 0 ≤ e0 ∧ 0 ≤ h0 ∧ e0 + h0 ≤ 600 ∧ 0 ≤ l0 ∧ l0 < 4) {x f' e' h' l' k' r' : Int}
    (o : onP q f e h l k r = ⟨x, f', e', h', l', k', r'⟩) : Inv3 q (i + 1) e0 h0 l0 f' e' h' l' k' r' := by
  unfold Inv3 at I ⊢
  obtain ⟨h0', h1, rfl, hi0, hh⟩ := I
  unfold onP at o
  rw [if_pos hq, w_id (show 0 ≤ e + 1 by omega) (by omega), w_id (show 0 ≤ h + 1 by omega) (by omega), w_id (show 0 ≤ l + 1 by omega) (by omega)] at o
  split at o
  · injection o with a b c d e2 f2 g2; omega
  · split at o
    · injection o with a b c d e2 f2 g2; omega
    · split at o
      · split at o
        · injection o with a b c d e2 f2 g2; omega
        · split at o
          · injection o with a b c d e2 f2 g2; omega
          · split at o
            · injection o with a b c d e2 f2 g2; omega
            · injection o with a b c d e2 f2 g2; omega
      · injection o with a b c d e2 f2 g2; omega

/-- Force, whatever it answers. -/
theorem force_any (g : Nat) (v j a f e h l k r : Int) (w : World) (s : SB w g 70 a f e h l k r) (I : Inv2 j f e h l k r) (hj : j ≤ 599) :
    Calls Try.prog 43 #[.pointer (some ⟨g, 0, none⟩), .int .i64 v] w fun x w' => ∃ c f' e' h' l' k' r', x = .returned (.int .i64 c) ∧ SB w' g 70 a f' e' h' l' k' r' ∧ Chg g w w' ∧ Inv2 (j + 1) f' e' h' l' k' r' := by
  by_cases c : 0 ≤ v ∧ v ≤ 2
  · refine (force_good g v a f e h l k r w s c).mono ?_
    rintro x w' ⟨rfl, S, C⟩
    exact ⟨_, _, _, _, _, _, _, rfl, S, C, by unfold Inv2 at I ⊢; omega⟩
  · refine (force_bad g v a f e h l k r w s c).mono ?_
    rintro x w' ⟨rfl, rfl⟩
    exact ⟨_, _, _, _, _, _, _, rfl, s, Chg.refl g w, by unfold Inv2 at I ⊢; omega⟩
/-- On, whatever it answers. -/
theorem on_any (g : Nat) (p j a f e h l k r : Int) (w : World) (s : SB w g 70 a f e h l k r) (I : Inv2 j f e h l k r) (hj : j ≤ 599) :
    Calls Try.prog 33 #[.pointer (some ⟨g, 0, none⟩), .int .i64 p] w fun x w' => ∃ c f' e' h' l' k' r', x = .returned (.int .i64 c) ∧ SB w' g 70 a f' e' h' l' k' r' ∧ Chg g w w' ∧ Inv2 (j + 1) f' e' h' l' k' r' := by
  have H := on_calls g p f a e h l k r w s (by unfold Inv2 at I; omega)
  rcases ho : onP p f e h l k r with ⟨x, f2, e2, h2, l2, k2, r2⟩
  rw [ho] at H
  refine H.mono ?_
  rintro y w' ⟨rfl, S, C⟩
  exact ⟨_, _, _, _, _, _, _, rfl, S, C, inv2_on I hj ho⟩
theorem on_kind (g : Nat) (q i e0 h0 l0 a f e h l k r : Int) (w : World) (s : SB w g 70 a f e h l k r) (hq : q = 1 ∨ q = 2) (I : Inv3 q i e0 h0 l0 f e h l k r) (hi : i ≤ 100) (he : 0 ≤ e0 ∧ 0 ≤ h0 ∧ e0 + h0 ≤ 600 ∧ 0 ≤ l0 ∧ l0 < 4) :
    Calls Try.prog 33 #[.pointer (some ⟨g, 0, none⟩), .int .i64 q] w fun x w' => ∃ c f' e' h' l' k' r', x = .returned (.int .i64 c) ∧ SB w' g 70 a f' e' h' l' k' r' ∧ Chg g w w' ∧ Inv3 q (i + 1) e0 h0 l0 f' e' h' l' k' r' := by
  have H := on_calls g q f a e h l k r w s (by unfold Inv3 at I; omega)
  rcases ho : onP q f e h l k r with ⟨x, f2, e2, h2, l2, k2, r2⟩
  rw [ho] at H
  refine H.mono ?_
  rintro y w' ⟨rfl, S, C⟩
  exact ⟨_, _, _, _, _, _, _, rfl, S, C, inv3_on hq I hi he ho⟩

/-! The program's site beside the document's. -/
/-- rows alike -/
def Alike (r k k' : Int) : Prop := 0 ≤ r ∧ r ≤ 3 ∧ (r ≠ 0 → k = k')
theorem both_on (p f e h l k k' r : Int) (A : Alike r k k') : ∃ x f2 e2 h2 l2 k2 k3 r2, Alike r2 k2 k3 ∧ onP p f e h l k r = ⟨x, f2, e2, h2, l2, k2, r2⟩ ∧ onR p f e h l k' r = ⟨x, f2, e2, h2, l2, k3, r2⟩ := by
  unfold Alike at *
  obtain ⟨h0, h1, h2⟩ := A
  unfold onP onR
  by_cases c1 : p = 1 ∨ p = 2
  · rw [if_pos c1, if_pos c1]
    by_cases c2 : f = p
    · rw [if_pos c2, if_pos c2]; exact ⟨_, _, _, _, _, _, _, _, ⟨h0, h1, h2⟩, rfl, rfl⟩
    · rw [if_neg c2, if_neg c2]
      by_cases c3 : f = 0
      · have c3' : ¬ (f ≠ 0) := fun n => n c3
        rw [if_neg c3', if_neg c3']
        by_cases c5 : r = 0
        · rw [if_pos c5, if_neg (show ¬ (r ≠ 0 ∧ k' = p) from fun q => q.1 c5)]
          split <;> exact ⟨_, _, _, _, _, _, _, _, ⟨by decide, by decide, fun _ => rfl⟩, rfl, rfl⟩
        · rw [← h2 c5]
          by_cases c4 : k = p
          · rw [if_pos c4, if_pos (show r ≠ 0 ∧ k = p from ⟨c5, c4⟩), if_neg c5]
            split
            · exact ⟨_, _, _, _, _, _, _, _, ⟨by decide, by decide, fun _ => rfl⟩, rfl, rfl⟩
            · split
              · exact ⟨_, _, _, _, _, _, _, _, ⟨by decide, by decide, fun q => absurd rfl q⟩, rfl, rfl⟩
              · exact ⟨_, _, _, _, _, _, _, _, ⟨by decide, by decide, fun _ => rfl⟩, rfl, rfl⟩
          · rw [if_neg c4, if_neg (show ¬ (r ≠ 0 ∧ k = p) from fun q => c4 q.2)]
            exact ⟨_, _, _, _, _, _, _, _, ⟨by decide, by decide, fun _ => rfl⟩, rfl, rfl⟩
      · rw [if_pos c3, if_pos c3]
        exact ⟨_, _, _, _, _, _, _, _, ⟨by decide, by decide, fun _ => rfl⟩, rfl, rfl⟩
  · rw [if_neg c1, if_neg c1]
    split <;> exact ⟨_, _, _, _, _, _, _, _, ⟨by decide, by decide, fun q => absurd rfl q⟩, rfl, rfl⟩
end Go.Proofs.Ytpoedalbgcpgjaa

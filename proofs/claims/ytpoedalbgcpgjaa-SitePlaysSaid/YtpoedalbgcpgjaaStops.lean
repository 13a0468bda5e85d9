/- Guards fail at most four times without being forced; then the form stays generic. -/
import Derived.Test.YtpoedalbgcpgjaaSE
namespace Go.Proofs.Ytpoedalbgcpgjaa
open Go.RowKit
set_option linter.unusedVariables false
set_option linter.unusedSimpArgs false

/-- What holds of an unforced site after j executions. -/
def Inv (j f e h l k r : Int) : Prop := 0 ≤ e ∧ 0 ≤ h ∧ e + h = j ∧ j ≤ 600 ∧ 0 ≤ l ∧ l ≤ 4 ∧ (l = 4 → f = 0) ∧ 0 ≤ r ∧ r ≤ 3
theorem w_id {n : Int} (h0 : 0 ≤ n) (h1 : n ≤ 100000) : wrap64 n = n := by unfold wrap64; omega
theorem onP_facts {p j f e h l k r : Int} (I : Inv j f e h l k r) (hj : j ≤ 599) {x f' e' h' l' k' r' : Int} (o : onP p f e h l k r = ⟨x, f', e', h', l', k', r'⟩) :
    Inv (j + 1) f' e' h' l' k' r' ∧ l ≤ l' ∧ (l = 4 → x = 0 ∧ f' = 0) ∧ (x ≠ 0 → x = f ∧ f' = f) := by
  unfold Inv at I ⊢
  obtain ⟨h0, h1, h2, h3, h4, h5, h6, h7, h8⟩ := I
  unfold onP at o
  rw [w_id (show 0 ≤ e + 1 by omega) (by omega), w_id (show 0 ≤ h + 1 by omega) (by omega), w_id (show 0 ≤ l + 1 by omega) (by omega)] at o
  split at o
  · split at o
    · injection o with a b c d e2 f2 g2; omega
    · split at o
      · injection o with a b c d e2 f2 g2; omega
      · split at o
        · split at o
          · injection o with a b c d e2 f2 g2; omega
          · split at o
            · injection o with a b c d e2 f2 g2; omega
            · split at o
              · injection o with a b c d e2 f2 g2; omega
              · injection o with a b c d e2 f2 g2; omega
        · injection o with a b c d e2 f2 g2; omega
  · split at o
    · injection o with a b c d e2 f2 g2; omega
    · injection o with a b c d e2 f2 g2; omega

theorem below_cell {B : Nat} {w W : World} (L : Below B w W) {p : Addr} {v : Value} (hp : p.block < B) (h : w.cell? p = some v) : W.cell? p = some v := by
  rw [← h]
  unfold World.cell?
  rw [L.block p.block hp]
end Go.Proofs.Ytpoedalbgcpgjaa

/- Among pairs of one kind, one behind the other, at most three are done in the generic form. For every input; no condition. -/
import Derived.Test.YtpoedalbgcpgjaaSW1
import Derived.Test.YtpoedalbgcpgjaaSW2
namespace Go.Proofs.Ytpoedalbgcpgjaa
open Go.RowKit
set_option linter.unusedVariables false
set_option linter.unusedSimpArgs false

theorem warms_bada (a : Option Addr) (len cap : Nat) (q n : Int) (d0 : decide ((len : Int) > 500) = true) (w : World) :
    Calls Try.prog 11 #[.slice a len cap, .int .i64 q, .int .i64 n] w fun e w' => e = .returned (.bool true) ∧ Below w.heap.size w w' := by
  have L := Below.refl w.heap.size w
  go_enter Try.func11, Try.ntmps11
  go_wp2
  go_ret
  exact ⟨rfl, L⟩
theorem warms_badb (a : Option Addr) (len cap : Nat) (q n : Int) (d0 : decide ((len : Int) > 500) = false) (k1 : (q != 1) = true) (k2 : (q != 2) = true) (w : World) :
    Calls Try.prog 11 #[.slice a len cap, .int .i64 q, .int .i64 n] w fun e w' => e = .returned (.bool true) ∧ Below w.heap.size w w' := by
  have L := Below.refl w.heap.size w
  go_enter Try.func11, Try.ntmps11
  go_wp2
  go_ret
  exact ⟨rfl, L⟩
theorem warms_badc1 (a : Option Addr) (len cap : Nat) (q n : Int) (d0 : decide ((len : Int) > 500) = false) (k1 : (q != 1) = false) (n1 : decide (n < 0) = true) (w : World) :
    Calls Try.prog 11 #[.slice a len cap, .int .i64 q, .int .i64 n] w fun e w' => e = .returned (.bool true) ∧ Below w.heap.size w w' := by
  have L := Below.refl w.heap.size w
  go_enter Try.func11, Try.ntmps11
  go_wp2
  go_ret
  exact ⟨rfl, L⟩
theorem warms_badc2 (a : Option Addr) (len cap : Nat) (q n : Int) (d0 : decide ((len : Int) > 500) = false) (k1 : (q != 1) = true) (k2 : (q != 2) = false) (n1 : decide (n < 0) = true) (w : World) :
    Calls Try.prog 11 #[.slice a len cap, .int .i64 q, .int .i64 n] w fun e w' => e = .returned (.bool true) ∧ Below w.heap.size w w' := by
  have L := Below.refl w.heap.size w
  go_enter Try.func11, Try.ntmps11
  go_wp2
  go_ret
  exact ⟨rfl, L⟩
theorem warms_badd1 (a : Option Addr) (len cap : Nat) (q n : Int) (d0 : decide ((len : Int) > 500) = false) (k1 : (q != 1) = false) (n1 : decide (n < 0) = false) (n2 : decide (n > 100) = true) (w : World) :
    Calls Try.prog 11 #[.slice a len cap, .int .i64 q, .int .i64 n] w fun e w' => e = .returned (.bool true) ∧ Below w.heap.size w w' := by
  have L := Below.refl w.heap.size w
  go_enter Try.func11, Try.ntmps11
  go_wp2
  go_ret
  exact ⟨rfl, L⟩
theorem warms_badd2 (a : Option Addr) (len cap : Nat) (q n : Int) (d0 : decide ((len : Int) > 500) = false) (k1 : (q != 1) = true) (k2 : (q != 2) = false) (n1 : decide (n < 0) = false) (n2 : decide (n > 100) = true) (w : World) :
    Calls Try.prog 11 #[.slice a len cap, .int .i64 q, .int .i64 n] w fun e w' => e = .returned (.bool true) ∧ Below w.heap.size w w' := by
  have L := Below.refl w.heap.size w
  go_enter Try.func11, Try.ntmps11
  go_wp2
  go_ret
  exact ⟨rfl, L⟩
theorem siteWarms_walk (a : Option Addr) (len cap : Nat) (q n : Int) (w : World) (h : IsActs w a len) (_ : (Lit.int .i64 q).wf = true) (_ : (Lit.int .i64 n).wf = true) :
    Calls Try.prog 11 #[.slice a len cap, .int .i64 q, .int .i64 n] w fun e w' => e = .returned (.bool true) ∧ Below w.heap.size w w' := by
  by_cases c : len > 500
  · exact warms_bada a len cap q n (decide_eq_true (by omega)) w
  have d0 : decide ((len : Int) > 500) = false := decide_eq_false (by omega)
  have go : ∀ K : Int, K = 1 ∨ K = 2 → 0 ≤ n → n ≤ 100 → q = K → Calls Try.prog 11 #[.slice a len cap, .int .i64 q, .int .i64 n] w fun e w' => e = .returned (.bool true) ∧ Below w.heap.size w w' := by
    rintro K hK n0 n1 rfl
    have dn : decide (n < 0) = false := decide_eq_false (by omega)
    have dm : decide (n > 100) = false := decide_eq_false (by omega)
    by_cases z : len = 0
    · subst z
      rcases hK with rfl | rfl
      · exact warms_zero1 a cap n n0 n1 dn dm w
      · exact warms_zero2 a cap n n0 n1 dn dm w
    · rcases h with h | ⟨x, rfl, hx⟩
      · exact absurd h z
      obtain ⟨b, off, rfl, hb, hc⟩ := acts_at hx (by omega)
      rcases hK with rfl | rfl
      · exact warms_1 b off len cap n (by omega) d0 n0 n1 dn dm w hb hc
      · exact warms_2 b off len cap n (by omega) d0 n0 n1 dn dm w hb hc
  by_cases k1 : q = 1
  · by_cases n1 : n < 0
    · exact warms_badc1 a len cap q n d0 (bne_eq_false_iff_eq.2 k1) (decide_eq_true n1) w
    by_cases n2 : n > 100
    · exact warms_badd1 a len cap q n d0 (bne_eq_false_iff_eq.2 k1) (decide_eq_false n1) (decide_eq_true n2) w
    exact go 1 (.inl rfl) (by omega) (by omega) k1
  by_cases k2 : q = 2
  · by_cases n1 : n < 0
    · exact warms_badc2 a len cap q n d0 (bne_iff_ne.2 k1) (bne_eq_false_iff_eq.2 k2) (decide_eq_true n1) w
    by_cases n2 : n > 100
    · exact warms_badd2 a len cap q n d0 (bne_iff_ne.2 k1) (bne_eq_false_iff_eq.2 k2) (decide_eq_false n1) (decide_eq_true n2) w
    exact go 2 (.inr rfl) (by omega) (by omega) k2
  exact warms_badb a len cap q n d0 (bne_iff_ne.2 k1) (bne_iff_ne.2 k2) w
end Go.Proofs.Ytpoedalbgcpgjaa

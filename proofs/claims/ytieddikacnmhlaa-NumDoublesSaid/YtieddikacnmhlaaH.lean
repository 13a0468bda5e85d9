/- Contracts of num's and the reference's small functions on numbers: kinds, patterns, answers made. -/
import Derived.Test.YtieddikacnmhlaaG
namespace Go.Proofs.Ytieddikacnmhlaa
open Go.RowKit

/-- a number, as a value -/
abbrev numV (b : Bool) (i u : Int) : Value := .agg #[.bool b, .int .i64 i, .int .u64 u]

theorem balloc {B : Nat} {w W : World} (h : Below B w W) (hB : B ≤ W.heap.size) (o : Obj) : Below B w (W.alloc o) := h.alloc hB o
theorem bdraw {B : Nat} {w W : World} (h : Below B w W) (n : Nat) : Below B w (W.drewN n) := ⟨h.os, h.tape, h.output, h.size, h.block⟩

theorem cells42 : Try.prog.cellsOf 42 = 3 := by kernel_rfl
theorem cells41 : Try.prog.cellsOf 41 = 3 := by kernel_rfl
theorem cells4 : Try.prog.cellsOf 4 = 1 := by kernel_rfl
theorem cells2 : Try.prog.cellsOf 2 = 1 := by kernel_rfl
theorem cells22 : Try.prog.cellsOf 22 = 1 := by kernel_rfl
theorem cells26 : Try.prog.cellsOf 26 = 1 := by kernel_rfl

def bothI (a b : Bool) : Int := if a && b then 0 else if !a && !b then 1 else 2

set_option maxHeartbeats 800000 in
theorem both_calls (a b : Bool) (i u j v : Int) (w : World) : Calls Try.prog 114 #[numV a i u, numV b j v] w fun e w' => e = .returned (.int .i64 (bothI a b)) ∧ Below w.heap.size w w' := by
  cases a <;> cases b
  all_goals
    go_enter Try.func114, Try.ntmps114
    go_wp2
    go_ret
    exact ⟨rfl, balloc (balloc (Below.refl _ _) (Nat.le_refl _) _) (by simp) _⟩

def sPat (b : Bool) (i u : Int) : Int := if b then sInt i else u

set_option maxHeartbeats 800000 in
theorem numPattern_calls (a : Bool) (i u : Int) (w : World) : Calls Try.prog 103 #[numV a i u] w fun e w' => e = .returned (.int .u64 (sPat a i u)) ∧ Below w.heap.size w w' := by
  cases a
  all_goals
    go_enter Try.func103, Try.ntmps103
    go_wp2_with (go_at_call 33; refine (softFromInt_calls _ _).mono ?_; rintro e w' ⟨rfl, rfl⟩)
    go_ret
    exact ⟨rfl, balloc (Below.refl _ _) (Nat.le_refl _) _⟩

set_option maxHeartbeats 800000 in
theorem lawWhole_calls (i : Int) (w : World) : Calls Try.prog 61 #[.int .i64 i] w fun e w' => e = .returned (numV true i 0) ∧ Below w.heap.size w w' := by
  go_enter Try.func61, Try.ntmps61
  go_wp2
  exact bodyPost_ret (v := numV true i 0) (by simp [results, Try.results61, go_sem]) rfl ⟨rfl, balloc (Below.refl _ _) (Nat.le_refl _) _⟩
set_option maxHeartbeats 800000 in
theorem lawDouble_calls (u : Int) (w : World) : Calls Try.prog 72 #[.int .u64 u] w fun e w' => e = .returned (numV false 0 u) ∧ Below w.heap.size w w' := by
  go_enter Try.func72, Try.ntmps72
  go_wp2
  exact bodyPost_ret (v := numV false 0 u) (by simp [results, Try.results72, go_sem]) rfl ⟨rfl, balloc (Below.refl _ _) (Nat.le_refl _) _⟩
set_option maxHeartbeats 800000 in
theorem refWhole_calls (i : Int) (w : World) : Calls Try.prog 99 #[.int .i64 i] w fun e w' => e = .returned (numV true i 0) ∧ Below w.heap.size w w' := by
  go_enter Try.func99, Try.ntmps99
  go_wp2
  exact bodyPost_ret (v := numV true i 0) (by simp [results, Try.results99, go_sem]) rfl ⟨rfl, balloc (Below.refl _ _) (Nat.le_refl _) _⟩
set_option maxHeartbeats 800000 in
theorem refDouble_calls (u : Int) (w : World) : Calls Try.prog 95 #[.int .u64 u] w fun e w' => e = .returned (numV false 0 u) ∧ Below w.heap.size w w' := by
  go_enter Try.func95, Try.ntmps95
  go_wp2
  exact bodyPost_ret (v := numV false 0 u) (by simp [results, Try.results95, go_sem]) rfl ⟨rfl, balloc (Below.refl _ _) (Nat.le_refl _) _⟩
set_option maxHeartbeats 800000 in
theorem numWhole_calls (i : Int) (w : World) : Calls Try.prog 105 #[.int .i64 i] w fun e w' => e = .returned (.tuple #[numV true i 0, .int .i64 0]) ∧ Below w.heap.size w w' := by
  go_enter Try.func105, Try.ntmps105
  go_wp2
  exact bodyPost_ret (v := .tuple #[numV true i 0, .int .i64 0]) (by simp [results, Try.results105, go_sem]) rfl ⟨rfl, balloc (Below.refl _ _) (Nat.le_refl _) _⟩
set_option maxHeartbeats 800000 in
theorem numDouble_calls (u : Int) (w : World) : Calls Try.prog 102 #[.int .u64 u] w fun e w' => e = .returned (.tuple #[numV false 0 u, .int .i64 0]) ∧ Below w.heap.size w w' := by
  go_enter Try.func102, Try.ntmps102
  go_wp2
  exact bodyPost_ret (v := .tuple #[numV false 0 u, .int .i64 0]) (by simp [results, Try.results102, go_sem]) rfl ⟨rfl, balloc (Below.refl _ _) (Nat.le_refl _) _⟩
end Go.Proofs.Ytieddikacnmhlaa

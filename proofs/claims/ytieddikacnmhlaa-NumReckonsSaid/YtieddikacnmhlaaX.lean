/- casketref3's size, signed, floors. -/
import Derived.Test.YtieddikacnmhlaaJ
import Derived.Test.YtieddikacnmhlaaF
import Derived.IntWalk
import Derived.Deep.RegionWith
namespace Go.Proofs.Ytieddikacnmhlaa
open Go.RowKit
set_option linter.unusedVariables false

set_option maxHeartbeats 1600000 in
theorem size_calls (i : Int) (hi : fits i) (w : World) : Calls Try.prog 106 #[.int .i64 i] w fun e w' => e = .returned (.int .u64 i.natAbs) ∧ w = w' := by
  by_cases h : i < 0
  · have d : decide (i < 0) = true := decide_eq_true h
    have e : IntKind.u64.wrap (IntKind.u64.wrap (wrap64 (-wrap64 (i + 1))) + 1) = (i.natAbs : Int) := by
      rw [wrap_fits (show fits (i + 1) by unfold fits at *; omega), wrap_fits (show fits (-(i + 1)) by unfold fits at *; omega), IntWalk.u64_in (-(i + 1)) (by unfold fits at *; omega), IntWalk.u64_in _ (by unfold fits at *; omega)]
      omega
    clear h hi
    go_enter Try.func106, Try.ntmps106
    go_wp2
    go_ret
    exact ⟨by first | rfl | exact congrArg (fun z : Int => Ending.returned (.int .u64 z)) e, rfl⟩
  · have d : decide (i < 0) = false := decide_eq_false h
    have e : IntKind.u64.wrap i = (i.natAbs : Int) := by rw [IntWalk.u64_in _ (by unfold fits at *; omega)]; omega
    clear h hi
    go_enter Try.func106, Try.ntmps106
    go_wp2
    go_ret
    exact ⟨by first | rfl | exact congrArg (fun z : Int => Ending.returned (.int .u64 z)) e, rfl⟩

set_option maxHeartbeats 1600000 in
theorem signed_over (n : Int) (h : decide (n > 9223372036854775808) = true) (w : World) : Calls Try.prog 98 #[.int .u64 n, .bool true] w fun e w' => e = .returned (.tuple #[.int .i64 0, .bool false]) ∧ w = w' := by
  go_enter Try.func98, Try.ntmps98
  go_wp2
  go_ret2
  exact ⟨rfl, rfl⟩
set_option maxHeartbeats 1600000 in
theorem signed_zero (w : World) : Calls Try.prog 98 #[.int .u64 0, .bool true] w fun e w' => e = .returned (.tuple #[.int .i64 0, .bool true]) ∧ w = w' := by
  go_enter Try.func98, Try.ntmps98
  go_wp2
  go_ret2
  exact ⟨rfl, rfl⟩
set_option maxHeartbeats 1600000 in
theorem signed_minus (n : Int) (h0 : 0 < n) (hx : n ≤ 9223372036854775808) (w : World) : Calls Try.prog 98 #[.int .u64 n, .bool true] w fun e w' => e = .returned (.tuple #[.int .i64 (-n), .bool true]) ∧ w = w' := by
  have d : decide (n > 9223372036854775808) = false := decide_eq_false (by omega)
  have d2 : (n == 0) = false := beq_eq_false_iff_ne.2 (by omega)
  have e : wrap64 (wrap64 (-wrap64 (IntKind.u64.wrap (n - 1))) - 1) = -n := by
    rw [IntWalk.u64_in _ (by omega), wrap_fits (show fits (n - 1) by unfold fits; omega), wrap_fits (show fits (-(n - 1)) by unfold fits; omega), wrap_fits (by unfold fits; omega)]
    omega
  clear h0 hx
  go_enter Try.func98, Try.ntmps98
  go_wp2
  go_ret2
  exact ⟨by first | rfl | exact congrArg (fun z : Int => Ending.returned (.tuple #[.int .i64 z, .bool true])) e, rfl⟩
set_option maxHeartbeats 1600000 in
theorem signed_plus (n : Int) (w : World) : Calls Try.prog 98 #[.int .u64 n, .bool false] w fun e w' => e = .returned (.tuple #[.int .i64 (wrap64 n), .bool (decide (n ≤ 9223372036854775807))]) ∧ w = w' := by
  go_enter Try.func98, Try.ntmps98
  go_wp2
  go_ret2
  exact ⟨rfl, rfl⟩

set_option maxRecDepth 100000 in
set_option maxHeartbeats 3200000 in
theorem floors_same (a b x y z : Int) (d o : Bool) (h0 : (y == 0) = false) (hy0 : y ≠ 0) (w : World)
    (hx : ∀ w, Calls Try.prog 106 #[.int .i64 a] w fun e w' => e = .returned (.int .u64 x) ∧ w = w')
    (hy : ∀ w, Calls Try.prog 106 #[.int .i64 b] w fun e w' => e = .returned (.int .u64 y) ∧ w = w')
    (e1 : decide (a < 0) = d) (e2 : decide (b < 0) = d)
    (h98 : ∀ w, Calls Try.prog 98 #[.int .u64 (x.tmod y), .bool d] w fun e w' => e = .returned (.tuple #[.int .i64 z, .bool o]) ∧ w = w') :
    Calls Try.prog 97 #[.int .i64 a, .int .i64 b] w fun e w' => e = .returned (.tuple #[.int .u64 (IntKind.u64.wrap (x.tdiv y)), .bool false, .int .i64 z]) ∧ Dr w w' := by
  cases d
  all_goals
    go_enter Try.func97, Try.ntmps97
    go_wp2_with (go_at_call 106; (first | (with_reducible refine (hx _).mono ?_) | (with_reducible refine (hy _).mono ?_)); rintro e w' ⟨rfl, rfl⟩)
    go_region_with fail
    all_goals
      go_wp2_with (go_at_call 98; refine (h98 _).mono ?_; rintro e w' ⟨rfl, rfl⟩)
      go_ret3
      exact ⟨rfl, ⟨_, rfl⟩⟩
set_option maxRecDepth 100000 in
set_option maxHeartbeats 3200000 in
theorem floors_whole (a b x y z : Int) (d o : Bool) (h0 : (y == 0) = false) (hy0 : y ≠ 0) (hr : (x.tmod y != 0) = false) (w : World)
    (hx : ∀ w, Calls Try.prog 106 #[.int .i64 a] w fun e w' => e = .returned (.int .u64 x) ∧ w = w')
    (hy : ∀ w, Calls Try.prog 106 #[.int .i64 b] w fun e w' => e = .returned (.int .u64 y) ∧ w = w')
    (e1 : decide (a < 0) = !d) (e2 : decide (b < 0) = d)
    (h98 : ∀ w, Calls Try.prog 98 #[.int .u64 (x.tmod y), .bool d] w fun e w' => e = .returned (.tuple #[.int .i64 z, .bool o]) ∧ w = w') :
    Calls Try.prog 97 #[.int .i64 a, .int .i64 b] w fun e w' => e = .returned (.tuple #[.int .u64 (IntKind.u64.wrap (x.tdiv y)), .bool true, .int .i64 z]) ∧ Dr w w' := by
  cases d
  all_goals
    simp only [Bool.not_false, Bool.not_true] at e1
    go_enter Try.func97, Try.ntmps97
    go_wp2_with (go_at_call 106; (first | (with_reducible refine (hx _).mono ?_) | (with_reducible refine (hy _).mono ?_)); rintro e w' ⟨rfl, rfl⟩)
    go_region_with fail
    all_goals
      go_wp2_with (go_at_call 98; refine (h98 _).mono ?_; rintro e w' ⟨rfl, rfl⟩)
      go_ret3
      exact ⟨rfl, ⟨_, rfl⟩⟩
set_option maxRecDepth 100000 in
set_option maxHeartbeats 3200000 in
theorem floors_rest (a b x y z : Int) (d o : Bool) (h0 : (y == 0) = false) (hy0 : y ≠ 0) (hr : (x.tmod y != 0) = true) (w : World)
    (hx : ∀ w, Calls Try.prog 106 #[.int .i64 a] w fun e w' => e = .returned (.int .u64 x) ∧ w = w')
    (hy : ∀ w, Calls Try.prog 106 #[.int .i64 b] w fun e w' => e = .returned (.int .u64 y) ∧ w = w')
    (e1 : decide (a < 0) = !d) (e2 : decide (b < 0) = d)
    (h98 : ∀ w, Calls Try.prog 98 #[.int .u64 (IntKind.u64.wrap (y - x.tmod y)), .bool d] w fun e w' => e = .returned (.tuple #[.int .i64 z, .bool o]) ∧ w = w') :
    Calls Try.prog 97 #[.int .i64 a, .int .i64 b] w fun e w' => e = .returned (.tuple #[.int .u64 (IntKind.u64.wrap (IntKind.u64.wrap (x.tdiv y) + 1)), .bool true, .int .i64 z]) ∧ Dr w w' := by
  cases d
  all_goals
    simp only [Bool.not_false, Bool.not_true] at e1
    go_enter Try.func97, Try.ntmps97
    go_wp2_with (go_at_call 106; (first | (with_reducible refine (hx _).mono ?_) | (with_reducible refine (hy _).mono ?_)); rintro e w' ⟨rfl, rfl⟩)
    go_region_with fail
    all_goals
      go_wp2_with (go_at_call 98; refine (h98 _).mono ?_; rintro e w' ⟨rfl, rfl⟩)
      go_ret3
      exact ⟨rfl, ⟨_, rfl⟩⟩
end Go.Proofs.Ytieddikacnmhlaa

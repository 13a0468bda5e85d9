/- Shifts of any two whole numbers answer as the document says. -/
import Derived.Test.YtieddikacnmhlaaS
import Derived.Test.YtieddikacnmhlaaQ
import Derived.Test.YtieddikacnmhlaaF
namespace Go.Proofs.Ytieddikacnmhlaa
open Go.RowKit

set_option maxHeartbeats 3200000 in
theorem numShifts_of (a b x c y d : Int) (w : World)
    (h63 : ∀ w, Calls Try.prog 63 #[.int .i64 a, .int .i64 b] w fun e w' => e = .returned (.tuple #[.int .i64 x, .int .i64 c]) ∧ w = w')
    (h64 : ∀ w, Calls Try.prog 64 #[.int .i64 a, .int .i64 b] w fun e w' => e = .returned (.tuple #[.int .i64 x, .int .i64 c]) ∧ w = w')
    (h65 : ∀ w, Calls Try.prog 65 #[.int .i64 a, .int .i64 b] w fun e w' => e = .returned (.tuple #[.int .i64 y, .int .i64 d]) ∧ w = w')
    (h66 : ∀ w, Calls Try.prog 66 #[.int .i64 a, .int .i64 b] w fun e w' => e = .returned (.tuple #[.int .i64 y, .int .i64 d]) ∧ w = w') :
    Calls Try.prog 15 #[.int .i64 a, .int .i64 b] w fun e w' => e = .returned (.bool true) ∧ Below w.heap.size w w' := by
  have L := Below.refl w.heap.size w
  have tx1 : (x != x) = false := bne_self_eq_false x
  have tc1 : (c != c) = false := bne_self_eq_false c
  have ty : (y == y) = true := beq_self_eq_true y
  have td : (d == d) = true := beq_self_eq_true d
  go_enter Try.func15, Try.ntmps15
  go_wp2_with fail
  refine (h63 _).mono ?_
  rintro e wa ⟨rfl, rfl⟩
  go_wp2_with fail
  refine (h64 _).mono ?_
  rintro e wa ⟨rfl, rfl⟩
  go_wp2_with fail
  refine (h65 _).mono ?_
  rintro e wa ⟨rfl, rfl⟩
  go_wp2_with fail
  refine (h66 _).mono ?_
  rintro e wa ⟨rfl, rfl⟩
  go_wp2_with fail
  refine (lawAwake_calls _).mono ?_
  rintro e wz ⟨rfl, hb⟩
  have L := bnext L hb rfl rfl rfl rfl
  clear hb
  go_wp2
  go_ret
  exact ⟨by first | rfl | simp, ⟨L.os, L.tape, L.output, L.size, L.block⟩⟩

theorem numShifts_walk (a b : Int) (w : World) (ha : (Lit.int .i64 a).wf = true) (_ : (Lit.int .i64 b).wf = true) :
    Calls Try.prog 15 #[.int .i64 a, .int .i64 b] w fun e w' => e = .returned (.bool true) ∧ Below w.heap.size w w' := by
  have hf : fits a := i64_range ha
  exact numShifts_of a b _ _ _ _ w (shl_calls a b) (refShl_calls a b hf) (shr_calls a b) (refShr_calls a b hf)
end Go.Proofs.Ytieddikacnmhlaa

/- num's Div and Neg; the laws' own nan and awake. -/
import Derived.Test.YtieddikacnmhlaaO
namespace Go.Proofs.Ytieddikacnmhlaa
open Go.RowKit

def nDiv (p q : Bool) (i u j v : Int) : NR := ⟨false, 0, sDiv (sPat p i u) (sPat q j v), 0⟩
set_option maxHeartbeats 3200000 in
theorem numDiv_calls (p q : Bool) (i u j v : Int) (w : World) :
    Calls Try.prog 71 #[numV p i u, numV q j v] w fun e w' => e = .returned (.tuple #[numV (nDiv p q i u j v).b (nDiv p q i u j v).x (nDiv p q i u j v).y, .int .i64 (nDiv p q i u j v).c]) ∧ Below w.heap.size w w' := by
  show Calls Try.prog 71 #[numV p i u, numV q j v] w fun e w' => e = .returned (.tuple #[numV false 0 (sDiv (sPat p i u) (sPat q j v)), .int .i64 0]) ∧ Below w.heap.size w w'
  obtain ⟨A, B, C⟩ := boxes3 w p q i u j v
  have L := lay3 w (.cells #[.bool p, .int .i64 i, .int .u64 u] 42) (.cells #[.bool q, .int .i64 j, .int .u64 v] 42) (.cells #[.bool false, .int .i64 0, .int .u64 0] 42)
  have hd := softDiv_calls (sPat p i u) (sPat q j v)
  go_enter Try.func71, Try.ntmps71
  go_wp2_with fail
  go_region_with (first | (go_at_call 103; refine (numPattern_calls _ _ _ _).mono ?_; rintro e w2 ⟨rfl, hb⟩; have B := B.step hb rfl; have C := C.step hb rfl; have L := bnext L hb rfl rfl rfl rfl; obtain ⟨b0, b1, b2, b3, b4, b5⟩ := B.cells; clear b3 b4 b5; obtain ⟨c0, c1, c2, c3, c4, c5⟩ := C.cells; clear hb) | (go_at_call 43; refine (hd _).mono ?_; rintro e w' ⟨rfl, n, rfl⟩) | (go_at_call 102; refine (numDouble_calls _ _).mono ?_; rintro e w3 ⟨rfl, hb⟩; have C := C.step hb rfl; have L := bnext L hb rfl rfl rfl rfl; obtain ⟨c0, c1, c2, c3, c4, c5⟩ := C.cells; clear hb))
  all_goals
    go_wp2
    exact bodyPost_ret (v := .tuple #[numV false 0 (sDiv (sPat p i u) (sPat q j v)), .int .i64 0]) (by simp [results, Try.results71, go_sem, c0, c1, c2]) rfl ⟨rfl, set3 L 2 _ _ _⟩

def nNeg (p : Bool) (i u : Int) : NR := if p then (if i = -9223372036854775808 then ⟨false, 0, 0, 10⟩ else ⟨true, -i, 0, 0⟩) else ⟨false, 0, sNeg u, 0⟩
theorem boxesN (w : World) (a : Bool) (i u : Int) :
    Box ((w.alloc (.cells #[.bool a, .int .i64 i, .int .u64 u] 42)).alloc (.cells #[.bool false, .int .i64 0, .int .u64 0] 42)) w.heap.size a i u ∧
    Box ((w.alloc (.cells #[.bool a, .int .i64 i, .int .u64 u] 42)).alloc (.cells #[.bool false, .int .i64 0, .int .u64 0] 42)) (w.heap.size + 1) false 0 0 := boxes2 w a false i u 0 0

set_option maxHeartbeats 1600000 in
theorem numNeg_dbl (i u : Int) (h0 : 0 ≤ u) (hx : u < 18446744073709551616) (w : World) : Calls Try.prog 74 #[numV false i u] w fun e w' => e = .returned (.tuple #[numV false 0 (sNeg u), .int .i64 0]) ∧ Below w.heap.size w w' := by
  obtain ⟨A, C⟩ := boxesN w false i u
  have L := lay2 w (.cells #[.bool false, .int .i64 i, .int .u64 u] 42) (.cells #[.bool false, .int .i64 0, .int .u64 0] 42)
  have hc := softNeg_calls u h0 hx
  clear h0 hx
  go_enter Try.func74, Try.ntmps74
  go_wp2_with (first | (go_at_call 49; refine (hc _).mono ?_; rintro e w' ⟨rfl, rfl⟩) | (go_at_call 102; refine (numDouble_calls _ _).mono ?_; rintro e w3 ⟨rfl, hb⟩; have C := C.step hb rfl; have L := bnext L hb rfl rfl rfl rfl; obtain ⟨c0, c1, c2, c3, c4, c5⟩ := C.cells; clear hb))
  exact bodyPost_ret (v := .tuple #[numV false 0 (sNeg u), .int .i64 0]) (by simp [results, Try.results74, go_sem, c0, c1, c2]) rfl ⟨rfl, set3 L 1 _ _ _⟩
set_option maxHeartbeats 1600000 in
theorem numNeg_int (i u : Int) (hi : fits i) (hm : (i == -9223372036854775808) = false) (w : World) : Calls Try.prog 74 #[numV true i u] w fun e w' => e = .returned (.tuple #[numV true (-i) 0, .int .i64 0]) ∧ Below w.heap.size w w' := by
  obtain ⟨A, C⟩ := boxesN w true i u
  have L := lay2 w (.cells #[.bool true, .int .i64 i, .int .u64 u] 42) (.cells #[.bool false, .int .i64 0, .int .u64 0] 42)
  have i1 : -9223372036854775807 ≤ i := by
    have := beq_eq_false_iff_ne.1 hm
    unfold fits at hi; omega
  have i2 : i ≤ 9223372036854775807 := hi.2
  clear hi
  go_enter Try.func74, Try.ntmps74
  go_wp2_with (go_at_call 105; refine (numWhole_calls _ _).mono ?_; rintro e w3 ⟨rfl, hb⟩; have C := C.step hb rfl; have L := bnext L hb rfl rfl rfl rfl; obtain ⟨c0, c1, c2, c3, c4, c5⟩ := C.cells; clear hb)
  exact bodyPost_ret (v := .tuple #[numV true (-i) 0, .int .i64 0]) (by simp [results, Try.results74, go_sem, c0, c1, c2]) rfl ⟨rfl, set3 L 1 _ _ _⟩
set_option maxHeartbeats 1600000 in
theorem numNeg_min (i u : Int) (hm : (i == -9223372036854775808) = true) (w : World) : Calls Try.prog 74 #[numV true i u] w fun e w' => e = .returned (.tuple #[numV false 0 0, .int .i64 10]) ∧ Below w.heap.size w w' := by
  have L := lay2 w (.cells #[.bool true, .int .i64 i, .int .u64 u] 42) (.cells #[.bool false, .int .i64 0, .int .u64 0] 42)
  go_enter Try.func74, Try.ntmps74
  go_wp2
  exact bodyPost_ret (v := .tuple #[numV false 0 0, .int .i64 10]) (by simp [results, Try.results74, go_sem]) rfl ⟨rfl, by first | exact L | exact set3 L 1 _ _ _⟩
theorem numNeg_calls (p : Bool) (i u : Int) (hi : fits i) (h0 : 0 ≤ u) (hx : u < 18446744073709551616) (w : World) :
    Calls Try.prog 74 #[numV p i u] w fun e w' => e = .returned (.tuple #[numV (nNeg p i u).b (nNeg p i u).x (nNeg p i u).y, .int .i64 (nNeg p i u).c]) ∧ Below w.heap.size w w' := by
  cases p
  · exact numNeg_dbl i u h0 hx w
  · by_cases hm : i = -9223372036854775808
    · have e : nNeg true i u = ⟨false, 0, 0, 10⟩ := by unfold nNeg; rw [if_pos rfl, if_pos hm]
      rw [e]; exact numNeg_min i u (beq_iff_eq.2 hm) w
    · have e : nNeg true i u = ⟨true, -i, 0, 0⟩ := by unfold nNeg; rw [if_pos rfl, if_neg hm]
      rw [e]; exact numNeg_int i u hi (beq_eq_false_iff_ne.2 hm) w

set_option maxHeartbeats 800000 in
theorem lawNan_calls (p : Bool) (i u : Int) (h0 : 0 ≤ u) (hx : u < 18446744073709551616) (w : World) : Calls Try.prog 59 #[numV p i u] w fun e w' => e = .returned (.bool (xnan p u)) ∧ Below w.heap.size w w' := by
  have hc := nanq_calls u h0 hx
  clear h0 hx
  have L := lay1 w (.cells #[.bool p, .int .i64 i, .int .u64 u] 42)
  unfold xnan
  cases p
  all_goals
    go_enter Try.func59, Try.ntmps59
    go_wp2_with (go_at_call 39; refine (hc _).mono ?_; rintro e w' ⟨rfl, rfl⟩)
    go_ret
    exact ⟨by first | rfl | simp, L⟩
end Go.Proofs.Ytieddikacnmhlaa

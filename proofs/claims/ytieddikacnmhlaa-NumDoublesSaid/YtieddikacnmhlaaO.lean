/- num's order of any two numbers, and Less, LessEq, Equal. -/
import Derived.Test.YtieddikacnmhlaaN
namespace Go.Proofs.Ytieddikacnmhlaa
open Go.RowKit

/-- The exact number, in units of a double's last place. -/
def xval (p : Bool) (i u : Int) : Int := if p then i * Fl.U else Fl.sv Fl.D u.toNat
def xnan (p : Bool) (u : Int) : Bool := !p && nanB u
def nOrd (p : Bool) (i u : Int) (q : Bool) (j v : Int) : Int × Bool := if xnan p u || xnan q v then (0, false) else (Fl.cmp3 (xval p i u) (xval q j v), true)

theorem sEqual_self (u : Int) : sEqual u u = !nanB u := by unfold sEqual nanB; rw [Fl.deq_self, Bool.not_not]
theorem cmp3_range (a b : Int) : -1 ≤ Fl.cmp3 a b ∧ Fl.cmp3 a b ≤ 1 := by unfold Fl.cmp3; split; omega; split <;> omega

set_option maxHeartbeats 1600000 in
theorem order_tt (i u j v : Int) (w : World) : Calls Try.prog 87 #[numV true i u, numV true j v] w fun e w' => e = .returned (.tuple #[.int .i64 (nOrd true i u true j v).1, .bool (nOrd true i u true j v).2]) ∧ Below w.heap.size w w' := by
  have e : nOrd true i u true j v = (Fl.cmp3 i j, true) := by unfold nOrd xnan xval; simp [Fl.cmp3_mul]
  rw [e]
  clear e
  go_enter Try.func87, Try.ntmps87
  go_wp2_with (go_at_call 112; refine (compare_calls _ _ _).mono ?_; rintro e w' ⟨rfl, rfl⟩)
  go_ret2
  exact ⟨rfl, lay2 _ _ _⟩

set_option maxHeartbeats 1600000 in
theorem order_tf (i u j v : Int) (hi : fits i) (w : World) : Calls Try.prog 87 #[numV true i u, numV false j v] w fun e w' => e = .returned (.tuple #[.int .i64 (nOrd true i u false j v).1, .bool (nOrd true i u false j v).2]) ∧ Below w.heap.size w w' := by
  have es := sEqual_self v
  cases hn : nanB v with
  | true =>
    have e : nOrd true i u false j v = (0, false) := by unfold nOrd xnan; simp [hn]
    rw [e]
    rw [hn] at es
    clear e hn hi
    go_enter Try.func87, Try.ntmps87
    go_wp2_with (go_at_call 28; refine (softEqual_calls _ _ _).mono ?_; rintro e w' ⟨rfl, rfl⟩)
    go_ret2
    exact ⟨rfl, lay2 _ _ _⟩
  | false =>
    have hx : Fl.isNum Fl.D v.toNat := by unfold nanB at hn; exact Fl.isNumB_iff.1 (by simpa using hn)
    have e : nOrd true i u false j v = (Fl.cmp3 (i * Fl.U) (Fl.sv Fl.D v.toNat), true) := by unfold nOrd xnan xval; simp [hn]
    have hc := against_calls i v hi hx
    rw [e]
    rw [hn] at es
    generalize Fl.cmp3 (i * Fl.U) (Fl.sv Fl.D v.toNat) = r at *
    clear e hn hi hx
    go_enter Try.func87, Try.ntmps87
    go_wp2_with (first | (go_at_call 28; refine (softEqual_calls _ _ _).mono ?_; rintro e w' ⟨rfl, rfl⟩) | (go_at_call 113; refine (hc _).mono ?_; rintro e w' ⟨rfl, rfl⟩))
    go_ret2
    exact ⟨rfl, lay2 _ _ _⟩

set_option maxHeartbeats 1600000 in
theorem order_ft (i u j v : Int) (hj : fits j) (w : World) : Calls Try.prog 87 #[numV false i u, numV true j v] w fun e w' => e = .returned (.tuple #[.int .i64 (nOrd false i u true j v).1, .bool (nOrd false i u true j v).2]) ∧ Below w.heap.size w w' := by
  have es := sEqual_self u
  cases hn : nanB u with
  | true =>
    have e : nOrd false i u true j v = (0, false) := by unfold nOrd xnan; simp [hn]
    rw [e]
    rw [hn] at es
    clear e hn hj
    go_enter Try.func87, Try.ntmps87
    go_wp2_with (go_at_call 28; refine (softEqual_calls _ _ _).mono ?_; rintro e w' ⟨rfl, rfl⟩)
    go_ret2
    exact ⟨rfl, lay2 _ _ _⟩
  | false =>
    have hx : Fl.isNum Fl.D u.toNat := by unfold nanB at hn; exact Fl.isNumB_iff.1 (by simpa using hn)
    have e : nOrd false i u true j v = (-Fl.cmp3 (j * Fl.U) (Fl.sv Fl.D u.toNat), true) := by rw [Fl.cmp3_neg]; unfold nOrd xnan xval; simp [hn]
    have hc := against_calls j u hj hx
    have hr := cmp3_range (j * Fl.U) (Fl.sv Fl.D u.toNat)
    rw [e]
    rw [hn] at es
    generalize Fl.cmp3 (j * Fl.U) (Fl.sv Fl.D u.toNat) = r at *
    obtain ⟨r1, r2⟩ := hr
    clear e hn hj hx
    go_enter Try.func87, Try.ntmps87
    go_wp2_with (first | (go_at_call 28; refine (softEqual_calls _ _ _).mono ?_; rintro e w' ⟨rfl, rfl⟩) | (go_at_call 113; refine (hc _).mono ?_; rintro e w' ⟨rfl, rfl⟩))
    go_ret2
    exact ⟨by first | rfl | (congr 3; unfold wrap64; omega), lay2 _ _ _⟩

set_option maxHeartbeats 1600000 in
theorem order_ff (i u j v : Int) (w : World) : Calls Try.prog 87 #[numV false i u, numV false j v] w fun e w' => e = .returned (.tuple #[.int .i64 (nOrd false i u false j v).1, .bool (nOrd false i u false j v).2]) ∧ Below w.heap.size w w' := by
  have es := sEqual_self u
  have et := sEqual_self v
  cases hn : nanB u with
  | true =>
    have e : nOrd false i u false j v = (0, false) := by unfold nOrd xnan; simp [hn]
    rw [e]
    rw [hn] at es
    clear e hn et
    go_enter Try.func87, Try.ntmps87
    go_wp2_with (go_at_call 28; refine (softEqual_calls _ _ _).mono ?_; rintro e w' ⟨rfl, rfl⟩)
    go_ret2
    exact ⟨rfl, lay2 _ _ _⟩
  | false =>
    rw [hn] at es
    cases hm : nanB v with
    | true =>
      have e : nOrd false i u false j v = (0, false) := by unfold nOrd xnan; simp [hm]
      rw [e]
      rw [hm] at et
      clear e hn hm
      go_enter Try.func87, Try.ntmps87
      go_wp2_with (go_at_call 28; refine (softEqual_calls _ _ _).mono ?_; rintro e w' ⟨rfl, rfl⟩)
      go_ret2
      exact ⟨rfl, lay2 _ _ _⟩
    | false =>
      rw [hm] at et
      have hx : Fl.isNum Fl.D u.toNat := by unfold nanB at hn; exact Fl.isNumB_iff.1 (by simpa using hn)
      have hy : Fl.isNum Fl.D v.toNat := by unfold nanB at hm; exact Fl.isNumB_iff.1 (by simpa using hm)
      have e : nOrd false i u false j v = (Fl.cmp3 (Fl.sv Fl.D u.toNat) (Fl.sv Fl.D v.toNat), true) := by unfold nOrd xnan xval; simp [hn, hm]
      have e1 : sLess u v = decide (Fl.sv Fl.D u.toNat < Fl.sv Fl.D v.toNat) := Fl.dless_num hx hy
      have e2 : sEqual u v = decide (Fl.sv Fl.D u.toNat = Fl.sv Fl.D v.toNat) := Fl.deq_num hx hy
      rw [e]
      by_cases c1 : Fl.sv Fl.D u.toNat < Fl.sv Fl.D v.toNat
      · rw [decide_eq_true c1] at e1
        rw [Fl.cmp3_lt c1]
        clear e hn hm hx hy e2 c1
        go_enter Try.func87, Try.ntmps87
        go_wp2_with (first | (go_at_call 28; refine (softEqual_calls _ _ _).mono ?_; rintro e w' ⟨rfl, rfl⟩) | (go_at_call 24; refine (softLess_calls _ _ _).mono ?_; rintro e w' ⟨rfl, rfl⟩))
        go_ret2
        exact ⟨rfl, lay2 _ _ _⟩
      · rw [decide_eq_false c1] at e1
        by_cases c2 : Fl.sv Fl.D u.toNat = Fl.sv Fl.D v.toNat
        · rw [decide_eq_true c2] at e2
          rw [Fl.cmp3_eq c2]
          clear e hn hm hx hy c1 c2
          go_enter Try.func87, Try.ntmps87
          go_wp2_with (first | (go_at_call 28; refine (softEqual_calls _ _ _).mono ?_; rintro e w' ⟨rfl, rfl⟩) | (go_at_call 24; refine (softLess_calls _ _ _).mono ?_; rintro e w' ⟨rfl, rfl⟩))
          go_ret2
          exact ⟨rfl, lay2 _ _ _⟩
        · rw [decide_eq_false c2] at e2
          rw [Fl.cmp3_gt (by omega)]
          clear e hn hm hx hy c1 c2
          go_enter Try.func87, Try.ntmps87
          go_wp2_with (first | (go_at_call 28; refine (softEqual_calls _ _ _).mono ?_; rintro e w' ⟨rfl, rfl⟩) | (go_at_call 24; refine (softLess_calls _ _ _).mono ?_; rintro e w' ⟨rfl, rfl⟩))
          go_ret2
          exact ⟨rfl, lay2 _ _ _⟩

theorem order_calls (p q : Bool) (i u j v : Int) (hi : fits i) (hj : fits j) (w : World) :
    Calls Try.prog 87 #[numV p i u, numV q j v] w fun e w' => e = .returned (.tuple #[.int .i64 (nOrd p i u q j v).1, .bool (nOrd p i u q j v).2]) ∧ Below w.heap.size w w' := by
  cases p <;> cases q
  · exact order_ff i u j v w
  · exact order_ft i u j v hj w
  · exact order_tf i u j v hi w
  · exact order_tt i u j v w

def nLess (p : Bool) (i u : Int) (q : Bool) (j v : Int) : Bool := (nOrd p i u q j v).2 && decide ((nOrd p i u q j v).1 < 0)
def nLessEq (p : Bool) (i u : Int) (q : Bool) (j v : Int) : Bool := (nOrd p i u q j v).2 && decide ((nOrd p i u q j v).1 ≤ 0)
def nEqual (p : Bool) (i u : Int) (q : Bool) (j v : Int) : Bool := (nOrd p i u q j v).2 && ((nOrd p i u q j v).1 == 0)

set_option maxHeartbeats 1600000 in
theorem numLess_calls (p q : Bool) (i u j v : Int) (hi : fits i) (hj : fits j) (w : World) :
    Calls Try.prog 52 #[numV p i u, numV q j v] w fun e w' => e = .returned (.bool (nLess p i u q j v)) ∧ Below w.heap.size w w' := by
  have hc := order_calls p q i u j v hi hj
  unfold nLess
  generalize nOrd p i u q j v = r at *
  obtain ⟨c, ok⟩ := r
  have L := lay2 w (.cells #[.bool p, .int .i64 i, .int .u64 u] 42) (.cells #[.bool q, .int .i64 j, .int .u64 v] 42)
  clear hi hj
  cases ok
  all_goals
    go_enter Try.func52, Try.ntmps52
    go_wp2_with (go_at_call 87; refine (hc _).mono ?_; rintro e w1 ⟨rfl, hb⟩; have L := bnext L hb rfl rfl rfl rfl; clear hb)
    go_ret
    exact ⟨by first | rfl | simp, L⟩

set_option maxHeartbeats 1600000 in
theorem numLessEq_calls (p q : Bool) (i u j v : Int) (hi : fits i) (hj : fits j) (w : World) :
    Calls Try.prog 54 #[numV p i u, numV q j v] w fun e w' => e = .returned (.bool (nLessEq p i u q j v)) ∧ Below w.heap.size w w' := by
  have hc := order_calls p q i u j v hi hj
  unfold nLessEq
  generalize nOrd p i u q j v = r at *
  obtain ⟨c, ok⟩ := r
  have L := lay2 w (.cells #[.bool p, .int .i64 i, .int .u64 u] 42) (.cells #[.bool q, .int .i64 j, .int .u64 v] 42)
  clear hi hj
  cases ok
  all_goals
    go_enter Try.func54, Try.ntmps54
    go_wp2_with (go_at_call 87; refine (hc _).mono ?_; rintro e w1 ⟨rfl, hb⟩; have L := bnext L hb rfl rfl rfl rfl; clear hb)
    go_ret
    exact ⟨by first | rfl | simp, L⟩

set_option maxHeartbeats 1600000 in
theorem numEqual_calls (p q : Bool) (i u j v : Int) (hi : fits i) (hj : fits j) (w : World) :
    Calls Try.prog 56 #[numV p i u, numV q j v] w fun e w' => e = .returned (.bool (nEqual p i u q j v)) ∧ Below w.heap.size w w' := by
  have hc := order_calls p q i u j v hi hj
  unfold nEqual
  generalize nOrd p i u q j v = r at *
  obtain ⟨c, ok⟩ := r
  have L := lay2 w (.cells #[.bool p, .int .i64 i, .int .u64 u] 42) (.cells #[.bool q, .int .i64 j, .int .u64 v] 42)
  clear hi hj
  cases ok
  all_goals
    go_enter Try.func56, Try.ntmps56
    go_wp2_with (go_at_call 87; refine (hc _).mono ?_; rintro e w1 ⟨rfl, hb⟩; have L := bnext L hb rfl rfl rfl rfl; clear hb)
    go_ret
    exact ⟨by first | rfl | simp, L⟩
end Go.Proofs.Ytieddikacnmhlaa

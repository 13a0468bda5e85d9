/- The document's order of any two numbers (casketref3), and its Less, LessEq, Equal. -/
import Derived.Test.YtieddikacnmhlaaO
import Derived.Test.YtieddikacnmhlaaE
import Derived.Test.YtieddikacnmhlaaG
namespace Go.Proofs.Ytieddikacnmhlaa
open Go.RowKit

set_option maxHeartbeats 1600000 in
theorem refOrder_tt (i u j v : Int) (w : World) : Calls Try.prog 88 #[numV true i u, numV true j v] w fun e w' => e = .returned (.tuple #[.int .i64 (nOrd true i u true j v).1, .bool (nOrd true i u true j v).2]) ∧ Below w.heap.size w w' := by
  have e : nOrd true i u true j v = (Fl.cmp3 i j, true) := by unfold nOrd xnan xval; simp [Fl.cmp3_mul]
  rw [e]
  clear e
  by_cases c1 : i < j
  · have d1 : decide (i < j) = true := decide_eq_true c1
    rw [Fl.cmp3_lt c1]
    clear c1
    go_enter Try.func88, Try.ntmps88
    go_wp2
    go_ret2
    exact ⟨rfl, lay2 _ _ _⟩
  · have d1 : decide (i < j) = false := decide_eq_false c1
    by_cases c2 : i > j
    · have d2 : decide (i > j) = true := decide_eq_true c2
      rw [Fl.cmp3_gt c2]
      clear c1 c2
      go_enter Try.func88, Try.ntmps88
      go_wp2
      go_ret2
      exact ⟨rfl, lay2 _ _ _⟩
    · have d2 : decide (i > j) = false := decide_eq_false c2
      rw [Fl.cmp3_eq (by omega)]
      clear c1 c2
      go_enter Try.func88, Try.ntmps88
      go_wp2
      go_ret2
      exact ⟨rfl, lay2 _ _ _⟩

set_option maxHeartbeats 1600000 in
theorem refOrder_nan (i u j v : Int) (w : World) (h39 : ∀ w, Calls Try.prog 39 #[.int .u64 v] w fun e w' => e = .returned (.bool true) ∧ w = w') :
    Calls Try.prog 88 #[numV true i u, numV false j v] w fun e w' => e = .returned (.tuple #[.int .i64 0, .bool false]) ∧ Below w.heap.size w w' := by
  go_enter Try.func88, Try.ntmps88
  go_wp2_with (go_at_call 39; refine (h39 _).mono ?_; rintro e w' ⟨rfl, rfl⟩)
  go_ret2
  exact ⟨rfl, lay2 _ _ _⟩
set_option maxHeartbeats 1600000 in
theorem refOrder_in (i u j v f n r : Int) (w : World) (h39 : ∀ w, Calls Try.prog 39 #[.int .u64 v] w fun e w' => e = .returned (.bool false) ∧ w = w')
    (h51 : ∀ w, Calls Try.prog 51 #[.int .u64 v] w fun e w' => e = .returned (.int .u64 f) ∧ Dr w w')
    (h32 : ∀ w, Calls Try.prog 32 #[.int .u64 f] w fun e w' => e = .returned (.tuple #[.int .i64 n, .int .i64 0]) ∧ Dr w w')
    (hs : (decide (i > n) = true ∧ r = 1) ∨ (decide (i > n) = false ∧ decide (i < n) = true ∧ r = -1) ∨ (decide (i > n) = false ∧ decide (i < n) = false ∧ sEqual f v = false ∧ r = -1) ∨ (decide (i > n) = false ∧ decide (i < n) = false ∧ sEqual f v = true ∧ r = 0)) :
    Calls Try.prog 88 #[numV true i u, numV false j v] w fun e w' => e = .returned (.tuple #[.int .i64 r, .bool true]) ∧ Below w.heap.size w w' := by
  rcases hs with ⟨t1, rfl⟩ | ⟨t1, t2, rfl⟩ | ⟨t1, t2, t3, rfl⟩ | ⟨t1, t2, t3, rfl⟩
  all_goals
    go_enter Try.func88, Try.ntmps88
    go_wp2_with (first | (go_at_call 39; refine (h39 _).mono ?_; rintro e w' ⟨rfl, rfl⟩) | (go_at_call 51; refine (h51 _).mono ?_; rintro e w' ⟨rfl, m, rfl⟩) | (go_at_call 32; refine (h32 _).mono ?_; rintro e w' ⟨rfl, m, rfl⟩) | (go_at_call 29; refine (refEqual_calls _ _ _).mono ?_; rintro e w' ⟨rfl, rfl⟩))
    go_ret2
    exact ⟨rfl, by first | exact lay2 _ _ _ | exact bdraw (lay2 _ _ _) _ | exact bdraw (bdraw (lay2 _ _ _) _) _⟩
set_option maxHeartbeats 1600000 in
theorem refOrder_out (i u j v f n r : Int) (w : World) (h39 : ∀ w, Calls Try.prog 39 #[.int .u64 v] w fun e w' => e = .returned (.bool false) ∧ w = w')
    (h51 : ∀ w, Calls Try.prog 51 #[.int .u64 v] w fun e w' => e = .returned (.int .u64 f) ∧ Dr w w')
    (h32 : ∀ w, Calls Try.prog 32 #[.int .u64 f] w fun e w' => e = .returned (.tuple #[.int .i64 n, .int .i64 13]) ∧ Dr w w')
    (hs : (decide (v ≥ 9223372036854775808) = true ∧ r = 1) ∨ (decide (v ≥ 9223372036854775808) = false ∧ r = -1)) :
    Calls Try.prog 88 #[numV true i u, numV false j v] w fun e w' => e = .returned (.tuple #[.int .i64 r, .bool true]) ∧ Below w.heap.size w w' := by
  rcases hs with ⟨t1, rfl⟩ | ⟨t1, rfl⟩
  all_goals
    go_enter Try.func88, Try.ntmps88
    go_wp2_with (first | (go_at_call 39; refine (h39 _).mono ?_; rintro e w' ⟨rfl, rfl⟩) | (go_at_call 51; refine (h51 _).mono ?_; rintro e w' ⟨rfl, m, rfl⟩) | (go_at_call 32; refine (h32 _).mono ?_; rintro e w' ⟨rfl, m, rfl⟩) | (go_at_call 29; refine (refEqual_calls _ _ _).mono ?_; rintro e w' ⟨rfl, rfl⟩))
    go_ret2
    exact ⟨rfl, by first | exact lay2 _ _ _ | exact bdraw (lay2 _ _ _) _ | exact bdraw (bdraw (lay2 _ _ _) _) _⟩

theorem refOrder_tf (i u j v : Int) (hi : fits i) (h0 : 0 ≤ v) (hx : v < 18446744073709551616) (w : World) : Calls Try.prog 88 #[numV true i u, numV false j v] w fun e w' => e = .returned (.tuple #[.int .i64 (nOrd true i u false j v).1, .bool (nOrd true i u false j v).2]) ∧ Below w.heap.size w w' := by
  have hq := nanq_calls v h0 hx
  cases hn : nanB v with
  | true =>
    have e : nOrd true i u false j v = (0, false) := by unfold nOrd xnan; simp [hn]
    rw [hn] at hq
    rw [e]
    exact refOrder_nan i u j v w hq
  | false =>
    rw [hn] at hq
    have hnum : Fl.isNum Fl.D v.toNat := by unfold nanB at hn; exact Fl.isNumB_iff.1 (by simpa using hn)
    have e : nOrd true i u false j v = (Fl.refAgainst i v.toNat, true) := by
      rw [Fl.refAgainst_eq (by omega) hnum hi.1 hi.2]
      unfold nOrd xnan xval; simp [hn]
    rw [e]
    have h51 := refFloor_calls v hx
    have hlt : Fl.dfloor v.toNat < 2 ^ 64 := Fl.dfloor_lt v.toNat
    have hf0 : 0 ≤ sFloor v := Int.natCast_nonneg _
    have hfx : sFloor v < 18446744073709551616 := by unfold sFloor; omega
    have h32 := refTrunc_calls (sFloor v) hf0 hfx
    have ef : (sFloor v).toNat = Fl.dfloor v.toNat := by unfold sFloor; exact Int.toNat_natCast _
    unfold Fl.refAgainst
    by_cases hin : Fl.inI64 (Fl.dfloor v.toNat) = true
    · have et : sTrunc (sFloor v) = (Fl.trc (Fl.dfloor v.toNat), 0) := by unfold sTrunc; rw [ef, if_pos hin]
      rw [et] at h32
      rw [if_pos hin]
      have eq : sEqual (sFloor v) v = Fl.deq (Fl.dfloor v.toNat) v.toNat := by unfold sEqual; rw [ef]
      refine refOrder_in i u j v (sFloor v) (Fl.trc (Fl.dfloor v.toNat)) _ w hq h51 h32 ?_
      rw [eq]
      by_cases c1 : Fl.trc (Fl.dfloor v.toNat) < i
      · rw [if_pos c1]; exact .inl ⟨decide_eq_true c1, rfl⟩
      · rw [if_neg c1]
        by_cases c2 : i < Fl.trc (Fl.dfloor v.toNat)
        · rw [if_pos (.inl c2)]; exact .inr (.inl ⟨decide_eq_false c1, decide_eq_true c2, rfl⟩)
        · cases c3 : Fl.deq (Fl.dfloor v.toNat) v.toNat with
          | false => rw [if_pos (.inr rfl)]; exact .inr (.inr (.inl ⟨decide_eq_false c1, decide_eq_false c2, rfl, rfl⟩))
          | true =>
            rw [if_neg (by rintro (h | h); exact c2 h; cases h)]
            exact .inr (.inr (.inr ⟨decide_eq_false c1, decide_eq_false c2, rfl, rfl⟩))
    · have et : sTrunc (sFloor v) = (0, 13) := by unfold sTrunc; rw [ef, if_neg hin]
      rw [et] at h32
      rw [if_neg hin]
      refine refOrder_out i u j v (sFloor v) 0 _ w hq h51 h32 ?_
      by_cases c : 9223372036854775808 ≤ v.toNat
      · rw [if_pos c]; exact .inl ⟨decide_eq_true (by omega), rfl⟩
      · rw [if_neg c]; exact .inr ⟨decide_eq_false (by omega), rfl⟩

set_option maxHeartbeats 1600000 in
theorem refOrder_turn (i u j v n : Int) (ok : Bool) (hn : -1 ≤ n) (hn2 : n ≤ 1) (w : World)
    (h : ∀ w, Calls Try.prog 88 #[numV true j v, numV false i u] w fun e w' => e = .returned (.tuple #[.int .i64 n, .bool ok]) ∧ Below w.heap.size w w') :
    Calls Try.prog 88 #[numV false i u, numV true j v] w fun e w' => e = .returned (.tuple #[.int .i64 (-n), .bool ok]) ∧ Below w.heap.size w w' := by
  have L := lay2 w (.cells #[.bool false, .int .i64 i, .int .u64 u] 42) (.cells #[.bool true, .int .i64 j, .int .u64 v] 42)
  go_enter Try.func88, Try.ntmps88
  go_wp2_with (go_at_call 88; refine (h _).mono ?_; rintro e w' ⟨rfl, hb⟩; have L := bnext L hb rfl rfl rfl rfl; clear hb)
  go_ret2
  exact ⟨by first | rfl | (congr 3; unfold wrap64; omega), L⟩
theorem refOrder_ft (i u j v : Int) (hj : fits j) (h0 : 0 ≤ u) (hx : u < 18446744073709551616) (w : World) : Calls Try.prog 88 #[numV false i u, numV true j v] w fun e w' => e = .returned (.tuple #[.int .i64 (nOrd false i u true j v).1, .bool (nOrd false i u true j v).2]) ∧ Below w.heap.size w w' := by
  have h := refOrder_tf j v i u hj h0 hx
  cases hn : nanB u with
  | true =>
    have e : nOrd false i u true j v = (0, false) := by unfold nOrd xnan; simp [hn]
    have e2 : nOrd true j v false i u = (0, false) := by unfold nOrd xnan; simp [hn]
    rw [e]; rw [e2] at h
    exact refOrder_turn i u j v 0 false (by omega) (by omega) w h
  | false =>
    have e : nOrd false i u true j v = (-Fl.cmp3 (j * Fl.U) (Fl.sv Fl.D u.toNat), true) := by rw [Fl.cmp3_neg]; unfold nOrd xnan xval; simp [hn]
    have e2 : nOrd true j v false i u = (Fl.cmp3 (j * Fl.U) (Fl.sv Fl.D u.toNat), true) := by unfold nOrd xnan xval; simp [hn]
    have hr := cmp3_range (j * Fl.U) (Fl.sv Fl.D u.toNat)
    rw [e]; rw [e2] at h
    exact refOrder_turn i u j v _ true hr.1 hr.2 w h

set_option maxHeartbeats 1600000 in
theorem refOrder_dd (i u j v r : Int) (ok : Bool) (w : World)
    (hs : (sLess u v = true ∧ r = -1 ∧ ok = true) ∨ (sLess u v = false ∧ sLess v u = true ∧ r = 1 ∧ ok = true) ∨ (sLess u v = false ∧ sLess v u = false ∧ r = 0 ∧ sEqual u v = ok)) :
    Calls Try.prog 88 #[numV false i u, numV false j v] w fun e w' => e = .returned (.tuple #[.int .i64 r, .bool ok]) ∧ Below w.heap.size w w' := by
  rcases hs with ⟨t1, rfl, rfl⟩ | ⟨t1, t2, rfl, rfl⟩ | ⟨t1, t2, rfl, t3⟩
  all_goals
    go_enter Try.func88, Try.ntmps88
    go_wp2_with (first | (go_at_call 25; refine (refLess_calls _ _ _).mono ?_; rintro e w' ⟨rfl, rfl⟩) | (go_at_call 29; refine (refEqual_calls _ _ _).mono ?_; rintro e w' ⟨rfl, rfl⟩))
    go_ret2
    exact ⟨by first | rfl | rw [t3], lay2 _ _ _⟩
theorem refOrder_ff (i u j v : Int) (w : World) : Calls Try.prog 88 #[numV false i u, numV false j v] w fun e w' => e = .returned (.tuple #[.int .i64 (nOrd false i u false j v).1, .bool (nOrd false i u false j v).2]) ∧ Below w.heap.size w w' := by
  by_cases hx : Fl.isNum Fl.D u.toNat ∧ Fl.isNum Fl.D v.toNat
  · obtain ⟨hx, hy⟩ := hx
    have hn : nanB u = false := by unfold nanB; rw [Fl.isNumB_iff.2 hx]; rfl
    have hm : nanB v = false := by unfold nanB; rw [Fl.isNumB_iff.2 hy]; rfl
    have e : nOrd false i u false j v = (Fl.cmp3 (Fl.sv Fl.D u.toNat) (Fl.sv Fl.D v.toNat), true) := by unfold nOrd xnan xval; simp [hn, hm]
    have e1 : sLess u v = decide (Fl.sv Fl.D u.toNat < Fl.sv Fl.D v.toNat) := Fl.dless_num hx hy
    have e1' : sLess v u = decide (Fl.sv Fl.D v.toNat < Fl.sv Fl.D u.toNat) := Fl.dless_num hy hx
    have e2 : sEqual u v = decide (Fl.sv Fl.D u.toNat = Fl.sv Fl.D v.toNat) := Fl.deq_num hx hy
    rw [e]
    refine refOrder_dd i u j v _ _ w ?_
    rw [e1, e1', e2]
    by_cases c1 : Fl.sv Fl.D u.toNat < Fl.sv Fl.D v.toNat
    · exact .inl ⟨decide_eq_true c1, Fl.cmp3_lt c1, rfl⟩
    · by_cases c2 : Fl.sv Fl.D v.toNat < Fl.sv Fl.D u.toNat
      · exact .inr (.inl ⟨decide_eq_false c1, decide_eq_true c2, Fl.cmp3_gt c2, rfl⟩)
      · exact .inr (.inr ⟨decide_eq_false c1, decide_eq_false c2, Fl.cmp3_eq (by omega), decide_eq_true (by omega)⟩)
  · have hx' : ¬ Fl.isNum Fl.D u.toNat ∨ ¬ Fl.isNum Fl.D v.toNat := by
      by_cases h : Fl.isNum Fl.D u.toNat
      · exact .inr (fun h2 => hx ⟨h, h2⟩)
      · exact .inl h
    have e : nOrd false i u false j v = (0, false) := by
      unfold nOrd xnan nanB
      rcases hx' with h | h
      · have : Fl.isNumB u.toNat = false := by cases c : Fl.isNumB u.toNat; rfl; exact absurd (Fl.isNumB_iff.1 c) h
        simp [this]
      · have : Fl.isNumB v.toNat = false := by cases c : Fl.isNumB v.toNat; rfl; exact absurd (Fl.isNumB_iff.1 c) h
        simp [this]
    rw [e]
    exact refOrder_dd i u j v 0 false w (.inr (.inr ⟨Fl.dless_nan hx', Fl.dless_nan hx'.symm, rfl, Fl.deq_nan hx'⟩))

theorem refOrder_calls (p q : Bool) (i u j v : Int) (hi : fits i) (hj : fits j) (hu : 0 ≤ u ∧ u < 18446744073709551616) (hv : 0 ≤ v ∧ v < 18446744073709551616) (w : World) :
    Calls Try.prog 88 #[numV p i u, numV q j v] w fun e w' => e = .returned (.tuple #[.int .i64 (nOrd p i u q j v).1, .bool (nOrd p i u q j v).2]) ∧ Below w.heap.size w w' := by
  cases p <;> cases q
  · exact refOrder_ff i u j v w
  · exact refOrder_ft i u j v hj hu.1 hu.2 w
  · exact refOrder_tf i u j v hi hv.1 hv.2 w
  · exact refOrder_tt i u j v w

set_option maxHeartbeats 1600000 in
theorem refLess_num (p q : Bool) (i u j v : Int) (hi : fits i) (hj : fits j) (hu : 0 ≤ u ∧ u < 18446744073709551616) (hv : 0 ≤ v ∧ v < 18446744073709551616) (w : World) :
    Calls Try.prog 53 #[numV p i u, numV q j v] w fun e w' => e = .returned (.bool (nLess p i u q j v)) ∧ Below w.heap.size w w' := by
  have hc := refOrder_calls p q i u j v hi hj hu hv
  unfold nLess
  generalize nOrd p i u q j v = r at *
  obtain ⟨c, ok⟩ := r
  have L := lay2 w (.cells #[.bool p, .int .i64 i, .int .u64 u] 42) (.cells #[.bool q, .int .i64 j, .int .u64 v] 42)
  clear hi hj hu hv
  cases ok
  all_goals
    go_enter Try.func53, Try.ntmps53
    go_wp2_with (go_at_call 88; refine (hc _).mono ?_; rintro e w1 ⟨rfl, hb⟩; have L := bnext L hb rfl rfl rfl rfl; clear hb)
    go_ret
    exact ⟨by first | rfl | simp, L⟩
set_option maxHeartbeats 1600000 in
theorem refLessEq_num (p q : Bool) (i u j v : Int) (hi : fits i) (hj : fits j) (hu : 0 ≤ u ∧ u < 18446744073709551616) (hv : 0 ≤ v ∧ v < 18446744073709551616) (w : World) :
    Calls Try.prog 55 #[numV p i u, numV q j v] w fun e w' => e = .returned (.bool (nLessEq p i u q j v)) ∧ Below w.heap.size w w' := by
  have hc := refOrder_calls p q i u j v hi hj hu hv
  unfold nLessEq
  generalize nOrd p i u q j v = r at *
  obtain ⟨c, ok⟩ := r
  have L := lay2 w (.cells #[.bool p, .int .i64 i, .int .u64 u] 42) (.cells #[.bool q, .int .i64 j, .int .u64 v] 42)
  clear hi hj hu hv
  cases ok
  all_goals
    go_enter Try.func55, Try.ntmps55
    go_wp2_with (go_at_call 88; refine (hc _).mono ?_; rintro e w1 ⟨rfl, hb⟩; have L := bnext L hb rfl rfl rfl rfl; clear hb)
    go_ret
    exact ⟨by first | rfl | simp, L⟩
set_option maxHeartbeats 1600000 in
theorem refEqual_num (p q : Bool) (i u j v : Int) (hi : fits i) (hj : fits j) (hu : 0 ≤ u ∧ u < 18446744073709551616) (hv : 0 ≤ v ∧ v < 18446744073709551616) (w : World) :
    Calls Try.prog 57 #[numV p i u, numV q j v] w fun e w' => e = .returned (.bool (nEqual p i u q j v)) ∧ Below w.heap.size w w' := by
  have hc := refOrder_calls p q i u j v hi hj hu hv
  unfold nEqual
  generalize nOrd p i u q j v = r at *
  obtain ⟨c, ok⟩ := r
  have L := lay2 w (.cells #[.bool p, .int .i64 i, .int .u64 u] 42) (.cells #[.bool q, .int .i64 j, .int .u64 v] 42)
  clear hi hj hu hv
  cases ok
  all_goals
    go_enter Try.func57, Try.ntmps57
    go_wp2_with (go_at_call 88; refine (hc _).mono ?_; rintro e w1 ⟨rfl, hb⟩; have L := bnext L hb rfl rfl rfl rfl; clear hb)
    go_ret
    exact ⟨by first | rfl | simp, L⟩
end Go.Proofs.Ytieddikacnmhlaa

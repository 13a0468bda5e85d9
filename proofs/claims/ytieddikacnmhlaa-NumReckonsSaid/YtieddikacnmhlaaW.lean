/- The document's Add, Sub, Div, Neg of any two numbers answer as num's. -/
import Derived.Test.YtieddikacnmhlaaVAdd
import Derived.Test.YtieddikacnmhlaaVSub
namespace Go.Proofs.Ytieddikacnmhlaa
open Go.RowKit

set_option maxHeartbeats 3200000 in
theorem refAdd_over (i u j v : Int) (hs : (decide (j > 0) = true ∧ decide (i > wrap64 (9223372036854775807 - j)) = true) ∨ (decide (j > 0) = false ∧ decide (j < 0) = true ∧ decide (i < wrap64 (-9223372036854775808 - j)) = true)) (w : World) : Calls Try.prog 75 #[numV true i u, numV true j v] w fun e w' => e = .returned (.tuple #[numV false 0 0, .int .i64 10]) ∧ Below w.heap.size w w' := by
  have L := lay3 w (.cells #[.bool true, .int .i64 i, .int .u64 u] 42) (.cells #[.bool true, .int .i64 j, .int .u64 v] 42) (.cells #[.bool false, .int .i64 0, .int .u64 0] 42)
  rcases hs with ⟨s1, s2⟩ | ⟨s1, s2, s3⟩
  all_goals
    go_enter Try.func75, Try.ntmps75
    go_wp2
    exact bodyPost_ret (v := .tuple #[numV false 0 0, .int .i64 10]) (by simp [results, Try.results75, go_sem]) rfl ⟨rfl, by first | exact L | exact set3 L 2 _ _ _⟩
set_option maxHeartbeats 3200000 in
theorem refAdd_ok (i u j v : Int) (hs : (decide (j > 0) = true ∧ decide (i > wrap64 (9223372036854775807 - j)) = false ∧ decide (j < 0) = false) ∨ (decide (j > 0) = false ∧ decide (j < 0) = true ∧ decide (i < wrap64 (-9223372036854775808 - j)) = false) ∨ (decide (j > 0) = false ∧ decide (j < 0) = false)) (w : World) : Calls Try.prog 75 #[numV true i u, numV true j v] w fun e w' => e = .returned (.tuple #[numV true (wrap64 (i + j)) 0, .int .i64 0]) ∧ Below w.heap.size w w' := by
  obtain ⟨A, B, C⟩ := boxes3 w true true i u j v
  have L := lay3 w (.cells #[.bool true, .int .i64 i, .int .u64 u] 42) (.cells #[.bool true, .int .i64 j, .int .u64 v] 42) (.cells #[.bool false, .int .i64 0, .int .u64 0] 42)
  obtain ⟨a0, a1, a2, _, _, _⟩ := A.cells
  obtain ⟨b0, b1, b2, _, _, _⟩ := B.cells
  obtain ⟨c0, c1, c2, c3, c4, c5⟩ := C.cells
  rcases hs with ⟨s1, s2, s3⟩ | ⟨s1, s2, s3⟩ | ⟨s1, s2⟩
  all_goals
    go_enter Try.func75, Try.ntmps75
    go_wp2_with (go_at_call 99; refine (refWhole_calls _ _).mono ?_; rintro e w3 ⟨rfl, hb⟩; have C := C.step hb rfl; have L := bnext L hb rfl rfl rfl rfl; obtain ⟨c0, c1, c2, c3, c4, c5⟩ := C.cells; clear hb)
    exact bodyPost_ret (v := .tuple #[numV true (wrap64 (i + j)) 0, .int .i64 0]) (by simp [results, Try.results75, go_sem, c0, c1, c2]) rfl ⟨rfl, set3 L 2 _ _ _⟩

set_option maxHeartbeats 3200000 in
theorem refSub_over (i u j v : Int) (hs : (decide (j < 0) = true ∧ decide (i > wrap64 (9223372036854775807 + j)) = true) ∨ (decide (j < 0) = false ∧ decide (j > 0) = true ∧ decide (i < wrap64 (-9223372036854775808 + j)) = true)) (w : World) : Calls Try.prog 76 #[numV true i u, numV true j v] w fun e w' => e = .returned (.tuple #[numV false 0 0, .int .i64 10]) ∧ Below w.heap.size w w' := by
  have L := lay3 w (.cells #[.bool true, .int .i64 i, .int .u64 u] 42) (.cells #[.bool true, .int .i64 j, .int .u64 v] 42) (.cells #[.bool false, .int .i64 0, .int .u64 0] 42)
  rcases hs with ⟨s1, s2⟩ | ⟨s1, s2, s3⟩
  all_goals
    go_enter Try.func76, Try.ntmps76
    go_wp2
    exact bodyPost_ret (v := .tuple #[numV false 0 0, .int .i64 10]) (by simp [results, Try.results76, go_sem]) rfl ⟨rfl, by first | exact L | exact set3 L 2 _ _ _⟩
set_option maxHeartbeats 3200000 in
theorem refSub_ok (i u j v : Int) (hs : (decide (j < 0) = true ∧ decide (i > wrap64 (9223372036854775807 + j)) = false ∧ decide (j > 0) = false) ∨ (decide (j < 0) = false ∧ decide (j > 0) = true ∧ decide (i < wrap64 (-9223372036854775808 + j)) = false) ∨ (decide (j < 0) = false ∧ decide (j > 0) = false)) (w : World) : Calls Try.prog 76 #[numV true i u, numV true j v] w fun e w' => e = .returned (.tuple #[numV true (wrap64 (i - j)) 0, .int .i64 0]) ∧ Below w.heap.size w w' := by
  obtain ⟨A, B, C⟩ := boxes3 w true true i u j v
  have L := lay3 w (.cells #[.bool true, .int .i64 i, .int .u64 u] 42) (.cells #[.bool true, .int .i64 j, .int .u64 v] 42) (.cells #[.bool false, .int .i64 0, .int .u64 0] 42)
  obtain ⟨a0, a1, a2, _, _, _⟩ := A.cells
  obtain ⟨b0, b1, b2, _, _, _⟩ := B.cells
  obtain ⟨c0, c1, c2, c3, c4, c5⟩ := C.cells
  rcases hs with ⟨s1, s2, s3⟩ | ⟨s1, s2, s3⟩ | ⟨s1, s2⟩
  all_goals
    go_enter Try.func76, Try.ntmps76
    go_wp2_with (go_at_call 99; refine (refWhole_calls _ _).mono ?_; rintro e w3 ⟨rfl, hb⟩; have C := C.step hb rfl; have L := bnext L hb rfl rfl rfl rfl; obtain ⟨c0, c1, c2, c3, c4, c5⟩ := C.cells; clear hb)
    exact bodyPost_ret (v := .tuple #[numV true (wrap64 (i - j)) 0, .int .i64 0]) (by simp [results, Try.results76, go_sem, c0, c1, c2]) rfl ⟨rfl, set3 L 2 _ _ _⟩

set_option maxHeartbeats 3200000 in
theorem refNeg_dbl (i u : Int) (h0 : 0 ≤ u) (hx : u < 18446744073709551616) (w : World) : Calls Try.prog 79 #[numV false i u] w fun e w' => e = .returned (.tuple #[numV false 0 (sNeg u), .int .i64 0]) ∧ Below w.heap.size w w' := by
  obtain ⟨A, C⟩ := boxesN w false i u
  have L := lay2 w (.cells #[.bool false, .int .i64 i, .int .u64 u] 42) (.cells #[.bool false, .int .i64 0, .int .u64 0] 42)
  have hc := refNeg_calls u h0 hx
  clear h0 hx
  go_enter Try.func79, Try.ntmps79
  go_wp2_with (first | (go_at_call 50; refine (hc _).mono ?_; rintro e w' ⟨rfl, n, rfl⟩) | (go_at_call 95; refine (refDouble_calls _ _).mono ?_; rintro e w3 ⟨rfl, hb⟩; have C := C.step hb rfl; have L := bnext L hb rfl rfl rfl rfl; obtain ⟨c0, c1, c2, c3, c4, c5⟩ := C.cells; clear hb))
  exact bodyPost_ret (v := .tuple #[numV false 0 (sNeg u), .int .i64 0]) (by simp [results, Try.results79, go_sem, c0, c1, c2]) rfl ⟨rfl, set3 L 1 _ _ _⟩
set_option maxHeartbeats 3200000 in
theorem refNeg_of (i u x y c : Int) (b : Bool) (h76 : ∀ w, Calls Try.prog 76 #[numV true 0 0, numV true i u] w fun e w' => e = .returned (.tuple #[numV b x y, .int .i64 c]) ∧ Below w.heap.size w w') (w : World) : Calls Try.prog 79 #[numV true i u] w fun e w' => e = .returned (.tuple #[numV b x y, .int .i64 c]) ∧ Below w.heap.size w w' := by
  obtain ⟨A, C⟩ := boxesN w true i u
  have L := lay2 w (.cells #[.bool true, .int .i64 i, .int .u64 u] 42) (.cells #[.bool false, .int .i64 0, .int .u64 0] 42)
  obtain ⟨a0, a1, a2, _, _, _⟩ := A.cells
  obtain ⟨c0, c1, c2, c3, c4, c5⟩ := C.cells
  go_enter Try.func79, Try.ntmps79
  go_wp2_with fail
  go_region_with (first | (go_at_call 99; refine (refWhole_calls _ _).mono ?_; rintro e w2 ⟨rfl, hb⟩; have A := A.step hb rfl; have C := C.step hb rfl; have L := bnext L hb rfl rfl rfl rfl; obtain ⟨a0, a1, a2, a3, a4, a5⟩ := A.cells; clear a3 a4 a5; obtain ⟨c0, c1, c2, c3, c4, c5⟩ := C.cells; clear hb) | (go_at_call 76; refine (h76 _).mono ?_; rintro e w3 ⟨rfl, hb⟩; have A := A.step hb rfl; have C := C.step hb rfl; have L := bnext L hb rfl rfl rfl rfl; obtain ⟨a0, a1, a2, a3, a4, a5⟩ := A.cells; clear a3 a4 a5; obtain ⟨c0, c1, c2, c3, c4, c5⟩ := C.cells; clear hb))
  all_goals
    go_wp2
    exact bodyPost_ret (v := .tuple #[numV b x y, .int .i64 c]) (by simp [results, Try.results79, go_sem, c0, c1, c2]) rfl ⟨rfl, set3 L 1 _ _ _⟩

theorem refAddI_calls (i u j v : Int) (hi : fits i) (hj : fits j) (w : World) : Calls Try.prog 75 #[numV true i u, numV true j v] w fun e w' => e = .returned (.tuple #[numV (opN (iAdd i j)).b (opN (iAdd i j)).x (opN (iAdd i j)).y, .int .i64 (opN (iAdd i j)).c]) ∧ Below w.heap.size w w' := by
  by_cases f : fits (i + j)
  · have e : opN (iAdd i j) = ⟨true, i + j, 0, 0⟩ := by unfold iAdd exact; rw [if_pos f]; rfl
    rw [e]
    have h := refAdd_ok i u j v ?_ w
    · rw [wrap_fits f] at h; exact h
    · by_cases c1 : j > 0
      · have w1 : wrap64 (9223372036854775807 - j) = 9223372036854775807 - j := wrap_fits (by unfold fits at *; omega)
        exact .inl ⟨decide_eq_true c1, by rw [w1]; exact decide_eq_false (by unfold fits at *; omega), decide_eq_false (by omega)⟩
      · by_cases c2 : j < 0
        · have w1 : wrap64 (-9223372036854775808 - j) = -9223372036854775808 - j := wrap_fits (by unfold fits at *; omega)
          exact .inr (.inl ⟨decide_eq_false c1, decide_eq_true c2, by rw [w1]; exact decide_eq_false (by unfold fits at *; omega)⟩)
        · exact .inr (.inr ⟨decide_eq_false c1, decide_eq_false c2⟩)
  · have e : opN (iAdd i j) = ⟨false, 0, 0, 10⟩ := by unfold iAdd exact; rw [if_neg f]; rfl
    rw [e]
    refine refAdd_over i u j v ?_ w
    by_cases c1 : j > 0
    · have w1 : wrap64 (9223372036854775807 - j) = 9223372036854775807 - j := wrap_fits (by unfold fits at *; omega)
      exact .inl ⟨decide_eq_true c1, by rw [w1]; exact decide_eq_true (by unfold fits at *; omega)⟩
    · have c2 : j < 0 := by unfold fits at *; omega
      have w1 : wrap64 (-9223372036854775808 - j) = -9223372036854775808 - j := wrap_fits (by unfold fits at *; omega)
      exact .inr ⟨decide_eq_false c1, decide_eq_true c2, by rw [w1]; exact decide_eq_true (by unfold fits at *; omega)⟩
theorem refSubI_calls (i u j v : Int) (hi : fits i) (hj : fits j) (w : World) : Calls Try.prog 76 #[numV true i u, numV true j v] w fun e w' => e = .returned (.tuple #[numV (opN (iSub i j)).b (opN (iSub i j)).x (opN (iSub i j)).y, .int .i64 (opN (iSub i j)).c]) ∧ Below w.heap.size w w' := by
  by_cases f : fits (i - j)
  · have e : opN (iSub i j) = ⟨true, i - j, 0, 0⟩ := by unfold iSub exact; rw [if_pos f]; rfl
    rw [e]
    have h := refSub_ok i u j v ?_ w
    · rw [wrap_fits f] at h; exact h
    · by_cases c1 : j < 0
      · have w1 : wrap64 (9223372036854775807 + j) = 9223372036854775807 + j := wrap_fits (by unfold fits at *; omega)
        exact .inl ⟨decide_eq_true c1, by rw [w1]; exact decide_eq_false (by unfold fits at *; omega), decide_eq_false (by omega)⟩
      · by_cases c2 : j > 0
        · have w1 : wrap64 (-9223372036854775808 + j) = -9223372036854775808 + j := wrap_fits (by unfold fits at *; omega)
          exact .inr (.inl ⟨decide_eq_false c1, decide_eq_true c2, by rw [w1]; exact decide_eq_false (by unfold fits at *; omega)⟩)
        · exact .inr (.inr ⟨decide_eq_false c1, decide_eq_false c2⟩)
  · have e : opN (iSub i j) = ⟨false, 0, 0, 10⟩ := by unfold iSub exact; rw [if_neg f]; rfl
    rw [e]
    refine refSub_over i u j v ?_ w
    by_cases c1 : j < 0
    · have w1 : wrap64 (9223372036854775807 + j) = 9223372036854775807 + j := wrap_fits (by unfold fits at *; omega)
      exact .inl ⟨decide_eq_true c1, by rw [w1]; exact decide_eq_true (by unfold fits at *; omega)⟩
    · have c2 : j > 0 := by unfold fits at *; omega
      have w1 : wrap64 (-9223372036854775808 + j) = -9223372036854775808 + j := wrap_fits (by unfold fits at *; omega)
      exact .inr ⟨decide_eq_false c1, decide_eq_true c2, by rw [w1]; exact decide_eq_true (by unfold fits at *; omega)⟩

def Rng (u : Int) : Prop := 0 ≤ u ∧ u < 18446744073709551616

theorem refAdd_num (p q : Bool) (i u j v : Int) (hi : fits i) (hj : fits j) (hu : Rng u) (hv : Rng v) (w : World) :
    Calls Try.prog 75 #[numV p i u, numV q j v] w fun e w' => e = .returned (.tuple #[numV (nAdd p q i u j v).b (nAdd p q i u j v).x (nAdd p q i u j v).y, .int .i64 (nAdd p q i u j v).c]) ∧ Below w.heap.size w w' := by
  have ea := like_add (like_pat p i u hu.1) (like_pat q j v hv.1)
  cases p <;> cases q
  · have h := refAdd_dbl_ff i u j v _ _ (refBits_calls false i u hu.1 hu.2) (refBits_calls false j v hv.1 hv.2) w
    rw [ea] at h; exact h
  · have h := refAdd_dbl_ft i u j v _ _ (refBits_calls false i u hu.1 hu.2) (refBits_calls true j v hv.1 hv.2) w
    rw [ea] at h; exact h
  · have h := refAdd_dbl_tf i u j v _ _ (refBits_calls true i u hu.1 hu.2) (refBits_calls false j v hv.1 hv.2) w
    rw [ea] at h; exact h
  · exact refAddI_calls i u j v hi hj w

theorem refSub_num (p q : Bool) (i u j v : Int) (hi : fits i) (hj : fits j) (hu : Rng u) (hv : Rng v) (w : World) :
    Calls Try.prog 76 #[numV p i u, numV q j v] w fun e w' => e = .returned (.tuple #[numV (nSub p q i u j v).b (nSub p q i u j v).x (nSub p q i u j v).y, .int .i64 (nSub p q i u j v).c]) ∧ Below w.heap.size w w' := by
  have ea := like_sub (like_pat p i u hu.1) (like_pat q j v hv.1)
  cases p <;> cases q
  · have h := refSub_dbl_ff i u j v _ _ (refBits_calls false i u hu.1 hu.2) (refBits_calls false j v hv.1 hv.2) w
    rw [ea] at h; exact h
  · have h := refSub_dbl_ft i u j v _ _ (refBits_calls false i u hu.1 hu.2) (refBits_calls true j v hv.1 hv.2) w
    rw [ea] at h; exact h
  · have h := refSub_dbl_tf i u j v _ _ (refBits_calls true i u hu.1 hu.2) (refBits_calls false j v hv.1 hv.2) w
    rw [ea] at h; exact h
  · exact refSubI_calls i u j v hi hj w

theorem refDiv_num (p q : Bool) (i u j v : Int) (hu : Rng u) (hv : Rng v) (w : World) :
    Calls Try.prog 78 #[numV p i u, numV q j v] w fun e w' => e = .returned (.tuple #[numV (nDiv p q i u j v).b (nDiv p q i u j v).x (nDiv p q i u j v).y, .int .i64 (nDiv p q i u j v).c]) ∧ Below w.heap.size w w' := by
  have h := refDiv_of p q i u j v _ _ (refBits_calls p i u hu.1 hu.2) (refBits_calls q j v hv.1 hv.2) w
  rw [like_div (like_pat p i u hu.1) (like_pat q j v hv.1)] at h
  exact h
theorem refNeg_num (p : Bool) (i u : Int) (hi : fits i) (hu : Rng u) (w : World) :
    Calls Try.prog 79 #[numV p i u] w fun e w' => e = .returned (.tuple #[numV (nNeg p i u).b (nNeg p i u).x (nNeg p i u).y, .int .i64 (nNeg p i u).c]) ∧ Below w.heap.size w w' := by
  cases p
  · exact refNeg_dbl i u hu.1 hu.2 w
  · have h := refNeg_of i u _ _ _ _ (refSubI_calls 0 0 i u (by decide) hi) w
    have e : opN (iSub 0 i) = nNeg true i u := by
      unfold nNeg iSub exact
      rw [if_pos rfl]
      by_cases m : i = -9223372036854775808
      · subst m; rw [if_pos rfl, if_neg (by decide)]; rfl
      · rw [if_neg m, if_pos (by unfold fits at *; omega), Int.zero_sub]; rfl
    rw [e] at h; exact h
end Go.Proofs.Ytieddikacnmhlaa


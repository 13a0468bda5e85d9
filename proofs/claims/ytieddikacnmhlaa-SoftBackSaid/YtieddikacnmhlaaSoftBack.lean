/- There and back between whole numbers and doubles, and numbers of 32 bits and doubles; less, the same, greater; floors. Of any two patterns, any whole number and any number of 32 bits. No condition. -/
import Derived.Test.YtieddikacnmhlaaG
import Derived.LoopTactic
import Derived.Deep.LoopGhost
namespace Go.Proofs.Ytieddikacnmhlaa
open Go.RowKit

theorem nanQ (a : Int) (h : 0 ≤ a ∧ a < 18446744073709551616) (w : World) : Calls Try.prog 39 #[.int .u64 a] w fun e w' => e = .returned (.bool (nanB a)) ∧ w = w' := nanq_calls a h.1 h.2 w
set_option maxHeartbeats 800000 in
theorem softTrunc_quiet (a : Int) (w : World) : Calls Try.prog 31 #[.int .u64 a] w fun e w' => e = .returned (.tuple #[.int .i64 (sTrunc a).1, .int .i64 (sTrunc a).2]) ∧ w = w' := by
  have hg := geq_eq (x := a.toNat) (y := Fl.mtwo63)
  have hl := lss_eq (x := a.toNat) (y := Fl.two63)
  unfold sTrunc
  cases h1 : Fl.dleq Fl.mtwo63 a.toNat with
  | false =>
    have e : Fl.inI64 a.toNat = false := by unfold Fl.inI64; rw [h1]; rfl
    have hg' : (FloatKind.f64.format.order a.toNat 14114281232179134464 == some .gt || FloatKind.f64.format.order a.toNat 14114281232179134464 == some .eq) = false := by rw [← h1]; exact hg
    rw [e]
    clear hg hl e h1
    go_enter Try.func31, Try.ntmps31
    go_wp2_with (go_at_call 80; refine (of_calls _ _).mono ?_; rintro e w' ⟨rfl, rfl⟩)
    go_ret2
    exact ⟨rfl, rfl⟩
  | true =>
    have hg' : (FloatKind.f64.format.order a.toNat 14114281232179134464 == some .gt || FloatKind.f64.format.order a.toNat 14114281232179134464 == some .eq) = true := by rw [← h1]; exact hg
    cases h2 : Fl.dless a.toNat Fl.two63 with
    | false =>
      have e : Fl.inI64 a.toNat = false := by unfold Fl.inI64; rw [h1, h2]; rfl
      have hl' : (FloatKind.f64.format.order a.toNat 4890909195324358656 == some .lt) = false := by rw [← h2]; rfl
      rw [e]
      clear hg hl e h1 h2
      go_enter Try.func31, Try.ntmps31
      go_wp2_with (go_at_call 80; refine (of_calls _ _).mono ?_; rintro e w' ⟨rfl, rfl⟩)
      go_ret2
      exact ⟨rfl, rfl⟩
    | true =>
      have e : Fl.inI64 a.toNat = true := by unfold Fl.inI64; rw [h1, h2]; rfl
      have hl' : (FloatKind.f64.format.order a.toNat 4890909195324358656 == some .lt) = true := by rw [← h2]; rfl
      have hv := convert_float e
      rw [e]
      clear hg hl e h1 h2
      go_enter Try.func31, Try.ntmps31
      go_wp2_with (go_at_call 80; refine (of_calls _ _).mono ?_; rintro e w' ⟨rfl, rfl⟩)
      go_ret2
      exact ⟨rfl, rfl⟩

theorem below_alloc' {B : Nat} {w W : World} (h : Below B w W) (hB : B ≤ W.heap.size) (o : Obj) : Below B w (W.alloc o) := h.alloc hB o
theorem below_draw {B : Nat} {w W : World} (h : Below B w W) (n : Nat) : Below B w (W.drewN n) := ⟨h.os, h.tape, h.output, h.size, h.block⟩
theorem trc_back {i : Int} (h1 : -9007199254740992 ≤ i) (h2 : i ≤ 9007199254740992) : sTrunc (sInt i) = (i, 0) := by
  obtain ⟨h3, h4⟩ := Fl.soft_int_back (i := i) (by omega)
  unfold sTrunc sInt; rw [Int.toNat_natCast, h3, h4]; rfl
theorem wide_clean {n : Int} (h : isNum32 n = true) : (sWide n != 9221120237041090560) = true := by
  rw [bne_iff_ne]; intro e
  unfold sWide at e; rw [h, if_pos rfl] at e
  have e2 : Fl.dwide n.toNat = Fl.canon := by unfold Fl.canon; omega
  exact Fl.canon_nan (e2 ▸ Fl.dwide_num (isNum32_iff.1 h))

set_option maxRecDepth 100000 in
set_option maxHeartbeats 6400000 in
theorem back_less (a b i n : Int) (ra : 0 ≤ a ∧ a < 18446744073709551616) (rb : 0 ≤ b ∧ b < 18446744073709551616) (rn : 0 ≤ n ∧ n < 4294967296)
    (l1 : sLess a b = true) (l2 : sEqual a b = false) (l3 : sLess b a = false) (l4 : sLessEq a b = true) (m1 : nanB a = false) (m2 : nanB b = false) (f1 : sLessEq (sFloor a) a = true) (f2 : (sFloor (sFloor a) == sFloor a) = true) (w : World) :
    Calls Try.prog 10 #[.int .u64 a, .int .u64 b, .int .i64 i, .int .u32 n] w fun e w' => e = .returned (.bool true) ∧ Below w.heap.size w w' := by
  have cna := nanQ a ra
  have cnb := nanQ b rb
  have cw := softWide_calls n rn.1 rn.2
  have cfa := softFloor_calls a ra.2
  have cff := softFloor_calls (sFloor a) (sFloor_range a).2
  cases hn : isNum32 n with
  | true =>
    have cb := narrow_back rn.1 rn.2 hn
    have wc := wide_clean hn
    clear hn
    by_cases i1 : -9007199254740992 ≤ i
    · by_cases i2 : i ≤ 9007199254740992
      · have ti := trc_back i1 i2
        have d1 : decide (i ≥ -9007199254740992) = true := decide_eq_true i1
        have d2 : decide (i ≤ 9007199254740992) = true := decide_eq_true i2
        clear ra rb rn
        go_enter Try.func10, Try.ntmps10
        go_wp2_with (first | (go_at_call 24; refine (softLess_calls _ _ _).mono ?_; rintro e w' ⟨rfl, rfl⟩) | (go_at_call 28; refine (softEqual_calls _ _ _).mono ?_; rintro e w' ⟨rfl, rfl⟩) | (go_at_call 26; refine (softLessEq_calls _ _ _).mono ?_; rintro e w' ⟨rfl, rfl⟩) | (go_at_call 33; refine (softFromInt_calls _ _).mono ?_; rintro e w' ⟨rfl, rfl⟩) | (go_at_call 30; refine (awake_calls _).mono ?_; rintro e w' ⟨rfl, n, rfl⟩) | (go_at_call 31; refine (softTrunc_quiet _ _).mono ?_; rintro e w' ⟨rfl, rfl⟩) | (go_at_call 37; refine (cw _).mono ?_; rintro e w' ⟨rfl, rfl⟩) | (go_at_call 35; refine (cb _).mono ?_; rintro e w' ⟨rfl, rfl⟩) | (go_at_call 39; first | ((with_reducible refine (cna _).mono ?_); rintro e w' ⟨rfl, rfl⟩) | ((with_reducible refine (cnb _).mono ?_); rintro e w' ⟨rfl, rfl⟩)) | (go_at_call 40; first | ((with_reducible refine (cfa _).mono ?_); rintro e w' ⟨rfl, n, rfl⟩) | ((with_reducible refine (cff _).mono ?_); rintro e w' ⟨rfl, n, rfl⟩)))
        go_loop [15, 70] (fun k i => ∃ j : Nat, j ≤ 3 ∧ i = .int .i64 j ∧ k = .int .i64 ([0, 1, 1, 1].getD j 0)) (fun _ i => 3 - (intOf i).toNat)
        case atStart => exact ⟨0, by omega, rfl, rfl⟩
        case round =>
          obtain ⟨j, hj, rfl, rfl⟩ := hrel
          have h4 : j = 0 ∨ j = 1 ∨ j = 2 ∨ j = 3 := by omega
          rcases h4 with rfl | rfl | rfl | rfl
          · go_wp2
            go_round
            case rel => exact ⟨1, by omega, by go_num, by simp⟩
            case measure => simp [intOf]
          · go_wp2
            go_round
            case rel => exact ⟨2, by omega, by go_num, by simp⟩
            case measure => simp [intOf]
          · go_wp2
            go_round
            case rel => exact ⟨3, by omega, by go_num, by simp⟩
            case measure => simp [intOf]
          · go_wp2_with (first | (go_at_call 24; refine (softLess_calls _ _ _).mono ?_; rintro e w' ⟨rfl, rfl⟩) | (go_at_call 28; refine (softEqual_calls _ _ _).mono ?_; rintro e w' ⟨rfl, rfl⟩) | (go_at_call 26; refine (softLessEq_calls _ _ _).mono ?_; rintro e w' ⟨rfl, rfl⟩) | (go_at_call 33; refine (softFromInt_calls _ _).mono ?_; rintro e w' ⟨rfl, rfl⟩) | (go_at_call 30; refine (awake_calls _).mono ?_; rintro e w' ⟨rfl, n, rfl⟩) | (go_at_call 31; refine (softTrunc_quiet _ _).mono ?_; rintro e w' ⟨rfl, rfl⟩) | (go_at_call 37; refine (cw _).mono ?_; rintro e w' ⟨rfl, rfl⟩) | (go_at_call 35; refine (cb _).mono ?_; rintro e w' ⟨rfl, rfl⟩) | (go_at_call 39; first | ((with_reducible refine (cna _).mono ?_); rintro e w' ⟨rfl, rfl⟩) | ((with_reducible refine (cnb _).mono ?_); rintro e w' ⟨rfl, rfl⟩)) | (go_at_call 40; first | ((with_reducible refine (cfa _).mono ?_); rintro e w' ⟨rfl, n, rfl⟩) | ((with_reducible refine (cff _).mono ?_); rintro e w' ⟨rfl, n, rfl⟩)))
            go_ret
            exact ⟨rfl, by first | exact below_draw (below_alloc' (Below.refl _ _) (Nat.le_refl _) _) _ | exact below_draw (below_draw (below_draw (below_alloc' (Below.refl _ _) (Nat.le_refl _) _) _) _) _ | exact below_alloc' (Below.refl _ _) (Nat.le_refl _) _⟩
      · have d1 : decide (i ≥ -9007199254740992) = true := decide_eq_true i1
        have d2 : decide (i ≤ 9007199254740992) = false := decide_eq_false i2
        clear ra rb rn
        go_enter Try.func10, Try.ntmps10
        go_wp2_with (first | (go_at_call 24; refine (softLess_calls _ _ _).mono ?_; rintro e w' ⟨rfl, rfl⟩) | (go_at_call 28; refine (softEqual_calls _ _ _).mono ?_; rintro e w' ⟨rfl, rfl⟩) | (go_at_call 26; refine (softLessEq_calls _ _ _).mono ?_; rintro e w' ⟨rfl, rfl⟩) | (go_at_call 33; refine (softFromInt_calls _ _).mono ?_; rintro e w' ⟨rfl, rfl⟩) | (go_at_call 30; refine (awake_calls _).mono ?_; rintro e w' ⟨rfl, n, rfl⟩) | (go_at_call 31; refine (softTrunc_quiet _ _).mono ?_; rintro e w' ⟨rfl, rfl⟩) | (go_at_call 37; refine (cw _).mono ?_; rintro e w' ⟨rfl, rfl⟩) | (go_at_call 35; refine (cb _).mono ?_; rintro e w' ⟨rfl, rfl⟩) | (go_at_call 39; first | ((with_reducible refine (cna _).mono ?_); rintro e w' ⟨rfl, rfl⟩) | ((with_reducible refine (cnb _).mono ?_); rintro e w' ⟨rfl, rfl⟩)) | (go_at_call 40; first | ((with_reducible refine (cfa _).mono ?_); rintro e w' ⟨rfl, n, rfl⟩) | ((with_reducible refine (cff _).mono ?_); rintro e w' ⟨rfl, n, rfl⟩)))
        go_loop [15, 70] (fun k i => ∃ j : Nat, j ≤ 3 ∧ i = .int .i64 j ∧ k = .int .i64 ([0, 1, 1, 1].getD j 0)) (fun _ i => 3 - (intOf i).toNat)
        case atStart => exact ⟨0, by omega, rfl, rfl⟩
        case round =>
          obtain ⟨j, hj, rfl, rfl⟩ := hrel
          have h4 : j = 0 ∨ j = 1 ∨ j = 2 ∨ j = 3 := by omega
          rcases h4 with rfl | rfl | rfl | rfl
          · go_wp2
            go_round
            case rel => exact ⟨1, by omega, by go_num, by simp⟩
            case measure => simp [intOf]
          · go_wp2
            go_round
            case rel => exact ⟨2, by omega, by go_num, by simp⟩
            case measure => simp [intOf]
          · go_wp2
            go_round
            case rel => exact ⟨3, by omega, by go_num, by simp⟩
            case measure => simp [intOf]
          · go_wp2_with (first | (go_at_call 24; refine (softLess_calls _ _ _).mono ?_; rintro e w' ⟨rfl, rfl⟩) | (go_at_call 28; refine (softEqual_calls _ _ _).mono ?_; rintro e w' ⟨rfl, rfl⟩) | (go_at_call 26; refine (softLessEq_calls _ _ _).mono ?_; rintro e w' ⟨rfl, rfl⟩) | (go_at_call 33; refine (softFromInt_calls _ _).mono ?_; rintro e w' ⟨rfl, rfl⟩) | (go_at_call 30; refine (awake_calls _).mono ?_; rintro e w' ⟨rfl, n, rfl⟩) | (go_at_call 31; refine (softTrunc_quiet _ _).mono ?_; rintro e w' ⟨rfl, rfl⟩) | (go_at_call 37; refine (cw _).mono ?_; rintro e w' ⟨rfl, rfl⟩) | (go_at_call 35; refine (cb _).mono ?_; rintro e w' ⟨rfl, rfl⟩) | (go_at_call 39; first | ((with_reducible refine (cna _).mono ?_); rintro e w' ⟨rfl, rfl⟩) | ((with_reducible refine (cnb _).mono ?_); rintro e w' ⟨rfl, rfl⟩)) | (go_at_call 40; first | ((with_reducible refine (cfa _).mono ?_); rintro e w' ⟨rfl, n, rfl⟩) | ((with_reducible refine (cff _).mono ?_); rintro e w' ⟨rfl, n, rfl⟩)))
            go_ret
            exact ⟨rfl, by first | exact below_draw (below_alloc' (Below.refl _ _) (Nat.le_refl _) _) _ | exact below_draw (below_draw (below_draw (below_alloc' (Below.refl _ _) (Nat.le_refl _) _) _) _) _ | exact below_alloc' (Below.refl _ _) (Nat.le_refl _) _⟩
    · have d1 : decide (i ≥ -9007199254740992) = false := decide_eq_false i1
      clear ra rb rn
      go_enter Try.func10, Try.ntmps10
      go_wp2_with (first | (go_at_call 24; refine (softLess_calls _ _ _).mono ?_; rintro e w' ⟨rfl, rfl⟩) | (go_at_call 28; refine (softEqual_calls _ _ _).mono ?_; rintro e w' ⟨rfl, rfl⟩) | (go_at_call 26; refine (softLessEq_calls _ _ _).mono ?_; rintro e w' ⟨rfl, rfl⟩) | (go_at_call 33; refine (softFromInt_calls _ _).mono ?_; rintro e w' ⟨rfl, rfl⟩) | (go_at_call 30; refine (awake_calls _).mono ?_; rintro e w' ⟨rfl, n, rfl⟩) | (go_at_call 31; refine (softTrunc_quiet _ _).mono ?_; rintro e w' ⟨rfl, rfl⟩) | (go_at_call 37; refine (cw _).mono ?_; rintro e w' ⟨rfl, rfl⟩) | (go_at_call 35; refine (cb _).mono ?_; rintro e w' ⟨rfl, rfl⟩) | (go_at_call 39; first | ((with_reducible refine (cna _).mono ?_); rintro e w' ⟨rfl, rfl⟩) | ((with_reducible refine (cnb _).mono ?_); rintro e w' ⟨rfl, rfl⟩)) | (go_at_call 40; first | ((with_reducible refine (cfa _).mono ?_); rintro e w' ⟨rfl, n, rfl⟩) | ((with_reducible refine (cff _).mono ?_); rintro e w' ⟨rfl, n, rfl⟩)))
      go_loop [15, 70] (fun k i => ∃ j : Nat, j ≤ 3 ∧ i = .int .i64 j ∧ k = .int .i64 ([0, 1, 1, 1].getD j 0)) (fun _ i => 3 - (intOf i).toNat)
      case atStart => exact ⟨0, by omega, rfl, rfl⟩
      case round =>
        obtain ⟨j, hj, rfl, rfl⟩ := hrel
        have h4 : j = 0 ∨ j = 1 ∨ j = 2 ∨ j = 3 := by omega
        rcases h4 with rfl | rfl | rfl | rfl
        · go_wp2
          go_round
          case rel => exact ⟨1, by omega, by go_num, by simp⟩
          case measure => simp [intOf]
        · go_wp2
          go_round
          case rel => exact ⟨2, by omega, by go_num, by simp⟩
          case measure => simp [intOf]
        · go_wp2
          go_round
          case rel => exact ⟨3, by omega, by go_num, by simp⟩
          case measure => simp [intOf]
        · go_wp2_with (first | (go_at_call 24; refine (softLess_calls _ _ _).mono ?_; rintro e w' ⟨rfl, rfl⟩) | (go_at_call 28; refine (softEqual_calls _ _ _).mono ?_; rintro e w' ⟨rfl, rfl⟩) | (go_at_call 26; refine (softLessEq_calls _ _ _).mono ?_; rintro e w' ⟨rfl, rfl⟩) | (go_at_call 33; refine (softFromInt_calls _ _).mono ?_; rintro e w' ⟨rfl, rfl⟩) | (go_at_call 30; refine (awake_calls _).mono ?_; rintro e w' ⟨rfl, n, rfl⟩) | (go_at_call 31; refine (softTrunc_quiet _ _).mono ?_; rintro e w' ⟨rfl, rfl⟩) | (go_at_call 37; refine (cw _).mono ?_; rintro e w' ⟨rfl, rfl⟩) | (go_at_call 35; refine (cb _).mono ?_; rintro e w' ⟨rfl, rfl⟩) | (go_at_call 39; first | ((with_reducible refine (cna _).mono ?_); rintro e w' ⟨rfl, rfl⟩) | ((with_reducible refine (cnb _).mono ?_); rintro e w' ⟨rfl, rfl⟩)) | (go_at_call 40; first | ((with_reducible refine (cfa _).mono ?_); rintro e w' ⟨rfl, n, rfl⟩) | ((with_reducible refine (cff _).mono ?_); rintro e w' ⟨rfl, n, rfl⟩)))
          go_ret
          exact ⟨rfl, by first | exact below_draw (below_alloc' (Below.refl _ _) (Nat.le_refl _) _) _ | exact below_draw (below_draw (below_draw (below_alloc' (Below.refl _ _) (Nat.le_refl _) _) _) _) _ | exact below_alloc' (Below.refl _ _) (Nat.le_refl _) _⟩
  | false =>
    have wc : (sWide n != 9221120237041090560) = false := by unfold sWide; rw [hn]; rfl
    clear hn
    by_cases i1 : -9007199254740992 ≤ i
    · by_cases i2 : i ≤ 9007199254740992
      · have ti := trc_back i1 i2
        have d1 : decide (i ≥ -9007199254740992) = true := decide_eq_true i1
        have d2 : decide (i ≤ 9007199254740992) = true := decide_eq_true i2
        clear ra rb rn
        go_enter Try.func10, Try.ntmps10
        go_wp2_with (first | (go_at_call 24; refine (softLess_calls _ _ _).mono ?_; rintro e w' ⟨rfl, rfl⟩) | (go_at_call 28; refine (softEqual_calls _ _ _).mono ?_; rintro e w' ⟨rfl, rfl⟩) | (go_at_call 26; refine (softLessEq_calls _ _ _).mono ?_; rintro e w' ⟨rfl, rfl⟩) | (go_at_call 33; refine (softFromInt_calls _ _).mono ?_; rintro e w' ⟨rfl, rfl⟩) | (go_at_call 30; refine (awake_calls _).mono ?_; rintro e w' ⟨rfl, n, rfl⟩) | (go_at_call 31; refine (softTrunc_quiet _ _).mono ?_; rintro e w' ⟨rfl, rfl⟩) | (go_at_call 37; refine (cw _).mono ?_; rintro e w' ⟨rfl, rfl⟩) | (go_at_call 39; first | ((with_reducible refine (cna _).mono ?_); rintro e w' ⟨rfl, rfl⟩) | ((with_reducible refine (cnb _).mono ?_); rintro e w' ⟨rfl, rfl⟩)) | (go_at_call 40; first | ((with_reducible refine (cfa _).mono ?_); rintro e w' ⟨rfl, n, rfl⟩) | ((with_reducible refine (cff _).mono ?_); rintro e w' ⟨rfl, n, rfl⟩)))
        go_loop [15, 70] (fun k i => ∃ j : Nat, j ≤ 3 ∧ i = .int .i64 j ∧ k = .int .i64 ([0, 1, 1, 1].getD j 0)) (fun _ i => 3 - (intOf i).toNat)
        case atStart => exact ⟨0, by omega, rfl, rfl⟩
        case round =>
          obtain ⟨j, hj, rfl, rfl⟩ := hrel
          have h4 : j = 0 ∨ j = 1 ∨ j = 2 ∨ j = 3 := by omega
          rcases h4 with rfl | rfl | rfl | rfl
          · go_wp2
            go_round
            case rel => exact ⟨1, by omega, by go_num, by simp⟩
            case measure => simp [intOf]
          · go_wp2
            go_round
            case rel => exact ⟨2, by omega, by go_num, by simp⟩
            case measure => simp [intOf]
          · go_wp2
            go_round
            case rel => exact ⟨3, by omega, by go_num, by simp⟩
            case measure => simp [intOf]
          · go_wp2_with (first | (go_at_call 24; refine (softLess_calls _ _ _).mono ?_; rintro e w' ⟨rfl, rfl⟩) | (go_at_call 28; refine (softEqual_calls _ _ _).mono ?_; rintro e w' ⟨rfl, rfl⟩) | (go_at_call 26; refine (softLessEq_calls _ _ _).mono ?_; rintro e w' ⟨rfl, rfl⟩) | (go_at_call 33; refine (softFromInt_calls _ _).mono ?_; rintro e w' ⟨rfl, rfl⟩) | (go_at_call 30; refine (awake_calls _).mono ?_; rintro e w' ⟨rfl, n, rfl⟩) | (go_at_call 31; refine (softTrunc_quiet _ _).mono ?_; rintro e w' ⟨rfl, rfl⟩) | (go_at_call 37; refine (cw _).mono ?_; rintro e w' ⟨rfl, rfl⟩) | (go_at_call 39; first | ((with_reducible refine (cna _).mono ?_); rintro e w' ⟨rfl, rfl⟩) | ((with_reducible refine (cnb _).mono ?_); rintro e w' ⟨rfl, rfl⟩)) | (go_at_call 40; first | ((with_reducible refine (cfa _).mono ?_); rintro e w' ⟨rfl, n, rfl⟩) | ((with_reducible refine (cff _).mono ?_); rintro e w' ⟨rfl, n, rfl⟩)))
            go_ret
            exact ⟨rfl, by first | exact below_draw (below_alloc' (Below.refl _ _) (Nat.le_refl _) _) _ | exact below_draw (below_draw (below_draw (below_alloc' (Below.refl _ _) (Nat.le_refl _) _) _) _) _ | exact below_alloc' (Below.refl _ _) (Nat.le_refl _) _⟩
      · have d1 : decide (i ≥ -9007199254740992) = true := decide_eq_true i1
        have d2 : decide (i ≤ 9007199254740992) = false := decide_eq_false i2
        clear ra rb rn
        go_enter Try.func10, Try.ntmps10
        go_wp2_with (first | (go_at_call 24; refine (softLess_calls _ _ _).mono ?_; rintro e w' ⟨rfl, rfl⟩) | (go_at_call 28; refine (softEqual_calls _ _ _).mono ?_; rintro e w' ⟨rfl, rfl⟩) | (go_at_call 26; refine (softLessEq_calls _ _ _).mono ?_; rintro e w' ⟨rfl, rfl⟩) | (go_at_call 33; refine (softFromInt_calls _ _).mono ?_; rintro e w' ⟨rfl, rfl⟩) | (go_at_call 30; refine (awake_calls _).mono ?_; rintro e w' ⟨rfl, n, rfl⟩) | (go_at_call 31; refine (softTrunc_quiet _ _).mono ?_; rintro e w' ⟨rfl, rfl⟩) | (go_at_call 37; refine (cw _).mono ?_; rintro e w' ⟨rfl, rfl⟩) | (go_at_call 39; first | ((with_reducible refine (cna _).mono ?_); rintro e w' ⟨rfl, rfl⟩) | ((with_reducible refine (cnb _).mono ?_); rintro e w' ⟨rfl, rfl⟩)) | (go_at_call 40; first | ((with_reducible refine (cfa _).mono ?_); rintro e w' ⟨rfl, n, rfl⟩) | ((with_reducible refine (cff _).mono ?_); rintro e w' ⟨rfl, n, rfl⟩)))
        go_loop [15, 70] (fun k i => ∃ j : Nat, j ≤ 3 ∧ i = .int .i64 j ∧ k = .int .i64 ([0, 1, 1, 1].getD j 0)) (fun _ i => 3 - (intOf i).toNat)
        case atStart => exact ⟨0, by omega, rfl, rfl⟩
        case round =>
          obtain ⟨j, hj, rfl, rfl⟩ := hrel
          have h4 : j = 0 ∨ j = 1 ∨ j = 2 ∨ j = 3 := by omega
          rcases h4 with rfl | rfl | rfl | rfl
          · go_wp2
            go_round
            case rel => exact ⟨1, by omega, by go_num, by simp⟩
            case measure => simp [intOf]
          · go_wp2
            go_round
            case rel => exact ⟨2, by omega, by go_num, by simp⟩
            case measure => simp [intOf]
          · go_wp2
            go_round
            case rel => exact ⟨3, by omega, by go_num, by simp⟩
            case measure => simp [intOf]
          · go_wp2_with (first | (go_at_call 24; refine (softLess_calls _ _ _).mono ?_; rintro e w' ⟨rfl, rfl⟩) | (go_at_call 28; refine (softEqual_calls _ _ _).mono ?_; rintro e w' ⟨rfl, rfl⟩) | (go_at_call 26; refine (softLessEq_calls _ _ _).mono ?_; rintro e w' ⟨rfl, rfl⟩) | (go_at_call 33; refine (softFromInt_calls _ _).mono ?_; rintro e w' ⟨rfl, rfl⟩) | (go_at_call 30; refine (awake_calls _).mono ?_; rintro e w' ⟨rfl, n, rfl⟩) | (go_at_call 31; refine (softTrunc_quiet _ _).mono ?_; rintro e w' ⟨rfl, rfl⟩) | (go_at_call 37; refine (cw _).mono ?_; rintro e w' ⟨rfl, rfl⟩) | (go_at_call 39; first | ((with_reducible refine (cna _).mono ?_); rintro e w' ⟨rfl, rfl⟩) | ((with_reducible refine (cnb _).mono ?_); rintro e w' ⟨rfl, rfl⟩)) | (go_at_call 40; first | ((with_reducible refine (cfa _).mono ?_); rintro e w' ⟨rfl, n, rfl⟩) | ((with_reducible refine (cff _).mono ?_); rintro e w' ⟨rfl, n, rfl⟩)))
            go_ret
            exact ⟨rfl, by first | exact below_draw (below_alloc' (Below.refl _ _) (Nat.le_refl _) _) _ | exact below_draw (below_draw (below_draw (below_alloc' (Below.refl _ _) (Nat.le_refl _) _) _) _) _ | exact below_alloc' (Below.refl _ _) (Nat.le_refl _) _⟩
    · have d1 : decide (i ≥ -9007199254740992) = false := decide_eq_false i1
      clear ra rb rn
      go_enter Try.func10, Try.ntmps10
      go_wp2_with (first | (go_at_call 24; refine (softLess_calls _ _ _).mono ?_; rintro e w' ⟨rfl, rfl⟩) | (go_at_call 28; refine (softEqual_calls _ _ _).mono ?_; rintro e w' ⟨rfl, rfl⟩) | (go_at_call 26; refine (softLessEq_calls _ _ _).mono ?_; rintro e w' ⟨rfl, rfl⟩) | (go_at_call 33; refine (softFromInt_calls _ _).mono ?_; rintro e w' ⟨rfl, rfl⟩) | (go_at_call 30; refine (awake_calls _).mono ?_; rintro e w' ⟨rfl, n, rfl⟩) | (go_at_call 31; refine (softTrunc_quiet _ _).mono ?_; rintro e w' ⟨rfl, rfl⟩) | (go_at_call 37; refine (cw _).mono ?_; rintro e w' ⟨rfl, rfl⟩) | (go_at_call 39; first | ((with_reducible refine (cna _).mono ?_); rintro e w' ⟨rfl, rfl⟩) | ((with_reducible refine (cnb _).mono ?_); rintro e w' ⟨rfl, rfl⟩)) | (go_at_call 40; first | ((with_reducible refine (cfa _).mono ?_); rintro e w' ⟨rfl, n, rfl⟩) | ((with_reducible refine (cff _).mono ?_); rintro e w' ⟨rfl, n, rfl⟩)))
      go_loop [15, 70] (fun k i => ∃ j : Nat, j ≤ 3 ∧ i = .int .i64 j ∧ k = .int .i64 ([0, 1, 1, 1].getD j 0)) (fun _ i => 3 - (intOf i).toNat)
      case atStart => exact ⟨0, by omega, rfl, rfl⟩
      case round =>
        obtain ⟨j, hj, rfl, rfl⟩ := hrel
        have h4 : j = 0 ∨ j = 1 ∨ j = 2 ∨ j = 3 := by omega
        rcases h4 with rfl | rfl | rfl | rfl
        · go_wp2
          go_round
          case rel => exact ⟨1, by omega, by go_num, by simp⟩
          case measure => simp [intOf]
        · go_wp2
          go_round
          case rel => exact ⟨2, by omega, by go_num, by simp⟩
          case measure => simp [intOf]
        · go_wp2
          go_round
          case rel => exact ⟨3, by omega, by go_num, by simp⟩
          case measure => simp [intOf]
        · go_wp2_with (first | (go_at_call 24; refine (softLess_calls _ _ _).mono ?_; rintro e w' ⟨rfl, rfl⟩) | (go_at_call 28; refine (softEqual_calls _ _ _).mono ?_; rintro e w' ⟨rfl, rfl⟩) | (go_at_call 26; refine (softLessEq_calls _ _ _).mono ?_; rintro e w' ⟨rfl, rfl⟩) | (go_at_call 33; refine (softFromInt_calls _ _).mono ?_; rintro e w' ⟨rfl, rfl⟩) | (go_at_call 30; refine (awake_calls _).mono ?_; rintro e w' ⟨rfl, n, rfl⟩) | (go_at_call 31; refine (softTrunc_quiet _ _).mono ?_; rintro e w' ⟨rfl, rfl⟩) | (go_at_call 37; refine (cw _).mono ?_; rintro e w' ⟨rfl, rfl⟩) | (go_at_call 39; first | ((with_reducible refine (cna _).mono ?_); rintro e w' ⟨rfl, rfl⟩) | ((with_reducible refine (cnb _).mono ?_); rintro e w' ⟨rfl, rfl⟩)) | (go_at_call 40; first | ((with_reducible refine (cfa _).mono ?_); rintro e w' ⟨rfl, n, rfl⟩) | ((with_reducible refine (cff _).mono ?_); rintro e w' ⟨rfl, n, rfl⟩)))
          go_ret
          exact ⟨rfl, by first | exact below_draw (below_alloc' (Below.refl _ _) (Nat.le_refl _) _) _ | exact below_draw (below_draw (below_draw (below_alloc' (Below.refl _ _) (Nat.le_refl _) _) _) _) _ | exact below_alloc' (Below.refl _ _) (Nat.le_refl _) _⟩

set_option maxRecDepth 100000 in
set_option maxHeartbeats 6400000 in
theorem back_same (a b i n : Int) (ra : 0 ≤ a ∧ a < 18446744073709551616) (rb : 0 ≤ b ∧ b < 18446744073709551616) (rn : 0 ≤ n ∧ n < 4294967296)
    (l1 : sLess a b = false) (l2 : sEqual a b = true) (l3 : sLess b a = false) (l4 : sLessEq a b = true) (m1 : nanB a = false) (m2 : nanB b = false) (f1 : sLessEq (sFloor a) a = true) (f2 : (sFloor (sFloor a) == sFloor a) = true) (w : World) :
    Calls Try.prog 10 #[.int .u64 a, .int .u64 b, .int .i64 i, .int .u32 n] w fun e w' => e = .returned (.bool true) ∧ Below w.heap.size w w' := by
  have cna := nanQ a ra
  have cnb := nanQ b rb
  have cw := softWide_calls n rn.1 rn.2
  have cfa := softFloor_calls a ra.2
  have cff := softFloor_calls (sFloor a) (sFloor_range a).2
  cases hn : isNum32 n with
  | true =>
    have cb := narrow_back rn.1 rn.2 hn
    have wc := wide_clean hn
    clear hn
    by_cases i1 : -9007199254740992 ≤ i
    · by_cases i2 : i ≤ 9007199254740992
      · have ti := trc_back i1 i2
        have d1 : decide (i ≥ -9007199254740992) = true := decide_eq_true i1
        have d2 : decide (i ≤ 9007199254740992) = true := decide_eq_true i2
        clear ra rb rn
        go_enter Try.func10, Try.ntmps10
        go_wp2_with (first | (go_at_call 24; refine (softLess_calls _ _ _).mono ?_; rintro e w' ⟨rfl, rfl⟩) | (go_at_call 28; refine (softEqual_calls _ _ _).mono ?_; rintro e w' ⟨rfl, rfl⟩) | (go_at_call 26; refine (softLessEq_calls _ _ _).mono ?_; rintro e w' ⟨rfl, rfl⟩) | (go_at_call 33; refine (softFromInt_calls _ _).mono ?_; rintro e w' ⟨rfl, rfl⟩) | (go_at_call 30; refine (awake_calls _).mono ?_; rintro e w' ⟨rfl, n, rfl⟩) | (go_at_call 31; refine (softTrunc_quiet _ _).mono ?_; rintro e w' ⟨rfl, rfl⟩) | (go_at_call 37; refine (cw _).mono ?_; rintro e w' ⟨rfl, rfl⟩) | (go_at_call 35; refine (cb _).mono ?_; rintro e w' ⟨rfl, rfl⟩) | (go_at_call 39; first | ((with_reducible refine (cna _).mono ?_); rintro e w' ⟨rfl, rfl⟩) | ((with_reducible refine (cnb _).mono ?_); rintro e w' ⟨rfl, rfl⟩)) | (go_at_call 40; first | ((with_reducible refine (cfa _).mono ?_); rintro e w' ⟨rfl, n, rfl⟩) | ((with_reducible refine (cff _).mono ?_); rintro e w' ⟨rfl, n, rfl⟩)))
        go_loop [15, 70] (fun k i => ∃ j : Nat, j ≤ 3 ∧ i = .int .i64 j ∧ k = .int .i64 ([0, 0, 1, 1].getD j 0)) (fun _ i => 3 - (intOf i).toNat)
        case atStart => exact ⟨0, by omega, rfl, rfl⟩
        case round =>
          obtain ⟨j, hj, rfl, rfl⟩ := hrel
          have h4 : j = 0 ∨ j = 1 ∨ j = 2 ∨ j = 3 := by omega
          rcases h4 with rfl | rfl | rfl | rfl
          · go_wp2
            go_round
            case rel => exact ⟨1, by omega, by go_num, by simp⟩
            case measure => simp [intOf]
          · go_wp2
            go_round
            case rel => exact ⟨2, by omega, by go_num, by simp⟩
            case measure => simp [intOf]
          · go_wp2
            go_round
            case rel => exact ⟨3, by omega, by go_num, by simp⟩
            case measure => simp [intOf]
          · go_wp2_with (first | (go_at_call 24; refine (softLess_calls _ _ _).mono ?_; rintro e w' ⟨rfl, rfl⟩) | (go_at_call 28; refine (softEqual_calls _ _ _).mono ?_; rintro e w' ⟨rfl, rfl⟩) | (go_at_call 26; refine (softLessEq_calls _ _ _).mono ?_; rintro e w' ⟨rfl, rfl⟩) | (go_at_call 33; refine (softFromInt_calls _ _).mono ?_; rintro e w' ⟨rfl, rfl⟩) | (go_at_call 30; refine (awake_calls _).mono ?_; rintro e w' ⟨rfl, n, rfl⟩) | (go_at_call 31; refine (softTrunc_quiet _ _).mono ?_; rintro e w' ⟨rfl, rfl⟩) | (go_at_call 37; refine (cw _).mono ?_; rintro e w' ⟨rfl, rfl⟩) | (go_at_call 35; refine (cb _).mono ?_; rintro e w' ⟨rfl, rfl⟩) | (go_at_call 39; first | ((with_reducible refine (cna _).mono ?_); rintro e w' ⟨rfl, rfl⟩) | ((with_reducible refine (cnb _).mono ?_); rintro e w' ⟨rfl, rfl⟩)) | (go_at_call 40; first | ((with_reducible refine (cfa _).mono ?_); rintro e w' ⟨rfl, n, rfl⟩) | ((with_reducible refine (cff _).mono ?_); rintro e w' ⟨rfl, n, rfl⟩)))
            go_ret
            exact ⟨rfl, by first | exact below_draw (below_alloc' (Below.refl _ _) (Nat.le_refl _) _) _ | exact below_draw (below_draw (below_draw (below_alloc' (Below.refl _ _) (Nat.le_refl _) _) _) _) _ | exact below_alloc' (Below.refl _ _) (Nat.le_refl _) _⟩
      · have d1 : decide (i ≥ -9007199254740992) = true := decide_eq_true i1
        have d2 : decide (i ≤ 9007199254740992) = false := decide_eq_false i2
        clear ra rb rn
        go_enter Try.func10, Try.ntmps10
        go_wp2_with (first | (go_at_call 24; refine (softLess_calls _ _ _).mono ?_; rintro e w' ⟨rfl, rfl⟩) | (go_at_call 28; refine (softEqual_calls _ _ _).mono ?_; rintro e w' ⟨rfl, rfl⟩) | (go_at_call 26; refine (softLessEq_calls _ _ _).mono ?_; rintro e w' ⟨rfl, rfl⟩) | (go_at_call 33; refine (softFromInt_calls _ _).mono ?_; rintro e w' ⟨rfl, rfl⟩) | (go_at_call 30; refine (awake_calls _).mono ?_; rintro e w' ⟨rfl, n, rfl⟩) | (go_at_call 31; refine (softTrunc_quiet _ _).mono ?_; rintro e w' ⟨rfl, rfl⟩) | (go_at_call 37; refine (cw _).mono ?_; rintro e w' ⟨rfl, rfl⟩) | (go_at_call 35; refine (cb _).mono ?_; rintro e w' ⟨rfl, rfl⟩) | (go_at_call 39; first | ((with_reducible refine (cna _).mono ?_); rintro e w' ⟨rfl, rfl⟩) | ((with_reducible refine (cnb _).mono ?_); rintro e w' ⟨rfl, rfl⟩)) | (go_at_call 40; first | ((with_reducible refine (cfa _).mono ?_); rintro e w' ⟨rfl, n, rfl⟩) | ((with_reducible refine (cff _).mono ?_); rintro e w' ⟨rfl, n, rfl⟩)))
        go_loop [15, 70] (fun k i => ∃ j : Nat, j ≤ 3 ∧ i = .int .i64 j ∧ k = .int .i64 ([0, 0, 1, 1].getD j 0)) (fun _ i => 3 - (intOf i).toNat)
        case atStart => exact ⟨0, by omega, rfl, rfl⟩
        case round =>
          obtain ⟨j, hj, rfl, rfl⟩ := hrel
          have h4 : j = 0 ∨ j = 1 ∨ j = 2 ∨ j = 3 := by omega
          rcases h4 with rfl | rfl | rfl | rfl
          · go_wp2
            go_round
            case rel => exact ⟨1, by omega, by go_num, by simp⟩
            case measure => simp [intOf]
          · go_wp2
            go_round
            case rel => exact ⟨2, by omega, by go_num, by simp⟩
            case measure => simp [intOf]
          · go_wp2
            go_round
            case rel => exact ⟨3, by omega, by go_num, by simp⟩
            case measure => simp [intOf]
          · go_wp2_with (first | (go_at_call 24; refine (softLess_calls _ _ _).mono ?_; rintro e w' ⟨rfl, rfl⟩) | (go_at_call 28; refine (softEqual_calls _ _ _).mono ?_; rintro e w' ⟨rfl, rfl⟩) | (go_at_call 26; refine (softLessEq_calls _ _ _).mono ?_; rintro e w' ⟨rfl, rfl⟩) | (go_at_call 33; refine (softFromInt_calls _ _).mono ?_; rintro e w' ⟨rfl, rfl⟩) | (go_at_call 30; refine (awake_calls _).mono ?_; rintro e w' ⟨rfl, n, rfl⟩) | (go_at_call 31; refine (softTrunc_quiet _ _).mono ?_; rintro e w' ⟨rfl, rfl⟩) | (go_at_call 37; refine (cw _).mono ?_; rintro e w' ⟨rfl, rfl⟩) | (go_at_call 35; refine (cb _).mono ?_; rintro e w' ⟨rfl, rfl⟩) | (go_at_call 39; first | ((with_reducible refine (cna _).mono ?_); rintro e w' ⟨rfl, rfl⟩) | ((with_reducible refine (cnb _).mono ?_); rintro e w' ⟨rfl, rfl⟩)) | (go_at_call 40; first | ((with_reducible refine (cfa _).mono ?_); rintro e w' ⟨rfl, n, rfl⟩) | ((with_reducible refine (cff _).mono ?_); rintro e w' ⟨rfl, n, rfl⟩)))
            go_ret
            exact ⟨rfl, by first | exact below_draw (below_alloc' (Below.refl _ _) (Nat.le_refl _) _) _ | exact below_draw (below_draw (below_draw (below_alloc' (Below.refl _ _) (Nat.le_refl _) _) _) _) _ | exact below_alloc' (Below.refl _ _) (Nat.le_refl _) _⟩
    · have d1 : decide (i ≥ -9007199254740992) = false := decide_eq_false i1
      clear ra rb rn
      go_enter Try.func10, Try.ntmps10
      go_wp2_with (first | (go_at_call 24; refine (softLess_calls _ _ _).mono ?_; rintro e w' ⟨rfl, rfl⟩) | (go_at_call 28; refine (softEqual_calls _ _ _).mono ?_; rintro e w' ⟨rfl, rfl⟩) | (go_at_call 26; refine (softLessEq_calls _ _ _).mono ?_; rintro e w' ⟨rfl, rfl⟩) | (go_at_call 33; refine (softFromInt_calls _ _).mono ?_; rintro e w' ⟨rfl, rfl⟩) | (go_at_call 30; refine (awake_calls _).mono ?_; rintro e w' ⟨rfl, n, rfl⟩) | (go_at_call 31; refine (softTrunc_quiet _ _).mono ?_; rintro e w' ⟨rfl, rfl⟩) | (go_at_call 37; refine (cw _).mono ?_; rintro e w' ⟨rfl, rfl⟩) | (go_at_call 35; refine (cb _).mono ?_; rintro e w' ⟨rfl, rfl⟩) | (go_at_call 39; first | ((with_reducible refine (cna _).mono ?_); rintro e w' ⟨rfl, rfl⟩) | ((with_reducible refine (cnb _).mono ?_); rintro e w' ⟨rfl, rfl⟩)) | (go_at_call 40; first | ((with_reducible refine (cfa _).mono ?_); rintro e w' ⟨rfl, n, rfl⟩) | ((with_reducible refine (cff _).mono ?_); rintro e w' ⟨rfl, n, rfl⟩)))
      go_loop [15, 70] (fun k i => ∃ j : Nat, j ≤ 3 ∧ i = .int .i64 j ∧ k = .int .i64 ([0, 0, 1, 1].getD j 0)) (fun _ i => 3 - (intOf i).toNat)
      case atStart => exact ⟨0, by omega, rfl, rfl⟩
      case round =>
        obtain ⟨j, hj, rfl, rfl⟩ := hrel
        have h4 : j = 0 ∨ j = 1 ∨ j = 2 ∨ j = 3 := by omega
        rcases h4 with rfl | rfl | rfl | rfl
        · go_wp2
          go_round
          case rel => exact ⟨1, by omega, by go_num, by simp⟩
          case measure => simp [intOf]
        · go_wp2
          go_round
          case rel => exact ⟨2, by omega, by go_num, by simp⟩
          case measure => simp [intOf]
        · go_wp2
          go_round
          case rel => exact ⟨3, by omega, by go_num, by simp⟩
          case measure => simp [intOf]
        · go_wp2_with (first | (go_at_call 24; refine (softLess_calls _ _ _).mono ?_; rintro e w' ⟨rfl, rfl⟩) | (go_at_call 28; refine (softEqual_calls _ _ _).mono ?_; rintro e w' ⟨rfl, rfl⟩) | (go_at_call 26; refine (softLessEq_calls _ _ _).mono ?_; rintro e w' ⟨rfl, rfl⟩) | (go_at_call 33; refine (softFromInt_calls _ _).mono ?_; rintro e w' ⟨rfl, rfl⟩) | (go_at_call 30; refine (awake_calls _).mono ?_; rintro e w' ⟨rfl, n, rfl⟩) | (go_at_call 31; refine (softTrunc_quiet _ _).mono ?_; rintro e w' ⟨rfl, rfl⟩) | (go_at_call 37; refine (cw _).mono ?_; rintro e w' ⟨rfl, rfl⟩) | (go_at_call 35; refine (cb _).mono ?_; rintro e w' ⟨rfl, rfl⟩) | (go_at_call 39; first | ((with_reducible refine (cna _).mono ?_); rintro e w' ⟨rfl, rfl⟩) | ((with_reducible refine (cnb _).mono ?_); rintro e w' ⟨rfl, rfl⟩)) | (go_at_call 40; first | ((with_reducible refine (cfa _).mono ?_); rintro e w' ⟨rfl, n, rfl⟩) | ((with_reducible refine (cff _).mono ?_); rintro e w' ⟨rfl, n, rfl⟩)))
          go_ret
          exact ⟨rfl, by first | exact below_draw (below_alloc' (Below.refl _ _) (Nat.le_refl _) _) _ | exact below_draw (below_draw (below_draw (below_alloc' (Below.refl _ _) (Nat.le_refl _) _) _) _) _ | exact below_alloc' (Below.refl _ _) (Nat.le_refl _) _⟩
  | false =>
    have wc : (sWide n != 9221120237041090560) = false := by unfold sWide; rw [hn]; rfl
    clear hn
    by_cases i1 : -9007199254740992 ≤ i
    · by_cases i2 : i ≤ 9007199254740992
      · have ti := trc_back i1 i2
        have d1 : decide (i ≥ -9007199254740992) = true := decide_eq_true i1
        have d2 : decide (i ≤ 9007199254740992) = true := decide_eq_true i2
        clear ra rb rn
        go_enter Try.func10, Try.ntmps10
        go_wp2_with (first | (go_at_call 24; refine (softLess_calls _ _ _).mono ?_; rintro e w' ⟨rfl, rfl⟩) | (go_at_call 28; refine (softEqual_calls _ _ _).mono ?_; rintro e w' ⟨rfl, rfl⟩) | (go_at_call 26; refine (softLessEq_calls _ _ _).mono ?_; rintro e w' ⟨rfl, rfl⟩) | (go_at_call 33; refine (softFromInt_calls _ _).mono ?_; rintro e w' ⟨rfl, rfl⟩) | (go_at_call 30; refine (awake_calls _).mono ?_; rintro e w' ⟨rfl, n, rfl⟩) | (go_at_call 31; refine (softTrunc_quiet _ _).mono ?_; rintro e w' ⟨rfl, rfl⟩) | (go_at_call 37; refine (cw _).mono ?_; rintro e w' ⟨rfl, rfl⟩) | (go_at_call 39; first | ((with_reducible refine (cna _).mono ?_); rintro e w' ⟨rfl, rfl⟩) | ((with_reducible refine (cnb _).mono ?_); rintro e w' ⟨rfl, rfl⟩)) | (go_at_call 40; first | ((with_reducible refine (cfa _).mono ?_); rintro e w' ⟨rfl, n, rfl⟩) | ((with_reducible refine (cff _).mono ?_); rintro e w' ⟨rfl, n, rfl⟩)))
        go_loop [15, 70] (fun k i => ∃ j : Nat, j ≤ 3 ∧ i = .int .i64 j ∧ k = .int .i64 ([0, 0, 1, 1].getD j 0)) (fun _ i => 3 - (intOf i).toNat)
        case atStart => exact ⟨0, by omega, rfl, rfl⟩
        case round =>
          obtain ⟨j, hj, rfl, rfl⟩ := hrel
          have h4 : j = 0 ∨ j = 1 ∨ j = 2 ∨ j = 3 := by omega
          rcases h4 with rfl | rfl | rfl | rfl
          · go_wp2
            go_round
            case rel => exact ⟨1, by omega, by go_num, by simp⟩
            case measure => simp [intOf]
          · go_wp2
            go_round
            case rel => exact ⟨2, by omega, by go_num, by simp⟩
            case measure => simp [intOf]
          · go_wp2
            go_round
            case rel => exact ⟨3, by omega, by go_num, by simp⟩
            case measure => simp [intOf]
          · go_wp2_with (first | (go_at_call 24; refine (softLess_calls _ _ _).mono ?_; rintro e w' ⟨rfl, rfl⟩) | (go_at_call 28; refine (softEqual_calls _ _ _).mono ?_; rintro e w' ⟨rfl, rfl⟩) | (go_at_call 26; refine (softLessEq_calls _ _ _).mono ?_; rintro e w' ⟨rfl, rfl⟩) | (go_at_call 33; refine (softFromInt_calls _ _).mono ?_; rintro e w' ⟨rfl, rfl⟩) | (go_at_call 30; refine (awake_calls _).mono ?_; rintro e w' ⟨rfl, n, rfl⟩) | (go_at_call 31; refine (softTrunc_quiet _ _).mono ?_; rintro e w' ⟨rfl, rfl⟩) | (go_at_call 37; refine (cw _).mono ?_; rintro e w' ⟨rfl, rfl⟩) | (go_at_call 39; first | ((with_reducible refine (cna _).mono ?_); rintro e w' ⟨rfl, rfl⟩) | ((with_reducible refine (cnb _).mono ?_); rintro e w' ⟨rfl, rfl⟩)) | (go_at_call 40; first | ((with_reducible refine (cfa _).mono ?_); rintro e w' ⟨rfl, n, rfl⟩) | ((with_reducible refine (cff _).mono ?_); rintro e w' ⟨rfl, n, rfl⟩)))
            go_ret
            exact ⟨rfl, by first | exact below_draw (below_alloc' (Below.refl _ _) (Nat.le_refl _) _) _ | exact below_draw (below_draw (below_draw (below_alloc' (Below.refl _ _) (Nat.le_refl _) _) _) _) _ | exact below_alloc' (Below.refl _ _) (Nat.le_refl _) _⟩
      · have d1 : decide (i ≥ -9007199254740992) = true := decide_eq_true i1
        have d2 : decide (i ≤ 9007199254740992) = false := decide_eq_false i2
        clear ra rb rn
        go_enter Try.func10, Try.ntmps10
        go_wp2_with (first | (go_at_call 24; refine (softLess_calls _ _ _).mono ?_; rintro e w' ⟨rfl, rfl⟩) | (go_at_call 28; refine (softEqual_calls _ _ _).mono ?_; rintro e w' ⟨rfl, rfl⟩) | (go_at_call 26; refine (softLessEq_calls _ _ _).mono ?_; rintro e w' ⟨rfl, rfl⟩) | (go_at_call 33; refine (softFromInt_calls _ _).mono ?_; rintro e w' ⟨rfl, rfl⟩) | (go_at_call 30; refine (awake_calls _).mono ?_; rintro e w' ⟨rfl, n, rfl⟩) | (go_at_call 31; refine (softTrunc_quiet _ _).mono ?_; rintro e w' ⟨rfl, rfl⟩) | (go_at_call 37; refine (cw _).mono ?_; rintro e w' ⟨rfl, rfl⟩) | (go_at_call 39; first | ((with_reducible refine (cna _).mono ?_); rintro e w' ⟨rfl, rfl⟩) | ((with_reducible refine (cnb _).mono ?_); rintro e w' ⟨rfl, rfl⟩)) | (go_at_call 40; first | ((with_reducible refine (cfa _).mono ?_); rintro e w' ⟨rfl, n, rfl⟩) | ((with_reducible refine (cff _).mono ?_); rintro e w' ⟨rfl, n, rfl⟩)))
        go_loop [15, 70] (fun k i => ∃ j : Nat, j ≤ 3 ∧ i = .int .i64 j ∧ k = .int .i64 ([0, 0, 1, 1].getD j 0)) (fun _ i => 3 - (intOf i).toNat)
        case atStart => exact ⟨0, by omega, rfl, rfl⟩
        case round =>
          obtain ⟨j, hj, rfl, rfl⟩ := hrel
          have h4 : j = 0 ∨ j = 1 ∨ j = 2 ∨ j = 3 := by omega
          rcases h4 with rfl | rfl | rfl | rfl
          · go_wp2
            go_round
            case rel => exact ⟨1, by omega, by go_num, by simp⟩
            case measure => simp [intOf]
          · go_wp2
            go_round
            case rel => exact ⟨2, by omega, by go_num, by simp⟩
            case measure => simp [intOf]
          · go_wp2
            go_round
            case rel => exact ⟨3, by omega, by go_num, by simp⟩
            case measure => simp [intOf]
          · go_wp2_with (first | (go_at_call 24; refine (softLess_calls _ _ _).mono ?_; rintro e w' ⟨rfl, rfl⟩) | (go_at_call 28; refine (softEqual_calls _ _ _).mono ?_; rintro e w' ⟨rfl, rfl⟩) | (go_at_call 26; refine (softLessEq_calls _ _ _).mono ?_; rintro e w' ⟨rfl, rfl⟩) | (go_at_call 33; refine (softFromInt_calls _ _).mono ?_; rintro e w' ⟨rfl, rfl⟩) | (go_at_call 30; refine (awake_calls _).mono ?_; rintro e w' ⟨rfl, n, rfl⟩) | (go_at_call 31; refine (softTrunc_quiet _ _).mono ?_; rintro e w' ⟨rfl, rfl⟩) | (go_at_call 37; refine (cw _).mono ?_; rintro e w' ⟨rfl, rfl⟩) | (go_at_call 39; first | ((with_reducible refine (cna _).mono ?_); rintro e w' ⟨rfl, rfl⟩) | ((with_reducible refine (cnb _).mono ?_); rintro e w' ⟨rfl, rfl⟩)) | (go_at_call 40; first | ((with_reducible refine (cfa _).mono ?_); rintro e w' ⟨rfl, n, rfl⟩) | ((with_reducible refine (cff _).mono ?_); rintro e w' ⟨rfl, n, rfl⟩)))
            go_ret
            exact ⟨rfl, by first | exact below_draw (below_alloc' (Below.refl _ _) (Nat.le_refl _) _) _ | exact below_draw (below_draw (below_draw (below_alloc' (Below.refl _ _) (Nat.le_refl _) _) _) _) _ | exact below_alloc' (Below.refl _ _) (Nat.le_refl _) _⟩
    · have d1 : decide (i ≥ -9007199254740992) = false := decide_eq_false i1
      clear ra rb rn
      go_enter Try.func10, Try.ntmps10
      go_wp2_with (first | (go_at_call 24; refine (softLess_calls _ _ _).mono ?_; rintro e w' ⟨rfl, rfl⟩) | (go_at_call 28; refine (softEqual_calls _ _ _).mono ?_; rintro e w' ⟨rfl, rfl⟩) | (go_at_call 26; refine (softLessEq_calls _ _ _).mono ?_; rintro e w' ⟨rfl, rfl⟩) | (go_at_call 33; refine (softFromInt_calls _ _).mono ?_; rintro e w' ⟨rfl, rfl⟩) | (go_at_call 30; refine (awake_calls _).mono ?_; rintro e w' ⟨rfl, n, rfl⟩) | (go_at_call 31; refine (softTrunc_quiet _ _).mono ?_; rintro e w' ⟨rfl, rfl⟩) | (go_at_call 37; refine (cw _).mono ?_; rintro e w' ⟨rfl, rfl⟩) | (go_at_call 39; first | ((with_reducible refine (cna _).mono ?_); rintro e w' ⟨rfl, rfl⟩) | ((with_reducible refine (cnb _).mono ?_); rintro e w' ⟨rfl, rfl⟩)) | (go_at_call 40; first | ((with_reducible refine (cfa _).mono ?_); rintro e w' ⟨rfl, n, rfl⟩) | ((with_reducible refine (cff _).mono ?_); rintro e w' ⟨rfl, n, rfl⟩)))
      go_loop [15, 70] (fun k i => ∃ j : Nat, j ≤ 3 ∧ i = .int .i64 j ∧ k = .int .i64 ([0, 0, 1, 1].getD j 0)) (fun _ i => 3 - (intOf i).toNat)
      case atStart => exact ⟨0, by omega, rfl, rfl⟩
      case round =>
        obtain ⟨j, hj, rfl, rfl⟩ := hrel
        have h4 : j = 0 ∨ j = 1 ∨ j = 2 ∨ j = 3 := by omega
        rcases h4 with rfl | rfl | rfl | rfl
        · go_wp2
          go_round
          case rel => exact ⟨1, by omega, by go_num, by simp⟩
          case measure => simp [intOf]
        · go_wp2
          go_round
          case rel => exact ⟨2, by omega, by go_num, by simp⟩
          case measure => simp [intOf]
        · go_wp2
          go_round
          case rel => exact ⟨3, by omega, by go_num, by simp⟩
          case measure => simp [intOf]
        · go_wp2_with (first | (go_at_call 24; refine (softLess_calls _ _ _).mono ?_; rintro e w' ⟨rfl, rfl⟩) | (go_at_call 28; refine (softEqual_calls _ _ _).mono ?_; rintro e w' ⟨rfl, rfl⟩) | (go_at_call 26; refine (softLessEq_calls _ _ _).mono ?_; rintro e w' ⟨rfl, rfl⟩) | (go_at_call 33; refine (softFromInt_calls _ _).mono ?_; rintro e w' ⟨rfl, rfl⟩) | (go_at_call 30; refine (awake_calls _).mono ?_; rintro e w' ⟨rfl, n, rfl⟩) | (go_at_call 31; refine (softTrunc_quiet _ _).mono ?_; rintro e w' ⟨rfl, rfl⟩) | (go_at_call 37; refine (cw _).mono ?_; rintro e w' ⟨rfl, rfl⟩) | (go_at_call 39; first | ((with_reducible refine (cna _).mono ?_); rintro e w' ⟨rfl, rfl⟩) | ((with_reducible refine (cnb _).mono ?_); rintro e w' ⟨rfl, rfl⟩)) | (go_at_call 40; first | ((with_reducible refine (cfa _).mono ?_); rintro e w' ⟨rfl, n, rfl⟩) | ((with_reducible refine (cff _).mono ?_); rintro e w' ⟨rfl, n, rfl⟩)))
          go_ret
          exact ⟨rfl, by first | exact below_draw (below_alloc' (Below.refl _ _) (Nat.le_refl _) _) _ | exact below_draw (below_draw (below_draw (below_alloc' (Below.refl _ _) (Nat.le_refl _) _) _) _) _ | exact below_alloc' (Below.refl _ _) (Nat.le_refl _) _⟩

set_option maxRecDepth 100000 in
set_option maxHeartbeats 6400000 in
theorem back_more (a b i n : Int) (ra : 0 ≤ a ∧ a < 18446744073709551616) (rb : 0 ≤ b ∧ b < 18446744073709551616) (rn : 0 ≤ n ∧ n < 4294967296)
    (l1 : sLess a b = false) (l2 : sEqual a b = false) (l3 : sLess b a = true) (l4 : sLessEq a b = false) (m1 : nanB a = false) (m2 : nanB b = false) (f1 : sLessEq (sFloor a) a = true) (f2 : (sFloor (sFloor a) == sFloor a) = true) (w : World) :
    Calls Try.prog 10 #[.int .u64 a, .int .u64 b, .int .i64 i, .int .u32 n] w fun e w' => e = .returned (.bool true) ∧ Below w.heap.size w w' := by
  have cna := nanQ a ra
  have cnb := nanQ b rb
  have cw := softWide_calls n rn.1 rn.2
  have cfa := softFloor_calls a ra.2
  have cff := softFloor_calls (sFloor a) (sFloor_range a).2
  cases hn : isNum32 n with
  | true =>
    have cb := narrow_back rn.1 rn.2 hn
    have wc := wide_clean hn
    clear hn
    by_cases i1 : -9007199254740992 ≤ i
    · by_cases i2 : i ≤ 9007199254740992
      · have ti := trc_back i1 i2
        have d1 : decide (i ≥ -9007199254740992) = true := decide_eq_true i1
        have d2 : decide (i ≤ 9007199254740992) = true := decide_eq_true i2
        clear ra rb rn
        go_enter Try.func10, Try.ntmps10
        go_wp2_with (first | (go_at_call 24; refine (softLess_calls _ _ _).mono ?_; rintro e w' ⟨rfl, rfl⟩) | (go_at_call 28; refine (softEqual_calls _ _ _).mono ?_; rintro e w' ⟨rfl, rfl⟩) | (go_at_call 26; refine (softLessEq_calls _ _ _).mono ?_; rintro e w' ⟨rfl, rfl⟩) | (go_at_call 33; refine (softFromInt_calls _ _).mono ?_; rintro e w' ⟨rfl, rfl⟩) | (go_at_call 30; refine (awake_calls _).mono ?_; rintro e w' ⟨rfl, n, rfl⟩) | (go_at_call 31; refine (softTrunc_quiet _ _).mono ?_; rintro e w' ⟨rfl, rfl⟩) | (go_at_call 37; refine (cw _).mono ?_; rintro e w' ⟨rfl, rfl⟩) | (go_at_call 35; refine (cb _).mono ?_; rintro e w' ⟨rfl, rfl⟩) | (go_at_call 39; first | ((with_reducible refine (cna _).mono ?_); rintro e w' ⟨rfl, rfl⟩) | ((with_reducible refine (cnb _).mono ?_); rintro e w' ⟨rfl, rfl⟩)) | (go_at_call 40; first | ((with_reducible refine (cfa _).mono ?_); rintro e w' ⟨rfl, n, rfl⟩) | ((with_reducible refine (cff _).mono ?_); rintro e w' ⟨rfl, n, rfl⟩)))
        go_loop [15, 70] (fun k i => ∃ j : Nat, j ≤ 3 ∧ i = .int .i64 j ∧ k = .int .i64 ([0, 0, 0, 1].getD j 0)) (fun _ i => 3 - (intOf i).toNat)
        case atStart => exact ⟨0, by omega, rfl, rfl⟩
        case round =>
          obtain ⟨j, hj, rfl, rfl⟩ := hrel
          have h4 : j = 0 ∨ j = 1 ∨ j = 2 ∨ j = 3 := by omega
          rcases h4 with rfl | rfl | rfl | rfl
          · go_wp2
            go_round
            case rel => exact ⟨1, by omega, by go_num, by simp⟩
            case measure => simp [intOf]
          · go_wp2
            go_round
            case rel => exact ⟨2, by omega, by go_num, by simp⟩
            case measure => simp [intOf]
          · go_wp2
            go_round
            case rel => exact ⟨3, by omega, by go_num, by simp⟩
            case measure => simp [intOf]
          · go_wp2_with (first | (go_at_call 24; refine (softLess_calls _ _ _).mono ?_; rintro e w' ⟨rfl, rfl⟩) | (go_at_call 28; refine (softEqual_calls _ _ _).mono ?_; rintro e w' ⟨rfl, rfl⟩) | (go_at_call 26; refine (softLessEq_calls _ _ _).mono ?_; rintro e w' ⟨rfl, rfl⟩) | (go_at_call 33; refine (softFromInt_calls _ _).mono ?_; rintro e w' ⟨rfl, rfl⟩) | (go_at_call 30; refine (awake_calls _).mono ?_; rintro e w' ⟨rfl, n, rfl⟩) | (go_at_call 31; refine (softTrunc_quiet _ _).mono ?_; rintro e w' ⟨rfl, rfl⟩) | (go_at_call 37; refine (cw _).mono ?_; rintro e w' ⟨rfl, rfl⟩) | (go_at_call 35; refine (cb _).mono ?_; rintro e w' ⟨rfl, rfl⟩) | (go_at_call 39; first | ((with_reducible refine (cna _).mono ?_); rintro e w' ⟨rfl, rfl⟩) | ((with_reducible refine (cnb _).mono ?_); rintro e w' ⟨rfl, rfl⟩)) | (go_at_call 40; first | ((with_reducible refine (cfa _).mono ?_); rintro e w' ⟨rfl, n, rfl⟩) | ((with_reducible refine (cff _).mono ?_); rintro e w' ⟨rfl, n, rfl⟩)))
            go_ret
            exact ⟨rfl, by first | exact below_draw (below_alloc' (Below.refl _ _) (Nat.le_refl _) _) _ | exact below_draw (below_draw (below_draw (below_alloc' (Below.refl _ _) (Nat.le_refl _) _) _) _) _ | exact below_alloc' (Below.refl _ _) (Nat.le_refl _) _⟩
      · have d1 : decide (i ≥ -9007199254740992) = true := decide_eq_true i1
        have d2 : decide (i ≤ 9007199254740992) = false := decide_eq_false i2
        clear ra rb rn
        go_enter Try.func10, Try.ntmps10
        go_wp2_with (first | (go_at_call 24; refine (softLess_calls _ _ _).mono ?_; rintro e w' ⟨rfl, rfl⟩) | (go_at_call 28; refine (softEqual_calls _ _ _).mono ?_; rintro e w' ⟨rfl, rfl⟩) | (go_at_call 26; refine (softLessEq_calls _ _ _).mono ?_; rintro e w' ⟨rfl, rfl⟩) | (go_at_call 33; refine (softFromInt_calls _ _).mono ?_; rintro e w' ⟨rfl, rfl⟩) | (go_at_call 30; refine (awake_calls _).mono ?_; rintro e w' ⟨rfl, n, rfl⟩) | (go_at_call 31; refine (softTrunc_quiet _ _).mono ?_; rintro e w' ⟨rfl, rfl⟩) | (go_at_call 37; refine (cw _).mono ?_; rintro e w' ⟨rfl, rfl⟩) | (go_at_call 35; refine (cb _).mono ?_; rintro e w' ⟨rfl, rfl⟩) | (go_at_call 39; first | ((with_reducible refine (cna _).mono ?_); rintro e w' ⟨rfl, rfl⟩) | ((with_reducible refine (cnb _).mono ?_); rintro e w' ⟨rfl, rfl⟩)) | (go_at_call 40; first | ((with_reducible refine (cfa _).mono ?_); rintro e w' ⟨rfl, n, rfl⟩) | ((with_reducible refine (cff _).mono ?_); rintro e w' ⟨rfl, n, rfl⟩)))
        go_loop [15, 70] (fun k i => ∃ j : Nat, j ≤ 3 ∧ i = .int .i64 j ∧ k = .int .i64 ([0, 0, 0, 1].getD j 0)) (fun _ i => 3 - (intOf i).toNat)
        case atStart => exact ⟨0, by omega, rfl, rfl⟩
        case round =>
          obtain ⟨j, hj, rfl, rfl⟩ := hrel
          have h4 : j = 0 ∨ j = 1 ∨ j = 2 ∨ j = 3 := by omega
          rcases h4 with rfl | rfl | rfl | rfl
          · go_wp2
            go_round
            case rel => exact ⟨1, by omega, by go_num, by simp⟩
            case measure => simp [intOf]
          · go_wp2
            go_round
            case rel => exact ⟨2, by omega, by go_num, by simp⟩
            case measure => simp [intOf]
          · go_wp2
            go_round
            case rel => exact ⟨3, by omega, by go_num, by simp⟩
            case measure => simp [intOf]
          · go_wp2_with (first | (go_at_call 24; refine (softLess_calls _ _ _).mono ?_; rintro e w' ⟨rfl, rfl⟩) | (go_at_call 28; refine (softEqual_calls _ _ _).mono ?_; rintro e w' ⟨rfl, rfl⟩) | (go_at_call 26; refine (softLessEq_calls _ _ _).mono ?_; rintro e w' ⟨rfl, rfl⟩) | (go_at_call 33; refine (softFromInt_calls _ _).mono ?_; rintro e w' ⟨rfl, rfl⟩) | (go_at_call 30; refine (awake_calls _).mono ?_; rintro e w' ⟨rfl, n, rfl⟩) | (go_at_call 31; refine (softTrunc_quiet _ _).mono ?_; rintro e w' ⟨rfl, rfl⟩) | (go_at_call 37; refine (cw _).mono ?_; rintro e w' ⟨rfl, rfl⟩) | (go_at_call 35; refine (cb _).mono ?_; rintro e w' ⟨rfl, rfl⟩) | (go_at_call 39; first | ((with_reducible refine (cna _).mono ?_); rintro e w' ⟨rfl, rfl⟩) | ((with_reducible refine (cnb _).mono ?_); rintro e w' ⟨rfl, rfl⟩)) | (go_at_call 40; first | ((with_reducible refine (cfa _).mono ?_); rintro e w' ⟨rfl, n, rfl⟩) | ((with_reducible refine (cff _).mono ?_); rintro e w' ⟨rfl, n, rfl⟩)))
            go_ret
            exact ⟨rfl, by first | exact below_draw (below_alloc' (Below.refl _ _) (Nat.le_refl _) _) _ | exact below_draw (below_draw (below_draw (below_alloc' (Below.refl _ _) (Nat.le_refl _) _) _) _) _ | exact below_alloc' (Below.refl _ _) (Nat.le_refl _) _⟩
    · have d1 : decide (i ≥ -9007199254740992) = false := decide_eq_false i1
      clear ra rb rn
      go_enter Try.func10, Try.ntmps10
      go_wp2_with (first | (go_at_call 24; refine (softLess_calls _ _ _).mono ?_; rintro e w' ⟨rfl, rfl⟩) | (go_at_call 28; refine (softEqual_calls _ _ _).mono ?_; rintro e w' ⟨rfl, rfl⟩) | (go_at_call 26; refine (softLessEq_calls _ _ _).mono ?_; rintro e w' ⟨rfl, rfl⟩) | (go_at_call 33; refine (softFromInt_calls _ _).mono ?_; rintro e w' ⟨rfl, rfl⟩) | (go_at_call 30; refine (awake_calls _).mono ?_; rintro e w' ⟨rfl, n, rfl⟩) | (go_at_call 31; refine (softTrunc_quiet _ _).mono ?_; rintro e w' ⟨rfl, rfl⟩) | (go_at_call 37; refine (cw _).mono ?_; rintro e w' ⟨rfl, rfl⟩) | (go_at_call 35; refine (cb _).mono ?_; rintro e w' ⟨rfl, rfl⟩) | (go_at_call 39; first | ((with_reducible refine (cna _).mono ?_); rintro e w' ⟨rfl, rfl⟩) | ((with_reducible refine (cnb _).mono ?_); rintro e w' ⟨rfl, rfl⟩)) | (go_at_call 40; first | ((with_reducible refine (cfa _).mono ?_); rintro e w' ⟨rfl, n, rfl⟩) | ((with_reducible refine (cff _).mono ?_); rintro e w' ⟨rfl, n, rfl⟩)))
      go_loop [15, 70] (fun k i => ∃ j : Nat, j ≤ 3 ∧ i = .int .i64 j ∧ k = .int .i64 ([0, 0, 0, 1].getD j 0)) (fun _ i => 3 - (intOf i).toNat)
      case atStart => exact ⟨0, by omega, rfl, rfl⟩
      case round =>
        obtain ⟨j, hj, rfl, rfl⟩ := hrel
        have h4 : j = 0 ∨ j = 1 ∨ j = 2 ∨ j = 3 := by omega
        rcases h4 with rfl | rfl | rfl | rfl
        · go_wp2
          go_round
          case rel => exact ⟨1, by omega, by go_num, by simp⟩
          case measure => simp [intOf]
        · go_wp2
          go_round
          case rel => exact ⟨2, by omega, by go_num, by simp⟩
          case measure => simp [intOf]
        · go_wp2
          go_round
          case rel => exact ⟨3, by omega, by go_num, by simp⟩
          case measure => simp [intOf]
        · go_wp2_with (first | (go_at_call 24; refine (softLess_calls _ _ _).mono ?_; rintro e w' ⟨rfl, rfl⟩) | (go_at_call 28; refine (softEqual_calls _ _ _).mono ?_; rintro e w' ⟨rfl, rfl⟩) | (go_at_call 26; refine (softLessEq_calls _ _ _).mono ?_; rintro e w' ⟨rfl, rfl⟩) | (go_at_call 33; refine (softFromInt_calls _ _).mono ?_; rintro e w' ⟨rfl, rfl⟩) | (go_at_call 30; refine (awake_calls _).mono ?_; rintro e w' ⟨rfl, n, rfl⟩) | (go_at_call 31; refine (softTrunc_quiet _ _).mono ?_; rintro e w' ⟨rfl, rfl⟩) | (go_at_call 37; refine (cw _).mono ?_; rintro e w' ⟨rfl, rfl⟩) | (go_at_call 35; refine (cb _).mono ?_; rintro e w' ⟨rfl, rfl⟩) | (go_at_call 39; first | ((with_reducible refine (cna _).mono ?_); rintro e w' ⟨rfl, rfl⟩) | ((with_reducible refine (cnb _).mono ?_); rintro e w' ⟨rfl, rfl⟩)) | (go_at_call 40; first | ((with_reducible refine (cfa _).mono ?_); rintro e w' ⟨rfl, n, rfl⟩) | ((with_reducible refine (cff _).mono ?_); rintro e w' ⟨rfl, n, rfl⟩)))
          go_ret
          exact ⟨rfl, by first | exact below_draw (below_alloc' (Below.refl _ _) (Nat.le_refl _) _) _ | exact below_draw (below_draw (below_draw (below_alloc' (Below.refl _ _) (Nat.le_refl _) _) _) _) _ | exact below_alloc' (Below.refl _ _) (Nat.le_refl _) _⟩
  | false =>
    have wc : (sWide n != 9221120237041090560) = false := by unfold sWide; rw [hn]; rfl
    clear hn
    by_cases i1 : -9007199254740992 ≤ i
    · by_cases i2 : i ≤ 9007199254740992
      · have ti := trc_back i1 i2
        have d1 : decide (i ≥ -9007199254740992) = true := decide_eq_true i1
        have d2 : decide (i ≤ 9007199254740992) = true := decide_eq_true i2
        clear ra rb rn
        go_enter Try.func10, Try.ntmps10
        go_wp2_with (first | (go_at_call 24; refine (softLess_calls _ _ _).mono ?_; rintro e w' ⟨rfl, rfl⟩) | (go_at_call 28; refine (softEqual_calls _ _ _).mono ?_; rintro e w' ⟨rfl, rfl⟩) | (go_at_call 26; refine (softLessEq_calls _ _ _).mono ?_; rintro e w' ⟨rfl, rfl⟩) | (go_at_call 33; refine (softFromInt_calls _ _).mono ?_; rintro e w' ⟨rfl, rfl⟩) | (go_at_call 30; refine (awake_calls _).mono ?_; rintro e w' ⟨rfl, n, rfl⟩) | (go_at_call 31; refine (softTrunc_quiet _ _).mono ?_; rintro e w' ⟨rfl, rfl⟩) | (go_at_call 37; refine (cw _).mono ?_; rintro e w' ⟨rfl, rfl⟩) | (go_at_call 39; first | ((with_reducible refine (cna _).mono ?_); rintro e w' ⟨rfl, rfl⟩) | ((with_reducible refine (cnb _).mono ?_); rintro e w' ⟨rfl, rfl⟩)) | (go_at_call 40; first | ((with_reducible refine (cfa _).mono ?_); rintro e w' ⟨rfl, n, rfl⟩) | ((with_reducible refine (cff _).mono ?_); rintro e w' ⟨rfl, n, rfl⟩)))
        go_loop [15, 70] (fun k i => ∃ j : Nat, j ≤ 3 ∧ i = .int .i64 j ∧ k = .int .i64 ([0, 0, 0, 1].getD j 0)) (fun _ i => 3 - (intOf i).toNat)
        case atStart => exact ⟨0, by omega, rfl, rfl⟩
        case round =>
          obtain ⟨j, hj, rfl, rfl⟩ := hrel
          have h4 : j = 0 ∨ j = 1 ∨ j = 2 ∨ j = 3 := by omega
          rcases h4 with rfl | rfl | rfl | rfl
          · go_wp2
            go_round
            case rel => exact ⟨1, by omega, by go_num, by simp⟩
            case measure => simp [intOf]
          · go_wp2
            go_round
            case rel => exact ⟨2, by omega, by go_num, by simp⟩
            case measure => simp [intOf]
          · go_wp2
            go_round
            case rel => exact ⟨3, by omega, by go_num, by simp⟩
            case measure => simp [intOf]
          · go_wp2_with (first | (go_at_call 24; refine (softLess_calls _ _ _).mono ?_; rintro e w' ⟨rfl, rfl⟩) | (go_at_call 28; refine (softEqual_calls _ _ _).mono ?_; rintro e w' ⟨rfl, rfl⟩) | (go_at_call 26; refine (softLessEq_calls _ _ _).mono ?_; rintro e w' ⟨rfl, rfl⟩) | (go_at_call 33; refine (softFromInt_calls _ _).mono ?_; rintro e w' ⟨rfl, rfl⟩) | (go_at_call 30; refine (awake_calls _).mono ?_; rintro e w' ⟨rfl, n, rfl⟩) | (go_at_call 31; refine (softTrunc_quiet _ _).mono ?_; rintro e w' ⟨rfl, rfl⟩) | (go_at_call 37; refine (cw _).mono ?_; rintro e w' ⟨rfl, rfl⟩) | (go_at_call 39; first | ((with_reducible refine (cna _).mono ?_); rintro e w' ⟨rfl, rfl⟩) | ((with_reducible refine (cnb _).mono ?_); rintro e w' ⟨rfl, rfl⟩)) | (go_at_call 40; first | ((with_reducible refine (cfa _).mono ?_); rintro e w' ⟨rfl, n, rfl⟩) | ((with_reducible refine (cff _).mono ?_); rintro e w' ⟨rfl, n, rfl⟩)))
            go_ret
            exact ⟨rfl, by first | exact below_draw (below_alloc' (Below.refl _ _) (Nat.le_refl _) _) _ | exact below_draw (below_draw (below_draw (below_alloc' (Below.refl _ _) (Nat.le_refl _) _) _) _) _ | exact below_alloc' (Below.refl _ _) (Nat.le_refl _) _⟩
      · have d1 : decide (i ≥ -9007199254740992) = true := decide_eq_true i1
        have d2 : decide (i ≤ 9007199254740992) = false := decide_eq_false i2
        clear ra rb rn
        go_enter Try.func10, Try.ntmps10
        go_wp2_with (first | (go_at_call 24; refine (softLess_calls _ _ _).mono ?_; rintro e w' ⟨rfl, rfl⟩) | (go_at_call 28; refine (softEqual_calls _ _ _).mono ?_; rintro e w' ⟨rfl, rfl⟩) | (go_at_call 26; refine (softLessEq_calls _ _ _).mono ?_; rintro e w' ⟨rfl, rfl⟩) | (go_at_call 33; refine (softFromInt_calls _ _).mono ?_; rintro e w' ⟨rfl, rfl⟩) | (go_at_call 30; refine (awake_calls _).mono ?_; rintro e w' ⟨rfl, n, rfl⟩) | (go_at_call 31; refine (softTrunc_quiet _ _).mono ?_; rintro e w' ⟨rfl, rfl⟩) | (go_at_call 37; refine (cw _).mono ?_; rintro e w' ⟨rfl, rfl⟩) | (go_at_call 39; first | ((with_reducible refine (cna _).mono ?_); rintro e w' ⟨rfl, rfl⟩) | ((with_reducible refine (cnb _).mono ?_); rintro e w' ⟨rfl, rfl⟩)) | (go_at_call 40; first | ((with_reducible refine (cfa _).mono ?_); rintro e w' ⟨rfl, n, rfl⟩) | ((with_reducible refine (cff _).mono ?_); rintro e w' ⟨rfl, n, rfl⟩)))
        go_loop [15, 70] (fun k i => ∃ j : Nat, j ≤ 3 ∧ i = .int .i64 j ∧ k = .int .i64 ([0, 0, 0, 1].getD j 0)) (fun _ i => 3 - (intOf i).toNat)
        case atStart => exact ⟨0, by omega, rfl, rfl⟩
        case round =>
          obtain ⟨j, hj, rfl, rfl⟩ := hrel
          have h4 : j = 0 ∨ j = 1 ∨ j = 2 ∨ j = 3 := by omega
          rcases h4 with rfl | rfl | rfl | rfl
          · go_wp2
            go_round
            case rel => exact ⟨1, by omega, by go_num, by simp⟩
            case measure => simp [intOf]
          · go_wp2
            go_round
            case rel => exact ⟨2, by omega, by go_num, by simp⟩
            case measure => simp [intOf]
          · go_wp2
            go_round
            case rel => exact ⟨3, by omega, by go_num, by simp⟩
            case measure => simp [intOf]
          · go_wp2_with (first | (go_at_call 24; refine (softLess_calls _ _ _).mono ?_; rintro e w' ⟨rfl, rfl⟩) | (go_at_call 28; refine (softEqual_calls _ _ _).mono ?_; rintro e w' ⟨rfl, rfl⟩) | (go_at_call 26; refine (softLessEq_calls _ _ _).mono ?_; rintro e w' ⟨rfl, rfl⟩) | (go_at_call 33; refine (softFromInt_calls _ _).mono ?_; rintro e w' ⟨rfl, rfl⟩) | (go_at_call 30; refine (awake_calls _).mono ?_; rintro e w' ⟨rfl, n, rfl⟩) | (go_at_call 31; refine (softTrunc_quiet _ _).mono ?_; rintro e w' ⟨rfl, rfl⟩) | (go_at_call 37; refine (cw _).mono ?_; rintro e w' ⟨rfl, rfl⟩) | (go_at_call 39; first | ((with_reducible refine (cna _).mono ?_); rintro e w' ⟨rfl, rfl⟩) | ((with_reducible refine (cnb _).mono ?_); rintro e w' ⟨rfl, rfl⟩)) | (go_at_call 40; first | ((with_reducible refine (cfa _).mono ?_); rintro e w' ⟨rfl, n, rfl⟩) | ((with_reducible refine (cff _).mono ?_); rintro e w' ⟨rfl, n, rfl⟩)))
            go_ret
            exact ⟨rfl, by first | exact below_draw (below_alloc' (Below.refl _ _) (Nat.le_refl _) _) _ | exact below_draw (below_draw (below_draw (below_alloc' (Below.refl _ _) (Nat.le_refl _) _) _) _) _ | exact below_alloc' (Below.refl _ _) (Nat.le_refl _) _⟩
    · have d1 : decide (i ≥ -9007199254740992) = false := decide_eq_false i1
      clear ra rb rn
      go_enter Try.func10, Try.ntmps10
      go_wp2_with (first | (go_at_call 24; refine (softLess_calls _ _ _).mono ?_; rintro e w' ⟨rfl, rfl⟩) | (go_at_call 28; refine (softEqual_calls _ _ _).mono ?_; rintro e w' ⟨rfl, rfl⟩) | (go_at_call 26; refine (softLessEq_calls _ _ _).mono ?_; rintro e w' ⟨rfl, rfl⟩) | (go_at_call 33; refine (softFromInt_calls _ _).mono ?_; rintro e w' ⟨rfl, rfl⟩) | (go_at_call 30; refine (awake_calls _).mono ?_; rintro e w' ⟨rfl, n, rfl⟩) | (go_at_call 31; refine (softTrunc_quiet _ _).mono ?_; rintro e w' ⟨rfl, rfl⟩) | (go_at_call 37; refine (cw _).mono ?_; rintro e w' ⟨rfl, rfl⟩) | (go_at_call 39; first | ((with_reducible refine (cna _).mono ?_); rintro e w' ⟨rfl, rfl⟩) | ((with_reducible refine (cnb _).mono ?_); rintro e w' ⟨rfl, rfl⟩)) | (go_at_call 40; first | ((with_reducible refine (cfa _).mono ?_); rintro e w' ⟨rfl, n, rfl⟩) | ((with_reducible refine (cff _).mono ?_); rintro e w' ⟨rfl, n, rfl⟩)))
      go_loop [15, 70] (fun k i => ∃ j : Nat, j ≤ 3 ∧ i = .int .i64 j ∧ k = .int .i64 ([0, 0, 0, 1].getD j 0)) (fun _ i => 3 - (intOf i).toNat)
      case atStart => exact ⟨0, by omega, rfl, rfl⟩
      case round =>
        obtain ⟨j, hj, rfl, rfl⟩ := hrel
        have h4 : j = 0 ∨ j = 1 ∨ j = 2 ∨ j = 3 := by omega
        rcases h4 with rfl | rfl | rfl | rfl
        · go_wp2
          go_round
          case rel => exact ⟨1, by omega, by go_num, by simp⟩
          case measure => simp [intOf]
        · go_wp2
          go_round
          case rel => exact ⟨2, by omega, by go_num, by simp⟩
          case measure => simp [intOf]
        · go_wp2
          go_round
          case rel => exact ⟨3, by omega, by go_num, by simp⟩
          case measure => simp [intOf]
        · go_wp2_with (first | (go_at_call 24; refine (softLess_calls _ _ _).mono ?_; rintro e w' ⟨rfl, rfl⟩) | (go_at_call 28; refine (softEqual_calls _ _ _).mono ?_; rintro e w' ⟨rfl, rfl⟩) | (go_at_call 26; refine (softLessEq_calls _ _ _).mono ?_; rintro e w' ⟨rfl, rfl⟩) | (go_at_call 33; refine (softFromInt_calls _ _).mono ?_; rintro e w' ⟨rfl, rfl⟩) | (go_at_call 30; refine (awake_calls _).mono ?_; rintro e w' ⟨rfl, n, rfl⟩) | (go_at_call 31; refine (softTrunc_quiet _ _).mono ?_; rintro e w' ⟨rfl, rfl⟩) | (go_at_call 37; refine (cw _).mono ?_; rintro e w' ⟨rfl, rfl⟩) | (go_at_call 39; first | ((with_reducible refine (cna _).mono ?_); rintro e w' ⟨rfl, rfl⟩) | ((with_reducible refine (cnb _).mono ?_); rintro e w' ⟨rfl, rfl⟩)) | (go_at_call 40; first | ((with_reducible refine (cfa _).mono ?_); rintro e w' ⟨rfl, n, rfl⟩) | ((with_reducible refine (cff _).mono ?_); rintro e w' ⟨rfl, n, rfl⟩)))
          go_ret
          exact ⟨rfl, by first | exact below_draw (below_alloc' (Below.refl _ _) (Nat.le_refl _) _) _ | exact below_draw (below_draw (below_draw (below_alloc' (Below.refl _ _) (Nat.le_refl _) _) _) _) _ | exact below_alloc' (Below.refl _ _) (Nat.le_refl _) _⟩

set_option maxRecDepth 100000 in
set_option maxHeartbeats 6400000 in
theorem back_nan1 (a b i n : Int) (ra : 0 ≤ a ∧ a < 18446744073709551616) (rb : 0 ≤ b ∧ b < 18446744073709551616) (rn : 0 ≤ n ∧ n < 4294967296)
    (l1 : sLess a b = false) (l2 : sEqual a b = false) (l3 : sLess b a = false) (l4 : sLessEq a b = false) (m1 : nanB a = true) (w : World) :
    Calls Try.prog 10 #[.int .u64 a, .int .u64 b, .int .i64 i, .int .u32 n] w fun e w' => e = .returned (.bool true) ∧ Below w.heap.size w w' := by
  have cna := nanQ a ra
  have cnb := nanQ b rb
  have cw := softWide_calls n rn.1 rn.2
  have cfa := softFloor_calls a ra.2
  have cff := softFloor_calls (sFloor a) (sFloor_range a).2
  cases hn : isNum32 n with
  | true =>
    have cb := narrow_back rn.1 rn.2 hn
    have wc := wide_clean hn
    clear hn
    by_cases i1 : -9007199254740992 ≤ i
    · by_cases i2 : i ≤ 9007199254740992
      · have ti := trc_back i1 i2
        have d1 : decide (i ≥ -9007199254740992) = true := decide_eq_true i1
        have d2 : decide (i ≤ 9007199254740992) = true := decide_eq_true i2
        clear ra rb rn
        go_enter Try.func10, Try.ntmps10
        go_wp2_with (first | (go_at_call 24; refine (softLess_calls _ _ _).mono ?_; rintro e w' ⟨rfl, rfl⟩) | (go_at_call 28; refine (softEqual_calls _ _ _).mono ?_; rintro e w' ⟨rfl, rfl⟩) | (go_at_call 26; refine (softLessEq_calls _ _ _).mono ?_; rintro e w' ⟨rfl, rfl⟩) | (go_at_call 33; refine (softFromInt_calls _ _).mono ?_; rintro e w' ⟨rfl, rfl⟩) | (go_at_call 30; refine (awake_calls _).mono ?_; rintro e w' ⟨rfl, n, rfl⟩) | (go_at_call 31; refine (softTrunc_quiet _ _).mono ?_; rintro e w' ⟨rfl, rfl⟩) | (go_at_call 37; refine (cw _).mono ?_; rintro e w' ⟨rfl, rfl⟩) | (go_at_call 35; refine (cb _).mono ?_; rintro e w' ⟨rfl, rfl⟩) | (go_at_call 39; first | ((with_reducible refine (cna _).mono ?_); rintro e w' ⟨rfl, rfl⟩) | ((with_reducible refine (cnb _).mono ?_); rintro e w' ⟨rfl, rfl⟩)) | (go_at_call 40; first | ((with_reducible refine (cfa _).mono ?_); rintro e w' ⟨rfl, n, rfl⟩) | ((with_reducible refine (cff _).mono ?_); rintro e w' ⟨rfl, n, rfl⟩)))
        go_loop [15, 70] (fun k i => ∃ j : Nat, j ≤ 3 ∧ i = .int .i64 j ∧ k = .int .i64 ([0, 0, 0, 0].getD j 0)) (fun _ i => 3 - (intOf i).toNat)
        case atStart => exact ⟨0, by omega, rfl, rfl⟩
        case round =>
          obtain ⟨j, hj, rfl, rfl⟩ := hrel
          have h4 : j = 0 ∨ j = 1 ∨ j = 2 ∨ j = 3 := by omega
          rcases h4 with rfl | rfl | rfl | rfl
          · go_wp2
            go_round
            case rel => exact ⟨1, by omega, by go_num, by simp⟩
            case measure => simp [intOf]
          · go_wp2
            go_round
            case rel => exact ⟨2, by omega, by go_num, by simp⟩
            case measure => simp [intOf]
          · go_wp2
            go_round
            case rel => exact ⟨3, by omega, by go_num, by simp⟩
            case measure => simp [intOf]
          · go_wp2_with (first | (go_at_call 24; refine (softLess_calls _ _ _).mono ?_; rintro e w' ⟨rfl, rfl⟩) | (go_at_call 28; refine (softEqual_calls _ _ _).mono ?_; rintro e w' ⟨rfl, rfl⟩) | (go_at_call 26; refine (softLessEq_calls _ _ _).mono ?_; rintro e w' ⟨rfl, rfl⟩) | (go_at_call 33; refine (softFromInt_calls _ _).mono ?_; rintro e w' ⟨rfl, rfl⟩) | (go_at_call 30; refine (awake_calls _).mono ?_; rintro e w' ⟨rfl, n, rfl⟩) | (go_at_call 31; refine (softTrunc_quiet _ _).mono ?_; rintro e w' ⟨rfl, rfl⟩) | (go_at_call 37; refine (cw _).mono ?_; rintro e w' ⟨rfl, rfl⟩) | (go_at_call 35; refine (cb _).mono ?_; rintro e w' ⟨rfl, rfl⟩) | (go_at_call 39; first | ((with_reducible refine (cna _).mono ?_); rintro e w' ⟨rfl, rfl⟩) | ((with_reducible refine (cnb _).mono ?_); rintro e w' ⟨rfl, rfl⟩)) | (go_at_call 40; first | ((with_reducible refine (cfa _).mono ?_); rintro e w' ⟨rfl, n, rfl⟩) | ((with_reducible refine (cff _).mono ?_); rintro e w' ⟨rfl, n, rfl⟩)))
            go_ret
            exact ⟨rfl, by first | exact below_draw (below_alloc' (Below.refl _ _) (Nat.le_refl _) _) _ | exact below_draw (below_draw (below_draw (below_alloc' (Below.refl _ _) (Nat.le_refl _) _) _) _) _ | exact below_alloc' (Below.refl _ _) (Nat.le_refl _) _⟩
      · have d1 : decide (i ≥ -9007199254740992) = true := decide_eq_true i1
        have d2 : decide (i ≤ 9007199254740992) = false := decide_eq_false i2
        clear ra rb rn
        go_enter Try.func10, Try.ntmps10
        go_wp2_with (first | (go_at_call 24; refine (softLess_calls _ _ _).mono ?_; rintro e w' ⟨rfl, rfl⟩) | (go_at_call 28; refine (softEqual_calls _ _ _).mono ?_; rintro e w' ⟨rfl, rfl⟩) | (go_at_call 26; refine (softLessEq_calls _ _ _).mono ?_; rintro e w' ⟨rfl, rfl⟩) | (go_at_call 33; refine (softFromInt_calls _ _).mono ?_; rintro e w' ⟨rfl, rfl⟩) | (go_at_call 30; refine (awake_calls _).mono ?_; rintro e w' ⟨rfl, n, rfl⟩) | (go_at_call 31; refine (softTrunc_quiet _ _).mono ?_; rintro e w' ⟨rfl, rfl⟩) | (go_at_call 37; refine (cw _).mono ?_; rintro e w' ⟨rfl, rfl⟩) | (go_at_call 35; refine (cb _).mono ?_; rintro e w' ⟨rfl, rfl⟩) | (go_at_call 39; first | ((with_reducible refine (cna _).mono ?_); rintro e w' ⟨rfl, rfl⟩) | ((with_reducible refine (cnb _).mono ?_); rintro e w' ⟨rfl, rfl⟩)) | (go_at_call 40; first | ((with_reducible refine (cfa _).mono ?_); rintro e w' ⟨rfl, n, rfl⟩) | ((with_reducible refine (cff _).mono ?_); rintro e w' ⟨rfl, n, rfl⟩)))
        go_loop [15, 70] (fun k i => ∃ j : Nat, j ≤ 3 ∧ i = .int .i64 j ∧ k = .int .i64 ([0, 0, 0, 0].getD j 0)) (fun _ i => 3 - (intOf i).toNat)
        case atStart => exact ⟨0, by omega, rfl, rfl⟩
        case round =>
          obtain ⟨j, hj, rfl, rfl⟩ := hrel
          have h4 : j = 0 ∨ j = 1 ∨ j = 2 ∨ j = 3 := by omega
          rcases h4 with rfl | rfl | rfl | rfl
          · go_wp2
            go_round
            case rel => exact ⟨1, by omega, by go_num, by simp⟩
            case measure => simp [intOf]
          · go_wp2
            go_round
            case rel => exact ⟨2, by omega, by go_num, by simp⟩
            case measure => simp [intOf]
          · go_wp2
            go_round
            case rel => exact ⟨3, by omega, by go_num, by simp⟩
            case measure => simp [intOf]
          · go_wp2_with (first | (go_at_call 24; refine (softLess_calls _ _ _).mono ?_; rintro e w' ⟨rfl, rfl⟩) | (go_at_call 28; refine (softEqual_calls _ _ _).mono ?_; rintro e w' ⟨rfl, rfl⟩) | (go_at_call 26; refine (softLessEq_calls _ _ _).mono ?_; rintro e w' ⟨rfl, rfl⟩) | (go_at_call 33; refine (softFromInt_calls _ _).mono ?_; rintro e w' ⟨rfl, rfl⟩) | (go_at_call 30; refine (awake_calls _).mono ?_; rintro e w' ⟨rfl, n, rfl⟩) | (go_at_call 31; refine (softTrunc_quiet _ _).mono ?_; rintro e w' ⟨rfl, rfl⟩) | (go_at_call 37; refine (cw _).mono ?_; rintro e w' ⟨rfl, rfl⟩) | (go_at_call 35; refine (cb _).mono ?_; rintro e w' ⟨rfl, rfl⟩) | (go_at_call 39; first | ((with_reducible refine (cna _).mono ?_); rintro e w' ⟨rfl, rfl⟩) | ((with_reducible refine (cnb _).mono ?_); rintro e w' ⟨rfl, rfl⟩)) | (go_at_call 40; first | ((with_reducible refine (cfa _).mono ?_); rintro e w' ⟨rfl, n, rfl⟩) | ((with_reducible refine (cff _).mono ?_); rintro e w' ⟨rfl, n, rfl⟩)))
            go_ret
            exact ⟨rfl, by first | exact below_draw (below_alloc' (Below.refl _ _) (Nat.le_refl _) _) _ | exact below_draw (below_draw (below_draw (below_alloc' (Below.refl _ _) (Nat.le_refl _) _) _) _) _ | exact below_alloc' (Below.refl _ _) (Nat.le_refl _) _⟩
    · have d1 : decide (i ≥ -9007199254740992) = false := decide_eq_false i1
      clear ra rb rn
      go_enter Try.func10, Try.ntmps10
      go_wp2_with (first | (go_at_call 24; refine (softLess_calls _ _ _).mono ?_; rintro e w' ⟨rfl, rfl⟩) | (go_at_call 28; refine (softEqual_calls _ _ _).mono ?_; rintro e w' ⟨rfl, rfl⟩) | (go_at_call 26; refine (softLessEq_calls _ _ _).mono ?_; rintro e w' ⟨rfl, rfl⟩) | (go_at_call 33; refine (softFromInt_calls _ _).mono ?_; rintro e w' ⟨rfl, rfl⟩) | (go_at_call 30; refine (awake_calls _).mono ?_; rintro e w' ⟨rfl, n, rfl⟩) | (go_at_call 31; refine (softTrunc_quiet _ _).mono ?_; rintro e w' ⟨rfl, rfl⟩) | (go_at_call 37; refine (cw _).mono ?_; rintro e w' ⟨rfl, rfl⟩) | (go_at_call 35; refine (cb _).mono ?_; rintro e w' ⟨rfl, rfl⟩) | (go_at_call 39; first | ((with_reducible refine (cna _).mono ?_); rintro e w' ⟨rfl, rfl⟩) | ((with_reducible refine (cnb _).mono ?_); rintro e w' ⟨rfl, rfl⟩)) | (go_at_call 40; first | ((with_reducible refine (cfa _).mono ?_); rintro e w' ⟨rfl, n, rfl⟩) | ((with_reducible refine (cff _).mono ?_); rintro e w' ⟨rfl, n, rfl⟩)))
      go_loop [15, 70] (fun k i => ∃ j : Nat, j ≤ 3 ∧ i = .int .i64 j ∧ k = .int .i64 ([0, 0, 0, 0].getD j 0)) (fun _ i => 3 - (intOf i).toNat)
      case atStart => exact ⟨0, by omega, rfl, rfl⟩
      case round =>
        obtain ⟨j, hj, rfl, rfl⟩ := hrel
        have h4 : j = 0 ∨ j = 1 ∨ j = 2 ∨ j = 3 := by omega
        rcases h4 with rfl | rfl | rfl | rfl
        · go_wp2
          go_round
          case rel => exact ⟨1, by omega, by go_num, by simp⟩
          case measure => simp [intOf]
        · go_wp2
          go_round
          case rel => exact ⟨2, by omega, by go_num, by simp⟩
          case measure => simp [intOf]
        · go_wp2
          go_round
          case rel => exact ⟨3, by omega, by go_num, by simp⟩
          case measure => simp [intOf]
        · go_wp2_with (first | (go_at_call 24; refine (softLess_calls _ _ _).mono ?_; rintro e w' ⟨rfl, rfl⟩) | (go_at_call 28; refine (softEqual_calls _ _ _).mono ?_; rintro e w' ⟨rfl, rfl⟩) | (go_at_call 26; refine (softLessEq_calls _ _ _).mono ?_; rintro e w' ⟨rfl, rfl⟩) | (go_at_call 33; refine (softFromInt_calls _ _).mono ?_; rintro e w' ⟨rfl, rfl⟩) | (go_at_call 30; refine (awake_calls _).mono ?_; rintro e w' ⟨rfl, n, rfl⟩) | (go_at_call 31; refine (softTrunc_quiet _ _).mono ?_; rintro e w' ⟨rfl, rfl⟩) | (go_at_call 37; refine (cw _).mono ?_; rintro e w' ⟨rfl, rfl⟩) | (go_at_call 35; refine (cb _).mono ?_; rintro e w' ⟨rfl, rfl⟩) | (go_at_call 39; first | ((with_reducible refine (cna _).mono ?_); rintro e w' ⟨rfl, rfl⟩) | ((with_reducible refine (cnb _).mono ?_); rintro e w' ⟨rfl, rfl⟩)) | (go_at_call 40; first | ((with_reducible refine (cfa _).mono ?_); rintro e w' ⟨rfl, n, rfl⟩) | ((with_reducible refine (cff _).mono ?_); rintro e w' ⟨rfl, n, rfl⟩)))
          go_ret
          exact ⟨rfl, by first | exact below_draw (below_alloc' (Below.refl _ _) (Nat.le_refl _) _) _ | exact below_draw (below_draw (below_draw (below_alloc' (Below.refl _ _) (Nat.le_refl _) _) _) _) _ | exact below_alloc' (Below.refl _ _) (Nat.le_refl _) _⟩
  | false =>
    have wc : (sWide n != 9221120237041090560) = false := by unfold sWide; rw [hn]; rfl
    clear hn
    by_cases i1 : -9007199254740992 ≤ i
    · by_cases i2 : i ≤ 9007199254740992
      · have ti := trc_back i1 i2
        have d1 : decide (i ≥ -9007199254740992) = true := decide_eq_true i1
        have d2 : decide (i ≤ 9007199254740992) = true := decide_eq_true i2
        clear ra rb rn
        go_enter Try.func10, Try.ntmps10
        go_wp2_with (first | (go_at_call 24; refine (softLess_calls _ _ _).mono ?_; rintro e w' ⟨rfl, rfl⟩) | (go_at_call 28; refine (softEqual_calls _ _ _).mono ?_; rintro e w' ⟨rfl, rfl⟩) | (go_at_call 26; refine (softLessEq_calls _ _ _).mono ?_; rintro e w' ⟨rfl, rfl⟩) | (go_at_call 33; refine (softFromInt_calls _ _).mono ?_; rintro e w' ⟨rfl, rfl⟩) | (go_at_call 30; refine (awake_calls _).mono ?_; rintro e w' ⟨rfl, n, rfl⟩) | (go_at_call 31; refine (softTrunc_quiet _ _).mono ?_; rintro e w' ⟨rfl, rfl⟩) | (go_at_call 37; refine (cw _).mono ?_; rintro e w' ⟨rfl, rfl⟩) | (go_at_call 39; first | ((with_reducible refine (cna _).mono ?_); rintro e w' ⟨rfl, rfl⟩) | ((with_reducible refine (cnb _).mono ?_); rintro e w' ⟨rfl, rfl⟩)) | (go_at_call 40; first | ((with_reducible refine (cfa _).mono ?_); rintro e w' ⟨rfl, n, rfl⟩) | ((with_reducible refine (cff _).mono ?_); rintro e w' ⟨rfl, n, rfl⟩)))
        go_loop [15, 70] (fun k i => ∃ j : Nat, j ≤ 3 ∧ i = .int .i64 j ∧ k = .int .i64 ([0, 0, 0, 0].getD j 0)) (fun _ i => 3 - (intOf i).toNat)
        case atStart => exact ⟨0, by omega, rfl, rfl⟩
        case round =>
          obtain ⟨j, hj, rfl, rfl⟩ := hrel
          have h4 : j = 0 ∨ j = 1 ∨ j = 2 ∨ j = 3 := by omega
          rcases h4 with rfl | rfl | rfl | rfl
          · go_wp2
            go_round
            case rel => exact ⟨1, by omega, by go_num, by simp⟩
            case measure => simp [intOf]
          · go_wp2
            go_round
            case rel => exact ⟨2, by omega, by go_num, by simp⟩
            case measure => simp [intOf]
          · go_wp2
            go_round
            case rel => exact ⟨3, by omega, by go_num, by simp⟩
            case measure => simp [intOf]
          · go_wp2_with (first | (go_at_call 24; refine (softLess_calls _ _ _).mono ?_; rintro e w' ⟨rfl, rfl⟩) | (go_at_call 28; refine (softEqual_calls _ _ _).mono ?_; rintro e w' ⟨rfl, rfl⟩) | (go_at_call 26; refine (softLessEq_calls _ _ _).mono ?_; rintro e w' ⟨rfl, rfl⟩) | (go_at_call 33; refine (softFromInt_calls _ _).mono ?_; rintro e w' ⟨rfl, rfl⟩) | (go_at_call 30; refine (awake_calls _).mono ?_; rintro e w' ⟨rfl, n, rfl⟩) | (go_at_call 31; refine (softTrunc_quiet _ _).mono ?_; rintro e w' ⟨rfl, rfl⟩) | (go_at_call 37; refine (cw _).mono ?_; rintro e w' ⟨rfl, rfl⟩) | (go_at_call 39; first | ((with_reducible refine (cna _).mono ?_); rintro e w' ⟨rfl, rfl⟩) | ((with_reducible refine (cnb _).mono ?_); rintro e w' ⟨rfl, rfl⟩)) | (go_at_call 40; first | ((with_reducible refine (cfa _).mono ?_); rintro e w' ⟨rfl, n, rfl⟩) | ((with_reducible refine (cff _).mono ?_); rintro e w' ⟨rfl, n, rfl⟩)))
            go_ret
            exact ⟨rfl, by first | exact below_draw (below_alloc' (Below.refl _ _) (Nat.le_refl _) _) _ | exact below_draw (below_draw (below_draw (below_alloc' (Below.refl _ _) (Nat.le_refl _) _) _) _) _ | exact below_alloc' (Below.refl _ _) (Nat.le_refl _) _⟩
      · have d1 : decide (i ≥ -9007199254740992) = true := decide_eq_true i1
        have d2 : decide (i ≤ 9007199254740992) = false := decide_eq_false i2
        clear ra rb rn
        go_enter Try.func10, Try.ntmps10
        go_wp2_with (first | (go_at_call 24; refine (softLess_calls _ _ _).mono ?_; rintro e w' ⟨rfl, rfl⟩) | (go_at_call 28; refine (softEqual_calls _ _ _).mono ?_; rintro e w' ⟨rfl, rfl⟩) | (go_at_call 26; refine (softLessEq_calls _ _ _).mono ?_; rintro e w' ⟨rfl, rfl⟩) | (go_at_call 33; refine (softFromInt_calls _ _).mono ?_; rintro e w' ⟨rfl, rfl⟩) | (go_at_call 30; refine (awake_calls _).mono ?_; rintro e w' ⟨rfl, n, rfl⟩) | (go_at_call 31; refine (softTrunc_quiet _ _).mono ?_; rintro e w' ⟨rfl, rfl⟩) | (go_at_call 37; refine (cw _).mono ?_; rintro e w' ⟨rfl, rfl⟩) | (go_at_call 39; first | ((with_reducible refine (cna _).mono ?_); rintro e w' ⟨rfl, rfl⟩) | ((with_reducible refine (cnb _).mono ?_); rintro e w' ⟨rfl, rfl⟩)) | (go_at_call 40; first | ((with_reducible refine (cfa _).mono ?_); rintro e w' ⟨rfl, n, rfl⟩) | ((with_reducible refine (cff _).mono ?_); rintro e w' ⟨rfl, n, rfl⟩)))
        go_loop [15, 70] (fun k i => ∃ j : Nat, j ≤ 3 ∧ i = .int .i64 j ∧ k = .int .i64 ([0, 0, 0, 0].getD j 0)) (fun _ i => 3 - (intOf i).toNat)
        case atStart => exact ⟨0, by omega, rfl, rfl⟩
        case round =>
          obtain ⟨j, hj, rfl, rfl⟩ := hrel
          have h4 : j = 0 ∨ j = 1 ∨ j = 2 ∨ j = 3 := by omega
          rcases h4 with rfl | rfl | rfl | rfl
          · go_wp2
            go_round
            case rel => exact ⟨1, by omega, by go_num, by simp⟩
            case measure => simp [intOf]
          · go_wp2
            go_round
            case rel => exact ⟨2, by omega, by go_num, by simp⟩
            case measure => simp [intOf]
          · go_wp2
            go_round
            case rel => exact ⟨3, by omega, by go_num, by simp⟩
            case measure => simp [intOf]
          · go_wp2_with (first | (go_at_call 24; refine (softLess_calls _ _ _).mono ?_; rintro e w' ⟨rfl, rfl⟩) | (go_at_call 28; refine (softEqual_calls _ _ _).mono ?_; rintro e w' ⟨rfl, rfl⟩) | (go_at_call 26; refine (softLessEq_calls _ _ _).mono ?_; rintro e w' ⟨rfl, rfl⟩) | (go_at_call 33; refine (softFromInt_calls _ _).mono ?_; rintro e w' ⟨rfl, rfl⟩) | (go_at_call 30; refine (awake_calls _).mono ?_; rintro e w' ⟨rfl, n, rfl⟩) | (go_at_call 31; refine (softTrunc_quiet _ _).mono ?_; rintro e w' ⟨rfl, rfl⟩) | (go_at_call 37; refine (cw _).mono ?_; rintro e w' ⟨rfl, rfl⟩) | (go_at_call 39; first | ((with_reducible refine (cna _).mono ?_); rintro e w' ⟨rfl, rfl⟩) | ((with_reducible refine (cnb _).mono ?_); rintro e w' ⟨rfl, rfl⟩)) | (go_at_call 40; first | ((with_reducible refine (cfa _).mono ?_); rintro e w' ⟨rfl, n, rfl⟩) | ((with_reducible refine (cff _).mono ?_); rintro e w' ⟨rfl, n, rfl⟩)))
            go_ret
            exact ⟨rfl, by first | exact below_draw (below_alloc' (Below.refl _ _) (Nat.le_refl _) _) _ | exact below_draw (below_draw (below_draw (below_alloc' (Below.refl _ _) (Nat.le_refl _) _) _) _) _ | exact below_alloc' (Below.refl _ _) (Nat.le_refl _) _⟩
    · have d1 : decide (i ≥ -9007199254740992) = false := decide_eq_false i1
      clear ra rb rn
      go_enter Try.func10, Try.ntmps10
      go_wp2_with (first | (go_at_call 24; refine (softLess_calls _ _ _).mono ?_; rintro e w' ⟨rfl, rfl⟩) | (go_at_call 28; refine (softEqual_calls _ _ _).mono ?_; rintro e w' ⟨rfl, rfl⟩) | (go_at_call 26; refine (softLessEq_calls _ _ _).mono ?_; rintro e w' ⟨rfl, rfl⟩) | (go_at_call 33; refine (softFromInt_calls _ _).mono ?_; rintro e w' ⟨rfl, rfl⟩) | (go_at_call 30; refine (awake_calls _).mono ?_; rintro e w' ⟨rfl, n, rfl⟩) | (go_at_call 31; refine (softTrunc_quiet _ _).mono ?_; rintro e w' ⟨rfl, rfl⟩) | (go_at_call 37; refine (cw _).mono ?_; rintro e w' ⟨rfl, rfl⟩) | (go_at_call 39; first | ((with_reducible refine (cna _).mono ?_); rintro e w' ⟨rfl, rfl⟩) | ((with_reducible refine (cnb _).mono ?_); rintro e w' ⟨rfl, rfl⟩)) | (go_at_call 40; first | ((with_reducible refine (cfa _).mono ?_); rintro e w' ⟨rfl, n, rfl⟩) | ((with_reducible refine (cff _).mono ?_); rintro e w' ⟨rfl, n, rfl⟩)))
      go_loop [15, 70] (fun k i => ∃ j : Nat, j ≤ 3 ∧ i = .int .i64 j ∧ k = .int .i64 ([0, 0, 0, 0].getD j 0)) (fun _ i => 3 - (intOf i).toNat)
      case atStart => exact ⟨0, by omega, rfl, rfl⟩
      case round =>
        obtain ⟨j, hj, rfl, rfl⟩ := hrel
        have h4 : j = 0 ∨ j = 1 ∨ j = 2 ∨ j = 3 := by omega
        rcases h4 with rfl | rfl | rfl | rfl
        · go_wp2
          go_round
          case rel => exact ⟨1, by omega, by go_num, by simp⟩
          case measure => simp [intOf]
        · go_wp2
          go_round
          case rel => exact ⟨2, by omega, by go_num, by simp⟩
          case measure => simp [intOf]
        · go_wp2
          go_round
          case rel => exact ⟨3, by omega, by go_num, by simp⟩
          case measure => simp [intOf]
        · go_wp2_with (first | (go_at_call 24; refine (softLess_calls _ _ _).mono ?_; rintro e w' ⟨rfl, rfl⟩) | (go_at_call 28; refine (softEqual_calls _ _ _).mono ?_; rintro e w' ⟨rfl, rfl⟩) | (go_at_call 26; refine (softLessEq_calls _ _ _).mono ?_; rintro e w' ⟨rfl, rfl⟩) | (go_at_call 33; refine (softFromInt_calls _ _).mono ?_; rintro e w' ⟨rfl, rfl⟩) | (go_at_call 30; refine (awake_calls _).mono ?_; rintro e w' ⟨rfl, n, rfl⟩) | (go_at_call 31; refine (softTrunc_quiet _ _).mono ?_; rintro e w' ⟨rfl, rfl⟩) | (go_at_call 37; refine (cw _).mono ?_; rintro e w' ⟨rfl, rfl⟩) | (go_at_call 39; first | ((with_reducible refine (cna _).mono ?_); rintro e w' ⟨rfl, rfl⟩) | ((with_reducible refine (cnb _).mono ?_); rintro e w' ⟨rfl, rfl⟩)) | (go_at_call 40; first | ((with_reducible refine (cfa _).mono ?_); rintro e w' ⟨rfl, n, rfl⟩) | ((with_reducible refine (cff _).mono ?_); rintro e w' ⟨rfl, n, rfl⟩)))
          go_ret
          exact ⟨rfl, by first | exact below_draw (below_alloc' (Below.refl _ _) (Nat.le_refl _) _) _ | exact below_draw (below_draw (below_draw (below_alloc' (Below.refl _ _) (Nat.le_refl _) _) _) _) _ | exact below_alloc' (Below.refl _ _) (Nat.le_refl _) _⟩

set_option maxRecDepth 100000 in
set_option maxHeartbeats 6400000 in
theorem back_nan2 (a b i n : Int) (ra : 0 ≤ a ∧ a < 18446744073709551616) (rb : 0 ≤ b ∧ b < 18446744073709551616) (rn : 0 ≤ n ∧ n < 4294967296)
    (l1 : sLess a b = false) (l2 : sEqual a b = false) (l3 : sLess b a = false) (l4 : sLessEq a b = false) (m1 : nanB a = false) (m2 : nanB b = true) (w : World) :
    Calls Try.prog 10 #[.int .u64 a, .int .u64 b, .int .i64 i, .int .u32 n] w fun e w' => e = .returned (.bool true) ∧ Below w.heap.size w w' := by
  have cna := nanQ a ra
  have cnb := nanQ b rb
  have cw := softWide_calls n rn.1 rn.2
  have cfa := softFloor_calls a ra.2
  have cff := softFloor_calls (sFloor a) (sFloor_range a).2
  cases hn : isNum32 n with
  | true =>
    have cb := narrow_back rn.1 rn.2 hn
    have wc := wide_clean hn
    clear hn
    by_cases i1 : -9007199254740992 ≤ i
    · by_cases i2 : i ≤ 9007199254740992
      · have ti := trc_back i1 i2
        have d1 : decide (i ≥ -9007199254740992) = true := decide_eq_true i1
        have d2 : decide (i ≤ 9007199254740992) = true := decide_eq_true i2
        clear ra rb rn
        go_enter Try.func10, Try.ntmps10
        go_wp2_with (first | (go_at_call 24; refine (softLess_calls _ _ _).mono ?_; rintro e w' ⟨rfl, rfl⟩) | (go_at_call 28; refine (softEqual_calls _ _ _).mono ?_; rintro e w' ⟨rfl, rfl⟩) | (go_at_call 26; refine (softLessEq_calls _ _ _).mono ?_; rintro e w' ⟨rfl, rfl⟩) | (go_at_call 33; refine (softFromInt_calls _ _).mono ?_; rintro e w' ⟨rfl, rfl⟩) | (go_at_call 30; refine (awake_calls _).mono ?_; rintro e w' ⟨rfl, n, rfl⟩) | (go_at_call 31; refine (softTrunc_quiet _ _).mono ?_; rintro e w' ⟨rfl, rfl⟩) | (go_at_call 37; refine (cw _).mono ?_; rintro e w' ⟨rfl, rfl⟩) | (go_at_call 35; refine (cb _).mono ?_; rintro e w' ⟨rfl, rfl⟩) | (go_at_call 39; first | ((with_reducible refine (cna _).mono ?_); rintro e w' ⟨rfl, rfl⟩) | ((with_reducible refine (cnb _).mono ?_); rintro e w' ⟨rfl, rfl⟩)) | (go_at_call 40; first | ((with_reducible refine (cfa _).mono ?_); rintro e w' ⟨rfl, n, rfl⟩) | ((with_reducible refine (cff _).mono ?_); rintro e w' ⟨rfl, n, rfl⟩)))
        go_loop [15, 70] (fun k i => ∃ j : Nat, j ≤ 3 ∧ i = .int .i64 j ∧ k = .int .i64 ([0, 0, 0, 0].getD j 0)) (fun _ i => 3 - (intOf i).toNat)
        case atStart => exact ⟨0, by omega, rfl, rfl⟩
        case round =>
          obtain ⟨j, hj, rfl, rfl⟩ := hrel
          have h4 : j = 0 ∨ j = 1 ∨ j = 2 ∨ j = 3 := by omega
          rcases h4 with rfl | rfl | rfl | rfl
          · go_wp2
            go_round
            case rel => exact ⟨1, by omega, by go_num, by simp⟩
            case measure => simp [intOf]
          · go_wp2
            go_round
            case rel => exact ⟨2, by omega, by go_num, by simp⟩
            case measure => simp [intOf]
          · go_wp2
            go_round
            case rel => exact ⟨3, by omega, by go_num, by simp⟩
            case measure => simp [intOf]
          · go_wp2_with (first | (go_at_call 24; refine (softLess_calls _ _ _).mono ?_; rintro e w' ⟨rfl, rfl⟩) | (go_at_call 28; refine (softEqual_calls _ _ _).mono ?_; rintro e w' ⟨rfl, rfl⟩) | (go_at_call 26; refine (softLessEq_calls _ _ _).mono ?_; rintro e w' ⟨rfl, rfl⟩) | (go_at_call 33; refine (softFromInt_calls _ _).mono ?_; rintro e w' ⟨rfl, rfl⟩) | (go_at_call 30; refine (awake_calls _).mono ?_; rintro e w' ⟨rfl, n, rfl⟩) | (go_at_call 31; refine (softTrunc_quiet _ _).mono ?_; rintro e w' ⟨rfl, rfl⟩) | (go_at_call 37; refine (cw _).mono ?_; rintro e w' ⟨rfl, rfl⟩) | (go_at_call 35; refine (cb _).mono ?_; rintro e w' ⟨rfl, rfl⟩) | (go_at_call 39; first | ((with_reducible refine (cna _).mono ?_); rintro e w' ⟨rfl, rfl⟩) | ((with_reducible refine (cnb _).mono ?_); rintro e w' ⟨rfl, rfl⟩)) | (go_at_call 40; first | ((with_reducible refine (cfa _).mono ?_); rintro e w' ⟨rfl, n, rfl⟩) | ((with_reducible refine (cff _).mono ?_); rintro e w' ⟨rfl, n, rfl⟩)))
            go_ret
            exact ⟨rfl, by first | exact below_draw (below_alloc' (Below.refl _ _) (Nat.le_refl _) _) _ | exact below_draw (below_draw (below_draw (below_alloc' (Below.refl _ _) (Nat.le_refl _) _) _) _) _ | exact below_alloc' (Below.refl _ _) (Nat.le_refl _) _⟩
      · have d1 : decide (i ≥ -9007199254740992) = true := decide_eq_true i1
        have d2 : decide (i ≤ 9007199254740992) = false := decide_eq_false i2
        clear ra rb rn
        go_enter Try.func10, Try.ntmps10
        go_wp2_with (first | (go_at_call 24; refine (softLess_calls _ _ _).mono ?_; rintro e w' ⟨rfl, rfl⟩) | (go_at_call 28; refine (softEqual_calls _ _ _).mono ?_; rintro e w' ⟨rfl, rfl⟩) | (go_at_call 26; refine (softLessEq_calls _ _ _).mono ?_; rintro e w' ⟨rfl, rfl⟩) | (go_at_call 33; refine (softFromInt_calls _ _).mono ?_; rintro e w' ⟨rfl, rfl⟩) | (go_at_call 30; refine (awake_calls _).mono ?_; rintro e w' ⟨rfl, n, rfl⟩) | (go_at_call 31; refine (softTrunc_quiet _ _).mono ?_; rintro e w' ⟨rfl, rfl⟩) | (go_at_call 37; refine (cw _).mono ?_; rintro e w' ⟨rfl, rfl⟩) | (go_at_call 35; refine (cb _).mono ?_; rintro e w' ⟨rfl, rfl⟩) | (go_at_call 39; first | ((with_reducible refine (cna _).mono ?_); rintro e w' ⟨rfl, rfl⟩) | ((with_reducible refine (cnb _).mono ?_); rintro e w' ⟨rfl, rfl⟩)) | (go_at_call 40; first | ((with_reducible refine (cfa _).mono ?_); rintro e w' ⟨rfl, n, rfl⟩) | ((with_reducible refine (cff _).mono ?_); rintro e w' ⟨rfl, n, rfl⟩)))
        go_loop [15, 70] (fun k i => ∃ j : Nat, j ≤ 3 ∧ i = .int .i64 j ∧ k = .int .i64 ([0, 0, 0, 0].getD j 0)) (fun _ i => 3 - (intOf i).toNat)
        case atStart => exact ⟨0, by omega, rfl, rfl⟩
        case round =>
          obtain ⟨j, hj, rfl, rfl⟩ := hrel
          have h4 : j = 0 ∨ j = 1 ∨ j = 2 ∨ j = 3 := by omega
          rcases h4 with rfl | rfl | rfl | rfl
          · go_wp2
            go_round
            case rel => exact ⟨1, by omega, by go_num, by simp⟩
            case measure => simp [intOf]
          · go_wp2
            go_round
            case rel => exact ⟨2, by omega, by go_num, by simp⟩
            case measure => simp [intOf]
          · go_wp2
            go_round
            case rel => exact ⟨3, by omega, by go_num, by simp⟩
            case measure => simp [intOf]
          · go_wp2_with (first | (go_at_call 24; refine (softLess_calls _ _ _).mono ?_; rintro e w' ⟨rfl, rfl⟩) | (go_at_call 28; refine (softEqual_calls _ _ _).mono ?_; rintro e w' ⟨rfl, rfl⟩) | (go_at_call 26; refine (softLessEq_calls _ _ _).mono ?_; rintro e w' ⟨rfl, rfl⟩) | (go_at_call 33; refine (softFromInt_calls _ _).mono ?_; rintro e w' ⟨rfl, rfl⟩) | (go_at_call 30; refine (awake_calls _).mono ?_; rintro e w' ⟨rfl, n, rfl⟩) | (go_at_call 31; refine (softTrunc_quiet _ _).mono ?_; rintro e w' ⟨rfl, rfl⟩) | (go_at_call 37; refine (cw _).mono ?_; rintro e w' ⟨rfl, rfl⟩) | (go_at_call 35; refine (cb _).mono ?_; rintro e w' ⟨rfl, rfl⟩) | (go_at_call 39; first | ((with_reducible refine (cna _).mono ?_); rintro e w' ⟨rfl, rfl⟩) | ((with_reducible refine (cnb _).mono ?_); rintro e w' ⟨rfl, rfl⟩)) | (go_at_call 40; first | ((with_reducible refine (cfa _).mono ?_); rintro e w' ⟨rfl, n, rfl⟩) | ((with_reducible refine (cff _).mono ?_); rintro e w' ⟨rfl, n, rfl⟩)))
            go_ret
            exact ⟨rfl, by first | exact below_draw (below_alloc' (Below.refl _ _) (Nat.le_refl _) _) _ | exact below_draw (below_draw (below_draw (below_alloc' (Below.refl _ _) (Nat.le_refl _) _) _) _) _ | exact below_alloc' (Below.refl _ _) (Nat.le_refl _) _⟩
    · have d1 : decide (i ≥ -9007199254740992) = false := decide_eq_false i1
      clear ra rb rn
      go_enter Try.func10, Try.ntmps10
      go_wp2_with (first | (go_at_call 24; refine (softLess_calls _ _ _).mono ?_; rintro e w' ⟨rfl, rfl⟩) | (go_at_call 28; refine (softEqual_calls _ _ _).mono ?_; rintro e w' ⟨rfl, rfl⟩) | (go_at_call 26; refine (softLessEq_calls _ _ _).mono ?_; rintro e w' ⟨rfl, rfl⟩) | (go_at_call 33; refine (softFromInt_calls _ _).mono ?_; rintro e w' ⟨rfl, rfl⟩) | (go_at_call 30; refine (awake_calls _).mono ?_; rintro e w' ⟨rfl, n, rfl⟩) | (go_at_call 31; refine (softTrunc_quiet _ _).mono ?_; rintro e w' ⟨rfl, rfl⟩) | (go_at_call 37; refine (cw _).mono ?_; rintro e w' ⟨rfl, rfl⟩) | (go_at_call 35; refine (cb _).mono ?_; rintro e w' ⟨rfl, rfl⟩) | (go_at_call 39; first | ((with_reducible refine (cna _).mono ?_); rintro e w' ⟨rfl, rfl⟩) | ((with_reducible refine (cnb _).mono ?_); rintro e w' ⟨rfl, rfl⟩)) | (go_at_call 40; first | ((with_reducible refine (cfa _).mono ?_); rintro e w' ⟨rfl, n, rfl⟩) | ((with_reducible refine (cff _).mono ?_); rintro e w' ⟨rfl, n, rfl⟩)))
      go_loop [15, 70] (fun k i => ∃ j : Nat, j ≤ 3 ∧ i = .int .i64 j ∧ k = .int .i64 ([0, 0, 0, 0].getD j 0)) (fun _ i => 3 - (intOf i).toNat)
      case atStart => exact ⟨0, by omega, rfl, rfl⟩
      case round =>
        obtain ⟨j, hj, rfl, rfl⟩ := hrel
        have h4 : j = 0 ∨ j = 1 ∨ j = 2 ∨ j = 3 := by omega
        rcases h4 with rfl | rfl | rfl | rfl
        · go_wp2
          go_round
          case rel => exact ⟨1, by omega, by go_num, by simp⟩
          case measure => simp [intOf]
        · go_wp2
          go_round
          case rel => exact ⟨2, by omega, by go_num, by simp⟩
          case measure => simp [intOf]
        · go_wp2
          go_round
          case rel => exact ⟨3, by omega, by go_num, by simp⟩
          case measure => simp [intOf]
        · go_wp2_with (first | (go_at_call 24; refine (softLess_calls _ _ _).mono ?_; rintro e w' ⟨rfl, rfl⟩) | (go_at_call 28; refine (softEqual_calls _ _ _).mono ?_; rintro e w' ⟨rfl, rfl⟩) | (go_at_call 26; refine (softLessEq_calls _ _ _).mono ?_; rintro e w' ⟨rfl, rfl⟩) | (go_at_call 33; refine (softFromInt_calls _ _).mono ?_; rintro e w' ⟨rfl, rfl⟩) | (go_at_call 30; refine (awake_calls _).mono ?_; rintro e w' ⟨rfl, n, rfl⟩) | (go_at_call 31; refine (softTrunc_quiet _ _).mono ?_; rintro e w' ⟨rfl, rfl⟩) | (go_at_call 37; refine (cw _).mono ?_; rintro e w' ⟨rfl, rfl⟩) | (go_at_call 35; refine (cb _).mono ?_; rintro e w' ⟨rfl, rfl⟩) | (go_at_call 39; first | ((with_reducible refine (cna _).mono ?_); rintro e w' ⟨rfl, rfl⟩) | ((with_reducible refine (cnb _).mono ?_); rintro e w' ⟨rfl, rfl⟩)) | (go_at_call 40; first | ((with_reducible refine (cfa _).mono ?_); rintro e w' ⟨rfl, n, rfl⟩) | ((with_reducible refine (cff _).mono ?_); rintro e w' ⟨rfl, n, rfl⟩)))
          go_ret
          exact ⟨rfl, by first | exact below_draw (below_alloc' (Below.refl _ _) (Nat.le_refl _) _) _ | exact below_draw (below_draw (below_draw (below_alloc' (Below.refl _ _) (Nat.le_refl _) _) _) _) _ | exact below_alloc' (Below.refl _ _) (Nat.le_refl _) _⟩
  | false =>
    have wc : (sWide n != 9221120237041090560) = false := by unfold sWide; rw [hn]; rfl
    clear hn
    by_cases i1 : -9007199254740992 ≤ i
    · by_cases i2 : i ≤ 9007199254740992
      · have ti := trc_back i1 i2
        have d1 : decide (i ≥ -9007199254740992) = true := decide_eq_true i1
        have d2 : decide (i ≤ 9007199254740992) = true := decide_eq_true i2
        clear ra rb rn
        go_enter Try.func10, Try.ntmps10
        go_wp2_with (first | (go_at_call 24; refine (softLess_calls _ _ _).mono ?_; rintro e w' ⟨rfl, rfl⟩) | (go_at_call 28; refine (softEqual_calls _ _ _).mono ?_; rintro e w' ⟨rfl, rfl⟩) | (go_at_call 26; refine (softLessEq_calls _ _ _).mono ?_; rintro e w' ⟨rfl, rfl⟩) | (go_at_call 33; refine (softFromInt_calls _ _).mono ?_; rintro e w' ⟨rfl, rfl⟩) | (go_at_call 30; refine (awake_calls _).mono ?_; rintro e w' ⟨rfl, n, rfl⟩) | (go_at_call 31; refine (softTrunc_quiet _ _).mono ?_; rintro e w' ⟨rfl, rfl⟩) | (go_at_call 37; refine (cw _).mono ?_; rintro e w' ⟨rfl, rfl⟩) | (go_at_call 39; first | ((with_reducible refine (cna _).mono ?_); rintro e w' ⟨rfl, rfl⟩) | ((with_reducible refine (cnb _).mono ?_); rintro e w' ⟨rfl, rfl⟩)) | (go_at_call 40; first | ((with_reducible refine (cfa _).mono ?_); rintro e w' ⟨rfl, n, rfl⟩) | ((with_reducible refine (cff _).mono ?_); rintro e w' ⟨rfl, n, rfl⟩)))
        go_loop [15, 70] (fun k i => ∃ j : Nat, j ≤ 3 ∧ i = .int .i64 j ∧ k = .int .i64 ([0, 0, 0, 0].getD j 0)) (fun _ i => 3 - (intOf i).toNat)
        case atStart => exact ⟨0, by omega, rfl, rfl⟩
        case round =>
          obtain ⟨j, hj, rfl, rfl⟩ := hrel
          have h4 : j = 0 ∨ j = 1 ∨ j = 2 ∨ j = 3 := by omega
          rcases h4 with rfl | rfl | rfl | rfl
          · go_wp2
            go_round
            case rel => exact ⟨1, by omega, by go_num, by simp⟩
            case measure => simp [intOf]
          · go_wp2
            go_round
            case rel => exact ⟨2, by omega, by go_num, by simp⟩
            case measure => simp [intOf]
          · go_wp2
            go_round
            case rel => exact ⟨3, by omega, by go_num, by simp⟩
            case measure => simp [intOf]
          · go_wp2_with (first | (go_at_call 24; refine (softLess_calls _ _ _).mono ?_; rintro e w' ⟨rfl, rfl⟩) | (go_at_call 28; refine (softEqual_calls _ _ _).mono ?_; rintro e w' ⟨rfl, rfl⟩) | (go_at_call 26; refine (softLessEq_calls _ _ _).mono ?_; rintro e w' ⟨rfl, rfl⟩) | (go_at_call 33; refine (softFromInt_calls _ _).mono ?_; rintro e w' ⟨rfl, rfl⟩) | (go_at_call 30; refine (awake_calls _).mono ?_; rintro e w' ⟨rfl, n, rfl⟩) | (go_at_call 31; refine (softTrunc_quiet _ _).mono ?_; rintro e w' ⟨rfl, rfl⟩) | (go_at_call 37; refine (cw _).mono ?_; rintro e w' ⟨rfl, rfl⟩) | (go_at_call 39; first | ((with_reducible refine (cna _).mono ?_); rintro e w' ⟨rfl, rfl⟩) | ((with_reducible refine (cnb _).mono ?_); rintro e w' ⟨rfl, rfl⟩)) | (go_at_call 40; first | ((with_reducible refine (cfa _).mono ?_); rintro e w' ⟨rfl, n, rfl⟩) | ((with_reducible refine (cff _).mono ?_); rintro e w' ⟨rfl, n, rfl⟩)))
            go_ret
            exact ⟨rfl, by first | exact below_draw (below_alloc' (Below.refl _ _) (Nat.le_refl _) _) _ | exact below_draw (below_draw (below_draw (below_alloc' (Below.refl _ _) (Nat.le_refl _) _) _) _) _ | exact below_alloc' (Below.refl _ _) (Nat.le_refl _) _⟩
      · have d1 : decide (i ≥ -9007199254740992) = true := decide_eq_true i1
        have d2 : decide (i ≤ 9007199254740992) = false := decide_eq_false i2
        clear ra rb rn
        go_enter Try.func10, Try.ntmps10
        go_wp2_with (first | (go_at_call 24; refine (softLess_calls _ _ _).mono ?_; rintro e w' ⟨rfl, rfl⟩) | (go_at_call 28; refine (softEqual_calls _ _ _).mono ?_; rintro e w' ⟨rfl, rfl⟩) | (go_at_call 26; refine (softLessEq_calls _ _ _).mono ?_; rintro e w' ⟨rfl, rfl⟩) | (go_at_call 33; refine (softFromInt_calls _ _).mono ?_; rintro e w' ⟨rfl, rfl⟩) | (go_at_call 30; refine (awake_calls _).mono ?_; rintro e w' ⟨rfl, n, rfl⟩) | (go_at_call 31; refine (softTrunc_quiet _ _).mono ?_; rintro e w' ⟨rfl, rfl⟩) | (go_at_call 37; refine (cw _).mono ?_; rintro e w' ⟨rfl, rfl⟩) | (go_at_call 39; first | ((with_reducible refine (cna _).mono ?_); rintro e w' ⟨rfl, rfl⟩) | ((with_reducible refine (cnb _).mono ?_); rintro e w' ⟨rfl, rfl⟩)) | (go_at_call 40; first | ((with_reducible refine (cfa _).mono ?_); rintro e w' ⟨rfl, n, rfl⟩) | ((with_reducible refine (cff _).mono ?_); rintro e w' ⟨rfl, n, rfl⟩)))
        go_loop [15, 70] (fun k i => ∃ j : Nat, j ≤ 3 ∧ i = .int .i64 j ∧ k = .int .i64 ([0, 0, 0, 0].getD j 0)) (fun _ i => 3 - (intOf i).toNat)
        case atStart => exact ⟨0, by omega, rfl, rfl⟩
        case round =>
          obtain ⟨j, hj, rfl, rfl⟩ := hrel
          have h4 : j = 0 ∨ j = 1 ∨ j = 2 ∨ j = 3 := by omega
          rcases h4 with rfl | rfl | rfl | rfl
          · go_wp2
            go_round
            case rel => exact ⟨1, by omega, by go_num, by simp⟩
            case measure => simp [intOf]
          · go_wp2
            go_round
            case rel => exact ⟨2, by omega, by go_num, by simp⟩
            case measure => simp [intOf]
          · go_wp2
            go_round
            case rel => exact ⟨3, by omega, by go_num, by simp⟩
            case measure => simp [intOf]
          · go_wp2_with (first | (go_at_call 24; refine (softLess_calls _ _ _).mono ?_; rintro e w' ⟨rfl, rfl⟩) | (go_at_call 28; refine (softEqual_calls _ _ _).mono ?_; rintro e w' ⟨rfl, rfl⟩) | (go_at_call 26; refine (softLessEq_calls _ _ _).mono ?_; rintro e w' ⟨rfl, rfl⟩) | (go_at_call 33; refine (softFromInt_calls _ _).mono ?_; rintro e w' ⟨rfl, rfl⟩) | (go_at_call 30; refine (awake_calls _).mono ?_; rintro e w' ⟨rfl, n, rfl⟩) | (go_at_call 31; refine (softTrunc_quiet _ _).mono ?_; rintro e w' ⟨rfl, rfl⟩) | (go_at_call 37; refine (cw _).mono ?_; rintro e w' ⟨rfl, rfl⟩) | (go_at_call 39; first | ((with_reducible refine (cna _).mono ?_); rintro e w' ⟨rfl, rfl⟩) | ((with_reducible refine (cnb _).mono ?_); rintro e w' ⟨rfl, rfl⟩)) | (go_at_call 40; first | ((with_reducible refine (cfa _).mono ?_); rintro e w' ⟨rfl, n, rfl⟩) | ((with_reducible refine (cff _).mono ?_); rintro e w' ⟨rfl, n, rfl⟩)))
            go_ret
            exact ⟨rfl, by first | exact below_draw (below_alloc' (Below.refl _ _) (Nat.le_refl _) _) _ | exact below_draw (below_draw (below_draw (below_alloc' (Below.refl _ _) (Nat.le_refl _) _) _) _) _ | exact below_alloc' (Below.refl _ _) (Nat.le_refl _) _⟩
    · have d1 : decide (i ≥ -9007199254740992) = false := decide_eq_false i1
      clear ra rb rn
      go_enter Try.func10, Try.ntmps10
      go_wp2_with (first | (go_at_call 24; refine (softLess_calls _ _ _).mono ?_; rintro e w' ⟨rfl, rfl⟩) | (go_at_call 28; refine (softEqual_calls _ _ _).mono ?_; rintro e w' ⟨rfl, rfl⟩) | (go_at_call 26; refine (softLessEq_calls _ _ _).mono ?_; rintro e w' ⟨rfl, rfl⟩) | (go_at_call 33; refine (softFromInt_calls _ _).mono ?_; rintro e w' ⟨rfl, rfl⟩) | (go_at_call 30; refine (awake_calls _).mono ?_; rintro e w' ⟨rfl, n, rfl⟩) | (go_at_call 31; refine (softTrunc_quiet _ _).mono ?_; rintro e w' ⟨rfl, rfl⟩) | (go_at_call 37; refine (cw _).mono ?_; rintro e w' ⟨rfl, rfl⟩) | (go_at_call 39; first | ((with_reducible refine (cna _).mono ?_); rintro e w' ⟨rfl, rfl⟩) | ((with_reducible refine (cnb _).mono ?_); rintro e w' ⟨rfl, rfl⟩)) | (go_at_call 40; first | ((with_reducible refine (cfa _).mono ?_); rintro e w' ⟨rfl, n, rfl⟩) | ((with_reducible refine (cff _).mono ?_); rintro e w' ⟨rfl, n, rfl⟩)))
      go_loop [15, 70] (fun k i => ∃ j : Nat, j ≤ 3 ∧ i = .int .i64 j ∧ k = .int .i64 ([0, 0, 0, 0].getD j 0)) (fun _ i => 3 - (intOf i).toNat)
      case atStart => exact ⟨0, by omega, rfl, rfl⟩
      case round =>
        obtain ⟨j, hj, rfl, rfl⟩ := hrel
        have h4 : j = 0 ∨ j = 1 ∨ j = 2 ∨ j = 3 := by omega
        rcases h4 with rfl | rfl | rfl | rfl
        · go_wp2
          go_round
          case rel => exact ⟨1, by omega, by go_num, by simp⟩
          case measure => simp [intOf]
        · go_wp2
          go_round
          case rel => exact ⟨2, by omega, by go_num, by simp⟩
          case measure => simp [intOf]
        · go_wp2
          go_round
          case rel => exact ⟨3, by omega, by go_num, by simp⟩
          case measure => simp [intOf]
        · go_wp2_with (first | (go_at_call 24; refine (softLess_calls _ _ _).mono ?_; rintro e w' ⟨rfl, rfl⟩) | (go_at_call 28; refine (softEqual_calls _ _ _).mono ?_; rintro e w' ⟨rfl, rfl⟩) | (go_at_call 26; refine (softLessEq_calls _ _ _).mono ?_; rintro e w' ⟨rfl, rfl⟩) | (go_at_call 33; refine (softFromInt_calls _ _).mono ?_; rintro e w' ⟨rfl, rfl⟩) | (go_at_call 30; refine (awake_calls _).mono ?_; rintro e w' ⟨rfl, n, rfl⟩) | (go_at_call 31; refine (softTrunc_quiet _ _).mono ?_; rintro e w' ⟨rfl, rfl⟩) | (go_at_call 37; refine (cw _).mono ?_; rintro e w' ⟨rfl, rfl⟩) | (go_at_call 39; first | ((with_reducible refine (cna _).mono ?_); rintro e w' ⟨rfl, rfl⟩) | ((with_reducible refine (cnb _).mono ?_); rintro e w' ⟨rfl, rfl⟩)) | (go_at_call 40; first | ((with_reducible refine (cfa _).mono ?_); rintro e w' ⟨rfl, n, rfl⟩) | ((with_reducible refine (cff _).mono ?_); rintro e w' ⟨rfl, n, rfl⟩)))
          go_ret
          exact ⟨rfl, by first | exact below_draw (below_alloc' (Below.refl _ _) (Nat.le_refl _) _) _ | exact below_draw (below_draw (below_draw (below_alloc' (Below.refl _ _) (Nat.le_refl _) _) _) _) _ | exact below_alloc' (Below.refl _ _) (Nat.le_refl _) _⟩

theorem softBack_walk (a b i n : Int) (w : World) (ha : (Lit.int .u64 a).wf = true) (hb : (Lit.int .u64 b).wf = true) (_ : (Lit.int .i64 i).wf = true) (hn : (Lit.int .u32 n).wf = true) :
    Calls Try.prog 10 #[.int .u64 a, .int .u64 b, .int .i64 i, .int .u32 n] w fun e w' => e = .returned (.bool true) ∧ Below w.heap.size w w' := by
  have ra := u64_range ha
  have rb := u64_range hb
  have rn := u32_range hn
  cases m1 : nanB a with
  | true =>
    have hx : ¬ Fl.isNum Fl.D a.toNat := by unfold nanB at m1; intro e; rw [Fl.isNumB_iff.2 e] at m1; cases m1
    exact back_nan1 a b i n ra rb rn (Fl.dless_nan (.inl hx)) (Fl.deq_nan (.inl hx)) (Fl.dless_nan (.inr hx)) (Fl.dleq_nan (.inl hx)) m1 w
  | false =>
    have hx : Fl.isNum Fl.D a.toNat := by unfold nanB at m1; exact Fl.isNumB_iff.1 (by simpa using m1)
    cases m2 : nanB b with
    | true =>
      have hy : ¬ Fl.isNum Fl.D b.toNat := by unfold nanB at m2; intro e; rw [Fl.isNumB_iff.2 e] at m2; cases m2
      exact back_nan2 a b i n ra rb rn (Fl.dless_nan (.inr hy)) (Fl.deq_nan (.inr hy)) (Fl.dless_nan (.inl hy)) (Fl.dleq_nan (.inr hy)) m1 m2 w
    | false =>
      have hy : Fl.isNum Fl.D b.toNat := by unfold nanB at m2; exact Fl.isNumB_iff.1 (by simpa using m2)
      have et : (sFloor a).toNat = Fl.dfloor a.toNat := by unfold sFloor; rw [Int.toNat_natCast]
      have f1 : sLessEq (sFloor a) a = true := by unfold sLessEq; rw [et]; exact Fl.dfloor_le (by omega) hx
      have f2 : (sFloor (sFloor a) == sFloor a) = true := by
        have : sFloor (sFloor a) = sFloor a := by unfold sFloor; rw [Int.toNat_natCast, Fl.dfloor_idem (by omega)]
        rw [this]; simp
      have e1 : sLess a b = decide (Fl.sv Fl.D a.toNat < Fl.sv Fl.D b.toNat) := Fl.dless_num hx hy
      have e2 : sEqual a b = decide (Fl.sv Fl.D a.toNat = Fl.sv Fl.D b.toNat) := Fl.deq_num hx hy
      have e3 : sLess b a = decide (Fl.sv Fl.D b.toNat < Fl.sv Fl.D a.toNat) := Fl.dless_num hy hx
      have e4 : sLessEq a b = decide (Fl.sv Fl.D a.toNat ≤ Fl.sv Fl.D b.toNat) := Fl.dleq_num hx hy
      by_cases c1 : Fl.sv Fl.D a.toNat < Fl.sv Fl.D b.toNat
      · exact back_less a b i n ra rb rn (by rw [e1]; exact decide_eq_true c1) (by rw [e2]; exact decide_eq_false (by omega)) (by rw [e3]; exact decide_eq_false (by omega)) (by rw [e4]; exact decide_eq_true (by omega)) m1 m2 f1 f2 w
      · by_cases c2 : Fl.sv Fl.D a.toNat = Fl.sv Fl.D b.toNat
        · exact back_same a b i n ra rb rn (by rw [e1]; exact decide_eq_false c1) (by rw [e2]; exact decide_eq_true c2) (by rw [e3]; exact decide_eq_false (by omega)) (by rw [e4]; exact decide_eq_true (by omega)) m1 m2 f1 f2 w
        · exact back_more a b i n ra rb rn (by rw [e1]; exact decide_eq_false c1) (by rw [e2]; exact decide_eq_false c2) (by rw [e3]; exact decide_eq_true (by omega)) (by rw [e4]; exact decide_eq_false (by omega)) m1 m2 f1 f2 w
end Go.Proofs.Ytieddikacnmhlaa

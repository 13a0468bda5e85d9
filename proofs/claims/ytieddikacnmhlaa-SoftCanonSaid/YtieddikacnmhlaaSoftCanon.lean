/- No NaN but the one comes out of soft; sums and products either way round; a difference is a sum; a sign twice turned. Of any two patterns, any whole number and any number of 32 bits. No condition. -/
import Derived.Test.YtieddikacnmhlaaG
import Derived.LoopTactic
import Derived.Deep.LoopGhost
import Derived.Deep.QuietTactic
import Derived.BigQuiet
namespace Go.Proofs.Ytieddikacnmhlaa
open Go.RowKit

def cleanI (v : Int) : Prop := (0 ≤ v ∧ v < 18446744073709551616) ∧ (nanB v = true → (v != 9221120237041090560) = false)
theorem clean_of {x : Nat} {v : Int} (hv : v = (x : Int)) (hx : x < 18446744073709551616) (h : Fl.clean x) : cleanI v := by
  subst hv
  refine ⟨by omega, fun hn => ?_⟩
  unfold nanB at hn; rw [Int.toNat_natCast] at hn
  rcases h with h | h
  · rw [Fl.isNumB_iff.2 h] at hn; cases hn
  · rw [h]; rfl
theorem cleanAdd (a b : Int) : cleanI (sAdd a b) := clean_of rfl (Fl.dadd_lt _ _) (Fl.dadd_clean _ _)
theorem cleanSub (a b : Int) : cleanI (sSub a b) := clean_of rfl (Fl.dsub_lt _ _) (Fl.dsub_clean _ _)
theorem cleanMul (a b : Int) : cleanI (sMul a b) := clean_of rfl (Fl.dmul_lt _ _) (Fl.dmul_clean _ _)
theorem cleanDiv (a b : Int) : cleanI (sDiv a b) := clean_of rfl (Fl.ddiv_lt _ _) (Fl.ddiv_clean _ _)
theorem cleanNeg (a : Int) (h : a < 18446744073709551616) : cleanI (sNeg a) := clean_of rfl (Fl.dneg_lt (by omega)) (Fl.dneg_clean (by omega))
theorem cleanFloor (a : Int) (h : a < 18446744073709551616) : cleanI (sFloor a) := clean_of rfl (Fl.dfloor_lt _) (Fl.dfloor_clean (by omega))
theorem cleanInt (i : Int) : cleanI (sInt i) := clean_of rfl (Fl.dint_lt _) (.inl (Fl.dint_num _))
theorem cleanWide (n : Int) : cleanI (sWide n) := by
  cases h : isNum32 n with
  | true =>
    have hn := Fl.dwide_num (isNum32_iff.1 h)
    exact clean_of (x := Fl.dwide n.toNat) (by unfold sWide; rw [h, if_pos rfl]) (by unfold Fl.dwide; exact Fl.write_lt64 _) (.inl hn)
  | false => exact clean_of (x := Fl.canon) (by unfold sWide; rw [h]; rfl) Fl.canon_lt (.inr rfl)

theorem nanQ2 (a : Int) (h : 0 ≤ a ∧ a < 18446744073709551616) (w : World) : Calls Try.prog 39 #[.int .u64 a] w fun e w' => e = .returned (.bool (nanB a)) ∧ w = w' := nanq_calls a h.1 h.2 w
theorem below_alloc' {B : Nat} {w W : World} (h : Below B w W) (hB : B ≤ W.heap.size) (o : Obj) : Below B w (W.alloc o) := h.alloc hB o
theorem below_draw {B : Nat} {w W : World} (h : Below B w W) (n : Nat) : Below B w (W.drewN n) := ⟨h.os, h.tape, h.output, h.size, h.block⟩
theorem cell_own (w : World) (m k : Nat) (cs : Array Value) (T : TypeId) : ((w.drewN m).alloc (.cells cs T)).cell? ⟨w.heap.size, k, none⟩ = cs[k]? := by
  have := World.cell?_alloc_new (w.drewN m) cs T k
  exact this

set_option maxRecDepth 100000 in
set_option maxHeartbeats 6400000 in
theorem canon_calls (a b i u : Int) (cna : ∀ w, Calls Try.prog 49 #[.int .u64 a] w fun e w' => e = .returned (.int .u64 (sNeg a)) ∧ w = w') (cnb : ∀ w, Calls Try.prog 49 #[.int .u64 b] w fun e w' => e = .returned (.int .u64 (sNeg b)) ∧ w = w')
    (cnn : ∀ w, Calls Try.prog 49 #[.int .u64 (sNeg a)] w fun e w' => e = .returned (.int .u64 (sNeg (sNeg a))) ∧ w = w')
    (cf : ∀ w, Calls Try.prog 40 #[.int .u64 a] w fun e w' => e = .returned (.int .u64 (sFloor a)) ∧ Dr w w')
    (cw : ∀ w, Calls Try.prog 37 #[.int .u32 u] w fun e w' => e = .returned (.int .u64 (sWide u)) ∧ w = w')
    (q1 : (sAdd b a != sAdd a b) = false) (q2 : (sMul b a != sMul a b) = false) (q3 : (sAdd a (sNeg b) != sSub a b) = false) (q4 : nanB a = false → (sNeg (sNeg a) != a) = false) (q5 : nanB a = true → (sNeg a != 9221120237041090560) = false)
    (cq : ∀ w, Calls Try.prog 39 #[.int .u64 a] w fun e w' => e = .returned (.bool (nanB a)) ∧ w = w') 
    (k0 : cleanI (sAdd a b)) (k1 : cleanI (sSub a b)) (k2 : cleanI (sMul a b)) (k3 : cleanI (sDiv a b)) (k4 : cleanI (sNeg a)) (k5 : cleanI (sFloor a)) (k6 : cleanI (sInt i)) (k7 : cleanI (sWide u)) (w : World) : Calls Try.prog 9 #[.int .u64 a, .int .u64 b, .int .i64 i, .int .u32 u] w fun e w' => e = .returned (.bool true) ∧ Below w.heap.size w w' := by
  have hcell : ∀ (m k : Nat) (cs : Array Value), ((w.drewN m).alloc (.cells cs 22)).cell? ⟨w.heap.size, k, none⟩ = cs[k]? := fun m k cs => cell_own w m k cs 22
  go_enter Try.func9, Try.ntmps9
  go_wp2_with (first | (go_at_call 41; refine (softAdd_calls _ _ _).mono ?_; rintro e w' ⟨rfl, n, rfl⟩) | (go_at_call 44; refine (softSub_calls _ _ _).mono ?_; rintro e w' ⟨rfl, n, rfl⟩) | (go_at_call 42; refine (softMul_calls _ _ _).mono ?_; rintro e w' ⟨rfl, n, rfl⟩) | (go_at_call 43; refine (softDiv_calls _ _ _).mono ?_; rintro e w' ⟨rfl, n, rfl⟩) | (go_at_call 33; refine (softFromInt_calls _ _).mono ?_; rintro e w' ⟨rfl, rfl⟩) | (go_at_call 30; refine (awake_calls _).mono ?_; rintro e w' ⟨rfl, n, rfl⟩) | (go_at_call 49; first | ((with_reducible refine (cna _).mono ?_); rintro e w' ⟨rfl, rfl⟩) | ((with_reducible refine (cnb _).mono ?_); rintro e w' ⟨rfl, rfl⟩) | ((with_reducible refine (cnn _).mono ?_); rintro e w' ⟨rfl, rfl⟩)) | (go_at_call 40; refine (cf _).mono ?_; rintro e w' ⟨rfl, n, rfl⟩) | (go_at_call 37; refine (cw _).mono ?_; rintro e w' ⟨rfl, rfl⟩))
  go_loop [10] (fun i => ∃ j : Nat, j ≤ 8 ∧ i = .int .i64 j) (fun i => 8 - (intOf i).toNat)
  case atStart => exact ⟨0, by omega, rfl⟩
  case round =>
    obtain ⟨j, hj, rfl⟩ := hrel
    have h9 : j = 0 ∨ j = 1 ∨ j = 2 ∨ j = 3 ∨ j = 4 ∨ j = 5 ∨ j = 6 ∨ j = 7 ∨ j = 8 := by omega
    clear hj
    rcases h9 with rfl | rfl | rfl | rfl | rfl | rfl | rfl | rfl | rfl
    · have cqj := nanQ2 _ k0.1
      have hz := k0.2
      clear k0 k1 k2 k3 k4 k5 k6 k7
      cases hq : nanB (sAdd a b) with
      | true =>
        rw [hq] at cqj
        have hz := hz hq
        clear hq
        go_wp2_with (go_at_call 39; refine (cqj _).mono ?_; rintro e w' ⟨rfl, rfl⟩)
        go_round
        case rel => exact ⟨1, by omega, by go_num⟩
        case measure => simp [intOf]
      | false =>
        rw [hq] at cqj
        clear hq hz
        go_wp2_with (go_at_call 39; refine (cqj _).mono ?_; rintro e w' ⟨rfl, rfl⟩)
        go_round
        case rel => exact ⟨1, by omega, by go_num⟩
        case measure => simp [intOf]
    · have cqj := nanQ2 _ k1.1
      have hz := k1.2
      clear k0 k1 k2 k3 k4 k5 k6 k7
      cases hq : nanB (sSub a b) with
      | true =>
        rw [hq] at cqj
        have hz := hz hq
        clear hq
        go_wp2_with (go_at_call 39; refine (cqj _).mono ?_; rintro e w' ⟨rfl, rfl⟩)
        go_round
        case rel => exact ⟨2, by omega, by go_num⟩
        case measure => simp [intOf]
      | false =>
        rw [hq] at cqj
        clear hq hz
        go_wp2_with (go_at_call 39; refine (cqj _).mono ?_; rintro e w' ⟨rfl, rfl⟩)
        go_round
        case rel => exact ⟨2, by omega, by go_num⟩
        case measure => simp [intOf]
    · have cqj := nanQ2 _ k2.1
      have hz := k2.2
      clear k0 k1 k2 k3 k4 k5 k6 k7
      cases hq : nanB (sMul a b) with
      | true =>
        rw [hq] at cqj
        have hz := hz hq
        clear hq
        go_wp2_with (go_at_call 39; refine (cqj _).mono ?_; rintro e w' ⟨rfl, rfl⟩)
        go_round
        case rel => exact ⟨3, by omega, by go_num⟩
        case measure => simp [intOf]
      | false =>
        rw [hq] at cqj
        clear hq hz
        go_wp2_with (go_at_call 39; refine (cqj _).mono ?_; rintro e w' ⟨rfl, rfl⟩)
        go_round
        case rel => exact ⟨3, by omega, by go_num⟩
        case measure => simp [intOf]
    · have cqj := nanQ2 _ k3.1
      have hz := k3.2
      clear k0 k1 k2 k3 k4 k5 k6 k7
      cases hq : nanB (sDiv a b) with
      | true =>
        rw [hq] at cqj
        have hz := hz hq
        clear hq
        go_wp2_with (go_at_call 39; refine (cqj _).mono ?_; rintro e w' ⟨rfl, rfl⟩)
        go_round
        case rel => exact ⟨4, by omega, by go_num⟩
        case measure => simp [intOf]
      | false =>
        rw [hq] at cqj
        clear hq hz
        go_wp2_with (go_at_call 39; refine (cqj _).mono ?_; rintro e w' ⟨rfl, rfl⟩)
        go_round
        case rel => exact ⟨4, by omega, by go_num⟩
        case measure => simp [intOf]
    · have cqj := nanQ2 _ k4.1
      have hz := k4.2
      clear k0 k1 k2 k3 k4 k5 k6 k7
      cases hq : nanB (sNeg a) with
      | true =>
        rw [hq] at cqj
        have hz := hz hq
        clear hq
        go_wp2_with (go_at_call 39; refine (cqj _).mono ?_; rintro e w' ⟨rfl, rfl⟩)
        go_round
        case rel => exact ⟨5, by omega, by go_num⟩
        case measure => simp [intOf]
      | false =>
        rw [hq] at cqj
        clear hq hz
        go_wp2_with (go_at_call 39; refine (cqj _).mono ?_; rintro e w' ⟨rfl, rfl⟩)
        go_round
        case rel => exact ⟨5, by omega, by go_num⟩
        case measure => simp [intOf]
    · have cqj := nanQ2 _ k5.1
      have hz := k5.2
      clear k0 k1 k2 k3 k4 k5 k6 k7
      cases hq : nanB (sFloor a) with
      | true =>
        rw [hq] at cqj
        have hz := hz hq
        clear hq
        go_wp2_with (go_at_call 39; refine (cqj _).mono ?_; rintro e w' ⟨rfl, rfl⟩)
        go_round
        case rel => exact ⟨6, by omega, by go_num⟩
        case measure => simp [intOf]
      | false =>
        rw [hq] at cqj
        clear hq hz
        go_wp2_with (go_at_call 39; refine (cqj _).mono ?_; rintro e w' ⟨rfl, rfl⟩)
        go_round
        case rel => exact ⟨6, by omega, by go_num⟩
        case measure => simp [intOf]
    · have cqj := nanQ2 _ k6.1
      have hz := k6.2
      clear k0 k1 k2 k3 k4 k5 k6 k7
      cases hq : nanB (sInt i) with
      | true =>
        rw [hq] at cqj
        have hz := hz hq
        clear hq
        go_wp2_with (go_at_call 39; refine (cqj _).mono ?_; rintro e w' ⟨rfl, rfl⟩)
        go_round
        case rel => exact ⟨7, by omega, by go_num⟩
        case measure => simp [intOf]
      | false =>
        rw [hq] at cqj
        clear hq hz
        go_wp2_with (go_at_call 39; refine (cqj _).mono ?_; rintro e w' ⟨rfl, rfl⟩)
        go_round
        case rel => exact ⟨7, by omega, by go_num⟩
        case measure => simp [intOf]
    · have cqj := nanQ2 _ k7.1
      have hz := k7.2
      clear k0 k1 k2 k3 k4 k5 k6 k7
      cases hq : nanB (sWide u) with
      | true =>
        rw [hq] at cqj
        have hz := hz hq
        clear hq
        go_wp2_with (go_at_call 39; refine (cqj _).mono ?_; rintro e w' ⟨rfl, rfl⟩)
        go_round
        case rel => exact ⟨8, by omega, by go_num⟩
        case measure => simp [intOf]
      | false =>
        rw [hq] at cqj
        clear hq hz
        go_wp2_with (go_at_call 39; refine (cqj _).mono ?_; rintro e w' ⟨rfl, rfl⟩)
        go_round
        case rel => exact ⟨8, by omega, by go_num⟩
        case measure => simp [intOf]
    · clear k0 k1 k2 k3 k4 k5 k6 k7
      cases m : nanB a with
      | true =>
        have q6 := q5 m
        rw [m] at cq
        clear q4 q5 m
        go_wp2
        go_quiet ((first | (go_at_call 41; exact Calls.quiet_of (softAdd_calls _ _ _)) | (go_at_call 42; exact Calls.quiet_of (softMul_calls _ _ _)) | (go_at_call 49; exact Calls.quiet_of_same ((cnb _).mono fun _ _ h => ⟨h.1, h.2.symm⟩))))
        go_wp2_with (first | (go_at_call 39; refine (cq _).mono ?_; rintro e w' ⟨rfl, rfl⟩) | (go_at_call 49; refine (cnn _).mono ?_; rintro e w' ⟨rfl, rfl⟩) | (go_at_call 30; refine (awake_calls _).mono ?_; rintro e w' ⟨rfl, n, rfl⟩))
        go_ret
        exact ⟨rfl, by first | exact below_draw (below_alloc' (below_draw (Below.refl _ _) _) (Nat.le_refl _) _) _ | exact below_draw (below_draw (below_alloc' (below_draw (Below.refl _ _) _) (Nat.le_refl _) _) _) _ | exact below_draw (below_draw (below_draw (below_alloc' (below_draw (Below.refl _ _) _) (Nat.le_refl _) _) _) _) _⟩
      | false =>
        have q6 := q4 m
        rw [m] at cq
        clear q4 q5 m
        go_wp2
        go_quiet ((first | (go_at_call 41; exact Calls.quiet_of (softAdd_calls _ _ _)) | (go_at_call 42; exact Calls.quiet_of (softMul_calls _ _ _)) | (go_at_call 49; exact Calls.quiet_of_same ((cnb _).mono fun _ _ h => ⟨h.1, h.2.symm⟩))))
        go_wp2_with (first | (go_at_call 39; refine (cq _).mono ?_; rintro e w' ⟨rfl, rfl⟩) | (go_at_call 49; refine (cnn _).mono ?_; rintro e w' ⟨rfl, rfl⟩) | (go_at_call 30; refine (awake_calls _).mono ?_; rintro e w' ⟨rfl, n, rfl⟩))
        go_ret
        exact ⟨rfl, by first | exact below_draw (below_alloc' (below_draw (Below.refl _ _) _) (Nat.le_refl _) _) _ | exact below_draw (below_draw (below_alloc' (below_draw (Below.refl _ _) _) (Nat.le_refl _) _) _) _ | exact below_draw (below_draw (below_draw (below_alloc' (below_draw (Below.refl _ _) _) (Nat.le_refl _) _) _) _) _⟩
theorem softCanon_walk (a b i n : Int) (w : World) (ha : (Lit.int .u64 a).wf = true) (hb : (Lit.int .u64 b).wf = true) (_ : (Lit.int .i64 i).wf = true) (hn : (Lit.int .u32 n).wf = true) :
    Calls Try.prog 9 #[.int .u64 a, .int .u64 b, .int .i64 i, .int .u32 n] w fun e w' => e = .returned (.bool true) ∧ Below w.heap.size w w' := by
  obtain ⟨a0, a1⟩ := u64_range ha
  obtain ⟨b0, b1⟩ := u64_range hb
  obtain ⟨n0, n1⟩ := u32_range hn
  have en : ∀ x : Int, (sNeg x).toNat = Fl.dneg x.toNat := fun x => by unfold sNeg; exact Int.toNat_natCast _
  refine canon_calls a b i n (softNeg_calls a a0 a1) (softNeg_calls b b0 b1) (softNeg_calls (sNeg a) (sNeg_range a1).1 (sNeg_range a1).2) (softFloor_calls a a1) (softWide_calls n n0 n1) ?_ ?_ ?_ ?_ ?_ (nanQ2 a ⟨a0, a1⟩)
    (cleanAdd a b) (cleanSub a b) (cleanMul a b) (cleanDiv a b) (cleanNeg a a1) (cleanFloor a a1) (cleanInt i) (cleanWide n) w
  · have : sAdd b a = sAdd a b := by unfold sAdd; rw [Fl.dadd_comm]
    rw [this]; simp
  · have : sMul b a = sMul a b := by unfold sMul; rw [Fl.dmul_comm]
    rw [this]; simp
  · have : sAdd a (sNeg b) = sSub a b := by unfold sAdd sSub; rw [en, Fl.dsub_eq (by omega)]
    rw [this]; simp
  · intro m
    have hx : Fl.isNum Fl.D a.toNat := by unfold nanB at m; exact Fl.isNumB_iff.1 (by simpa using m)
    have : sNeg (sNeg a) = a := by
      show ((Fl.dneg (sNeg a).toNat : Nat) : Int) = a
      rw [en, Fl.dneg_dneg (by omega) hx]; omega
    rw [this]; simp
  · intro m
    have hx : ¬ Fl.isNum Fl.D a.toNat := by unfold nanB at m; intro e; rw [Fl.isNumB_iff.2 e] at m; cases m
    have : sNeg a = 9221120237041090560 := by unfold sNeg; rw [Fl.dneg_nan hx]; rfl
    rw [this]; rfl
end Go.Proofs.Ytieddikacnmhlaa

/- The document's arithmetic of numbers (casketref3): Bits; the double side of each operation; Add, Sub, Div, Neg whole. -/
import Derived.Test.YtieddikacnmhlaaT
import Derived.Test.YtieddikacnmhlaaE
import Derived.Deep.RegionHeld3
namespace Go.Proofs.Ytieddikacnmhlaa
open Go.RowKit

def rPat (p : Bool) (i u : Int) : Int := if p then sInt i else cbits u.toNat
set_option maxHeartbeats 1600000 in
theorem refBits_calls (p : Bool) (i u : Int) (h0 : 0 ≤ u) (hx : u < 18446744073709551616) (w : World) : Calls Try.prog 96 #[numV p i u] w fun e w' => e = .returned (.int .u64 (rPat p i u)) ∧ Below w.heap.size w w' := by
  have hc := refFromFloat_calls u h0 hx
  have L := lay1 w (.cells #[.bool p, .int .i64 i, .int .u64 u] 42)
  clear h0 hx
  cases p
  all_goals
    go_enter Try.func96, Try.ntmps96
    go_wp2_with (first | (go_at_call 109; refine (hc _).mono ?_; rintro e w' ⟨rfl, n, rfl⟩) | (go_at_call 34; refine (refFromInt_calls _ _).mono ?_; rintro e w' ⟨rfl, n, rfl⟩))
    go_ret
    exact ⟨rfl, ⟨L.os, L.tape, L.output, L.size, L.block⟩⟩

/-- The same pattern, or both no number. -/
def Like (x y : Int) : Prop := x = y ∨ (¬ Fl.isNum Fl.D x.toNat ∧ ¬ Fl.isNum Fl.D y.toNat)
theorem like_pat (p : Bool) (i u : Int) (h0 : 0 ≤ u) : Like (rPat p i u) (sPat p i u) := by
  cases p
  · by_cases h : Fl.isNum Fl.D u.toNat
    · exact .inl ((cbits_num h).trans (Int.toNat_of_nonneg h0))
    · have e : rPat false i u = 9221120237041090560 := cbits_nan h
      exact .inr ⟨by rw [e]; exact Fl.canon_nan, h⟩
  · exact .inl rfl
theorem like_add {x x' y y' : Int} (h : Like x x') (k : Like y y') : sAdd x y = sAdd x' y' := by
  unfold sAdd
  rcases h with rfl | ⟨h, h'⟩
  · rcases k with rfl | ⟨k, k'⟩
    · rfl
    · rw [Fl.dadd_nan k, Fl.dadd_nan k']
  · rw [Fl.dadd_nan' h, Fl.dadd_nan' h']
theorem like_mul {x x' y y' : Int} (h : Like x x') (k : Like y y') : sMul x y = sMul x' y' := by
  unfold sMul
  rcases h with rfl | ⟨h, h'⟩
  · rcases k with rfl | ⟨k, k'⟩
    · rfl
    · rw [Fl.dmul_nan k, Fl.dmul_nan k']
  · rw [Fl.dmul_nan' h, Fl.dmul_nan' h']
theorem like_div {x x' y y' : Int} (h : Like x x') (k : Like y y') : sDiv x y = sDiv x' y' := by
  unfold sDiv
  rcases h with rfl | ⟨h, h'⟩
  · rcases k with rfl | ⟨k, k'⟩
    · rfl
    · rw [Fl.ddiv_nan k, Fl.ddiv_nan k']
  · rw [Fl.ddiv_nan' h, Fl.ddiv_nan' h']
theorem dsub_nan {x y : Nat} (h : ¬ Fl.isNum Fl.D y) : Fl.dsub x y = Fl.canon := by
  obtain ⟨s, t, e⟩ := Fl.read_of_nan h
  unfold Fl.dsub Ieee.Format.sub; rw [e]; simp [Ieee.Datum.opposite, Fl.sum_nan, Fl.cb]
theorem like_sub {x x' y y' : Int} (h : Like x x') (k : Like y y') : sSub x y = sSub x' y' := by
  unfold sSub
  rcases h with rfl | ⟨h, h'⟩
  · rcases k with rfl | ⟨k, k'⟩
    · rfl
    · rw [dsub_nan k, dsub_nan k']
  · rw [Fl.dsub_nan' h, Fl.dsub_nan' h']

set_option maxHeartbeats 6400000 in
theorem refDiv_of (p q : Bool) (i u j v x y : Int) (ha : ∀ w, Calls Try.prog 96 #[numV p i u] w fun e w' => e = .returned (.int .u64 x) ∧ Below w.heap.size w w') (hb96 : ∀ w, Calls Try.prog 96 #[numV q j v] w fun e w' => e = .returned (.int .u64 y) ∧ Below w.heap.size w w') (w : World) :
    Calls Try.prog 78 #[numV p i u, numV q j v] w fun e w' => e = .returned (.tuple #[numV false 0 (sDiv x y), .int .i64 0]) ∧ Below w.heap.size w w' := by
  obtain ⟨A, B, C⟩ := boxes3 w p q i u j v
  have L := lay3 w (.cells #[.bool p, .int .i64 i, .int .u64 u] 42) (.cells #[.bool q, .int .i64 j, .int .u64 v] 42) (.cells #[.bool false, .int .i64 0, .int .u64 0] 42)
  obtain ⟨a0, a1, a2, _, _, _⟩ := A.cells
  obtain ⟨b0, b1, b2, _, _, _⟩ := B.cells
  obtain ⟨c0, c1, c2, c3, c4, c5⟩ := C.cells
  go_enter Try.func78, Try.ntmps78
  go_wp2_with fail
  go_region_held3 (fun w' => w'.cell? ⟨w.heap.size, 0, none⟩ = some (.bool p) ∧ w'.cell? ⟨w.heap.size, 1, none⟩ = some (.int .i64 i) ∧ w'.cell? ⟨w.heap.size, 2, none⟩ = some (.int .u64 u) ∧ w'.cell? ⟨w.heap.size + 1, 0, none⟩ = some (.bool q) ∧ w'.cell? ⟨w.heap.size + 1, 1, none⟩ = some (.int .i64 j) ∧ w'.cell? ⟨w.heap.size + 1, 2, none⟩ = some (.int .u64 v)) (first | exact ⟨a0, a1, a2, b0, b1, b2⟩ | exact ⟨a6, a7, a8, b6, b7, b8⟩ | go_keep) (first | (go_at_call 96; (first | (with_reducible refine (ha _).mono ?_) | (with_reducible refine (hb96 _).mono ?_)); rintro e w1 ⟨rfl, hb⟩; have A := A.step hb rfl; have B := B.step hb rfl; have C := C.step hb rfl; have L := bnext L hb rfl rfl rfl rfl; obtain ⟨a0, a1, a2, a3, a4, a5⟩ := A.cells; clear a3 a4 a5; obtain ⟨b0, b1, b2, b3, b4, b5⟩ := B.cells; clear b3 b4 b5; obtain ⟨c0, c1, c2, c3, c4, c5⟩ := C.cells; clear hb) | (go_at_call 48; refine (refDiv_calls _ _ _).mono ?_; rintro e w2 ⟨rfl, n, rfl⟩) | (go_at_call 95; refine (refDouble_calls _ _).mono ?_; rintro e w3 ⟨rfl, hb⟩; have A := A.step hb rfl; have B := B.step hb rfl; have C := C.step hb rfl; have L := bnext L hb rfl rfl rfl rfl; obtain ⟨a0, a1, a2, a3, a4, a5⟩ := A.cells; clear a3 a4 a5; obtain ⟨b0, b1, b2, b3, b4, b5⟩ := B.cells; clear b3 b4 b5; obtain ⟨c0, c1, c2, c3, c4, c5⟩ := C.cells; clear hb; have A' := A.putOther (k := w.heap.size + 1 + 1) (by omega) (.bool false) (.int .i64 0) (.int .u64 (sDiv x y)); have B' := B.putOther (k := w.heap.size + 1 + 1) (by omega) (.bool false) (.int .i64 0) (.int .u64 (sDiv x y)); obtain ⟨a6, a7, a8, _, _, _⟩ := A'.cells; obtain ⟨b6, b7, b8, _, _, _⟩ := B'.cells))
  all_goals
    go_wp2
    exact bodyPost_ret (v := .tuple #[numV false 0 (sDiv x y), .int .i64 0]) (by simp [results, Try.results78, go_sem, c0, c1, c2]) rfl ⟨rfl, set3 L 2 _ _ _⟩

end Go.Proofs.Ytieddikacnmhlaa

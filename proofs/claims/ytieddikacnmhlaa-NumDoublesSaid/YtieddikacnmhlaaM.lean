/- num's operations on any two numbers. -/
import Derived.Test.YtieddikacnmhlaaLAdd
import Derived.Test.YtieddikacnmhlaaLSub
import Derived.Test.YtieddikacnmhlaaLMul
import Derived.Test.YtieddikacnmhlaaLFloorDiv
import Derived.Test.YtieddikacnmhlaaLMod
namespace Go.Proofs.Ytieddikacnmhlaa
open Go.RowKit

/-- an answer: a number and an error's number -/
structure NR where
  b : Bool
  x : Int
  y : Int
  c : Int
def opN (r : Int × Int) : NR := if r.2 = 0 then ⟨true, r.1, 0, 0⟩ else ⟨false, 0, 0, r.2⟩

def nAdd (p q : Bool) (i u j v : Int) : NR := if p && q then opN (iAdd i j) else ⟨false, 0, sAdd (sPat p i u) (sPat q j v), 0⟩
set_option maxHeartbeats 1600000 in
theorem numAdd_of (p q b : Bool) (i u j v x y c : Int) (H : ∀ w, Calls Try.prog 89 #[numV p i u, numV q j v, .func (.func 90) #[] #[], .func (.func 41) #[] #[]] w fun e w' => e = .returned (.tuple #[numV b x y, .int .i64 c]) ∧ Below w.heap.size w w') (w : World) :
    Calls Try.prog 60 #[numV p i u, numV q j v] w fun e w' => e = .returned (.tuple #[numV b x y, .int .i64 c]) ∧ Below w.heap.size w w' := by
  obtain ⟨A, B, C⟩ := boxes3 w p q i u j v
  have L := lay3 w (.cells #[.bool p, .int .i64 i, .int .u64 u] 42) (.cells #[.bool q, .int .i64 j, .int .u64 v] 42) (.cells #[.bool false, .int .i64 0, .int .u64 0] 42)
  go_enter Try.func60, Try.ntmps60
  go_wp2_with (go_at_call 89; refine (H _).mono ?_; rintro e w1 ⟨rfl, hb⟩; have C := C.step hb rfl; have L := bnext L hb rfl rfl rfl rfl; obtain ⟨c0, c1, c2, c3, c4, c5⟩ := C.cells; clear hb)
  exact bodyPost_ret (v := .tuple #[numV b x y, .int .i64 c]) (by simp [results, Try.results60, go_sem, c0, c1, c2]) rfl ⟨rfl, set3 L 2 _ _ _⟩
theorem numAdd_calls (p q : Bool) (i u j v : Int) (hi : fits i) (hj : fits j) (w : World) :
    Calls Try.prog 60 #[numV p i u, numV q j v] w fun e w' => e = .returned (.tuple #[numV (nAdd p q i u j v).b (nAdd p q i u j v).x (nAdd p q i u j v).y, .int .i64 (nAdd p q i u j v).c]) ∧ Below w.heap.size w w' := by
  by_cases hpq : (p && q) = true
  · obtain ⟨rfl, rfl⟩ : p = true ∧ q = true := by simpa using hpq
    have e : nAdd true true i u j v = opN (iAdd i j) := rfl
    have hc := addI_calls i j hi hj
    rw [e]
    generalize iAdd i j = r at hc
    obtain ⟨x, c⟩ := r
    by_cases h0 : c = 0
    · subst h0
      exact numAdd_of true true true i u j v x 0 0 (doneAdd_ok i j u v x hc) w
    · have e2 : opN (x, c) = ⟨false, 0, 0, c⟩ := by unfold opN; rw [if_neg h0]
      rw [e2]
      refine numAdd_of true true false i u j v 0 0 c (doneAdd_err' i j u v x c (by rw [bne_iff_ne]; exact h0) hc) w
  · have e : nAdd p q i u j v = ⟨false, 0, sAdd (sPat p i u) (sPat q j v), 0⟩ := by unfold nAdd; rw [if_neg hpq]
    rw [e]
    refine numAdd_of p q false i u j v 0 _ 0 (doneAdd_dbl p q i u j v _ ?_ (softAdd_calls _ _)) w
    cases p <;> cases q <;> first | rfl | exact absurd rfl hpq

def nSub (p q : Bool) (i u j v : Int) : NR := if p && q then opN (iSub i j) else ⟨false, 0, sSub (sPat p i u) (sPat q j v), 0⟩
set_option maxHeartbeats 1600000 in
theorem numSub_of (p q b : Bool) (i u j v x y c : Int) (H : ∀ w, Calls Try.prog 89 #[numV p i u, numV q j v, .func (.func 104) #[] #[], .func (.func 44) #[] #[]] w fun e w' => e = .returned (.tuple #[numV b x y, .int .i64 c]) ∧ Below w.heap.size w w') (w : World) :
    Calls Try.prog 73 #[numV p i u, numV q j v] w fun e w' => e = .returned (.tuple #[numV b x y, .int .i64 c]) ∧ Below w.heap.size w w' := by
  obtain ⟨A, B, C⟩ := boxes3 w p q i u j v
  have L := lay3 w (.cells #[.bool p, .int .i64 i, .int .u64 u] 42) (.cells #[.bool q, .int .i64 j, .int .u64 v] 42) (.cells #[.bool false, .int .i64 0, .int .u64 0] 42)
  go_enter Try.func73, Try.ntmps73
  go_wp2_with (go_at_call 89; refine (H _).mono ?_; rintro e w1 ⟨rfl, hb⟩; have C := C.step hb rfl; have L := bnext L hb rfl rfl rfl rfl; obtain ⟨c0, c1, c2, c3, c4, c5⟩ := C.cells; clear hb)
  exact bodyPost_ret (v := .tuple #[numV b x y, .int .i64 c]) (by simp [results, Try.results73, go_sem, c0, c1, c2]) rfl ⟨rfl, set3 L 2 _ _ _⟩
theorem numSub_calls (p q : Bool) (i u j v : Int) (hi : fits i) (hj : fits j) (w : World) :
    Calls Try.prog 73 #[numV p i u, numV q j v] w fun e w' => e = .returned (.tuple #[numV (nSub p q i u j v).b (nSub p q i u j v).x (nSub p q i u j v).y, .int .i64 (nSub p q i u j v).c]) ∧ Below w.heap.size w w' := by
  by_cases hpq : (p && q) = true
  · obtain ⟨rfl, rfl⟩ : p = true ∧ q = true := by simpa using hpq
    have e : nSub true true i u j v = opN (iSub i j) := rfl
    have hc := subI_calls i j hi hj
    rw [e]
    generalize iSub i j = r at hc
    obtain ⟨x, c⟩ := r
    by_cases h0 : c = 0
    · subst h0
      exact numSub_of true true true i u j v x 0 0 (doneSub_ok i j u v x hc) w
    · have e2 : opN (x, c) = ⟨false, 0, 0, c⟩ := by unfold opN; rw [if_neg h0]
      rw [e2]
      refine numSub_of true true false i u j v 0 0 c (doneSub_err' i j u v x c (by rw [bne_iff_ne]; exact h0) hc) w
  · have e : nSub p q i u j v = ⟨false, 0, sSub (sPat p i u) (sPat q j v), 0⟩ := by unfold nSub; rw [if_neg hpq]
    rw [e]
    refine numSub_of p q false i u j v 0 _ 0 (doneSub_dbl p q i u j v _ ?_ (softSub_calls _ _)) w
    cases p <;> cases q <;> first | rfl | exact absurd rfl hpq

def nMul (p q : Bool) (i u j v : Int) : NR := if p && q then opN (iMul i j) else ⟨false, 0, sMul (sPat p i u) (sPat q j v), 0⟩
set_option maxHeartbeats 1600000 in
theorem numMul_of (p q b : Bool) (i u j v x y c : Int) (H : ∀ w, Calls Try.prog 89 #[numV p i u, numV q j v, .func (.func 91) #[] #[], .func (.func 42) #[] #[]] w fun e w' => e = .returned (.tuple #[numV b x y, .int .i64 c]) ∧ Below w.heap.size w w') (w : World) :
    Calls Try.prog 62 #[numV p i u, numV q j v] w fun e w' => e = .returned (.tuple #[numV b x y, .int .i64 c]) ∧ Below w.heap.size w w' := by
  obtain ⟨A, B, C⟩ := boxes3 w p q i u j v
  have L := lay3 w (.cells #[.bool p, .int .i64 i, .int .u64 u] 42) (.cells #[.bool q, .int .i64 j, .int .u64 v] 42) (.cells #[.bool false, .int .i64 0, .int .u64 0] 42)
  go_enter Try.func62, Try.ntmps62
  go_wp2_with (go_at_call 89; refine (H _).mono ?_; rintro e w1 ⟨rfl, hb⟩; have C := C.step hb rfl; have L := bnext L hb rfl rfl rfl rfl; obtain ⟨c0, c1, c2, c3, c4, c5⟩ := C.cells; clear hb)
  exact bodyPost_ret (v := .tuple #[numV b x y, .int .i64 c]) (by simp [results, Try.results62, go_sem, c0, c1, c2]) rfl ⟨rfl, set3 L 2 _ _ _⟩
theorem numMul_calls (p q : Bool) (i u j v : Int) (hi : fits i) (hj : fits j) (w : World) :
    Calls Try.prog 62 #[numV p i u, numV q j v] w fun e w' => e = .returned (.tuple #[numV (nMul p q i u j v).b (nMul p q i u j v).x (nMul p q i u j v).y, .int .i64 (nMul p q i u j v).c]) ∧ Below w.heap.size w w' := by
  by_cases hpq : (p && q) = true
  · obtain ⟨rfl, rfl⟩ : p = true ∧ q = true := by simpa using hpq
    have e : nMul true true i u j v = opN (iMul i j) := rfl
    have hc := mulI_calls i j hi hj
    rw [e]
    generalize iMul i j = r at hc
    obtain ⟨x, c⟩ := r
    by_cases h0 : c = 0
    · subst h0
      exact numMul_of true true true i u j v x 0 0 (doneMul_ok i j u v x hc) w
    · have e2 : opN (x, c) = ⟨false, 0, 0, c⟩ := by unfold opN; rw [if_neg h0]
      rw [e2]
      refine numMul_of true true false i u j v 0 0 c (doneMul_err' i j u v x c (by rw [bne_iff_ne]; exact h0) hc) w
  · have e : nMul p q i u j v = ⟨false, 0, sMul (sPat p i u) (sPat q j v), 0⟩ := by unfold nMul; rw [if_neg hpq]
    rw [e]
    refine numMul_of p q false i u j v 0 _ 0 (doneMul_dbl p q i u j v _ ?_ (softMul_calls _ _)) w
    cases p <;> cases q <;> first | rfl | exact absurd rfl hpq

def nFloorDiv (p q : Bool) (i u j v : Int) : NR := if p && q then opN (iDiv i j) else ⟨false, 0, sFloorDiv (sPat p i u) (sPat q j v), 0⟩
set_option maxHeartbeats 1600000 in
theorem numFloorDiv_of (p q b : Bool) (i u j v x y c : Int) (H : ∀ w, Calls Try.prog 89 #[numV p i u, numV q j v, .func (.func 92) #[] #[], .func (.func 94) #[] #[]] w fun e w' => e = .returned (.tuple #[numV b x y, .int .i64 c]) ∧ Below w.heap.size w w') (w : World) :
    Calls Try.prog 67 #[numV p i u, numV q j v] w fun e w' => e = .returned (.tuple #[numV b x y, .int .i64 c]) ∧ Below w.heap.size w w' := by
  obtain ⟨A, B, C⟩ := boxes3 w p q i u j v
  have L := lay3 w (.cells #[.bool p, .int .i64 i, .int .u64 u] 42) (.cells #[.bool q, .int .i64 j, .int .u64 v] 42) (.cells #[.bool false, .int .i64 0, .int .u64 0] 42)
  go_enter Try.func67, Try.ntmps67
  go_wp2_with (go_at_call 89; refine (H _).mono ?_; rintro e w1 ⟨rfl, hb⟩; have C := C.step hb rfl; have L := bnext L hb rfl rfl rfl rfl; obtain ⟨c0, c1, c2, c3, c4, c5⟩ := C.cells; clear hb)
  exact bodyPost_ret (v := .tuple #[numV b x y, .int .i64 c]) (by simp [results, Try.results67, go_sem, c0, c1, c2]) rfl ⟨rfl, set3 L 2 _ _ _⟩
theorem numFloorDiv_calls (p q : Bool) (i u j v : Int) (hi : fits i) (_ : fits j) (w : World) :
    Calls Try.prog 67 #[numV p i u, numV q j v] w fun e w' => e = .returned (.tuple #[numV (nFloorDiv p q i u j v).b (nFloorDiv p q i u j v).x (nFloorDiv p q i u j v).y, .int .i64 (nFloorDiv p q i u j v).c]) ∧ Below w.heap.size w w' := by
  by_cases hpq : (p && q) = true
  · obtain ⟨rfl, rfl⟩ : p = true ∧ q = true := by simpa using hpq
    have e : nFloorDiv true true i u j v = opN (iDiv i j) := rfl
    have hc := divI_calls i j hi
    rw [e]
    generalize iDiv i j = r at hc
    obtain ⟨x, c⟩ := r
    by_cases h0 : c = 0
    · subst h0
      exact numFloorDiv_of true true true i u j v x 0 0 (doneFloorDiv_ok i j u v x hc) w
    · have e2 : opN (x, c) = ⟨false, 0, 0, c⟩ := by unfold opN; rw [if_neg h0]
      rw [e2]
      refine numFloorDiv_of true true false i u j v 0 0 c (doneFloorDiv_err' i j u v x c (by rw [bne_iff_ne]; exact h0) hc) w
  · have e : nFloorDiv p q i u j v = ⟨false, 0, sFloorDiv (sPat p i u) (sPat q j v), 0⟩ := by unfold nFloorDiv; rw [if_neg hpq]
    rw [e]
    refine numFloorDiv_of p q false i u j v 0 _ 0 (doneFloorDiv_dbl p q i u j v _ ?_ (floorDivD_calls _ _)) w
    cases p <;> cases q <;> first | rfl | exact absurd rfl hpq

def nMod (p q : Bool) (i u j v : Int) : NR := if p && q then opN (iMod i j) else ⟨false, 0, sMod (sPat p i u) (sPat q j v), 0⟩
set_option maxHeartbeats 1600000 in
theorem numMod_of (p q b : Bool) (i u j v x y c : Int) (H : ∀ w, Calls Try.prog 89 #[numV p i u, numV q j v, .func (.func 100) #[] #[], .func (.func 101) #[] #[]] w fun e w' => e = .returned (.tuple #[numV b x y, .int .i64 c]) ∧ Below w.heap.size w w') (w : World) :
    Calls Try.prog 69 #[numV p i u, numV q j v] w fun e w' => e = .returned (.tuple #[numV b x y, .int .i64 c]) ∧ Below w.heap.size w w' := by
  obtain ⟨A, B, C⟩ := boxes3 w p q i u j v
  have L := lay3 w (.cells #[.bool p, .int .i64 i, .int .u64 u] 42) (.cells #[.bool q, .int .i64 j, .int .u64 v] 42) (.cells #[.bool false, .int .i64 0, .int .u64 0] 42)
  go_enter Try.func69, Try.ntmps69
  go_wp2_with (go_at_call 89; refine (H _).mono ?_; rintro e w1 ⟨rfl, hb⟩; have C := C.step hb rfl; have L := bnext L hb rfl rfl rfl rfl; obtain ⟨c0, c1, c2, c3, c4, c5⟩ := C.cells; clear hb)
  exact bodyPost_ret (v := .tuple #[numV b x y, .int .i64 c]) (by simp [results, Try.results69, go_sem, c0, c1, c2]) rfl ⟨rfl, set3 L 2 _ _ _⟩
theorem numMod_calls (p q : Bool) (i u j v : Int) (_ : fits i) (hj : fits j) (w : World) :
    Calls Try.prog 69 #[numV p i u, numV q j v] w fun e w' => e = .returned (.tuple #[numV (nMod p q i u j v).b (nMod p q i u j v).x (nMod p q i u j v).y, .int .i64 (nMod p q i u j v).c]) ∧ Below w.heap.size w w' := by
  by_cases hpq : (p && q) = true
  · obtain ⟨rfl, rfl⟩ : p = true ∧ q = true := by simpa using hpq
    have e : nMod true true i u j v = opN (iMod i j) := rfl
    have hc := modI_calls i j hj
    rw [e]
    generalize iMod i j = r at hc
    obtain ⟨x, c⟩ := r
    by_cases h0 : c = 0
    · subst h0
      exact numMod_of true true true i u j v x 0 0 (doneMod_ok i j u v x hc) w
    · have e2 : opN (x, c) = ⟨false, 0, 0, c⟩ := by unfold opN; rw [if_neg h0]
      rw [e2]
      refine numMod_of true true false i u j v 0 0 c (doneMod_err' i j u v x c (by rw [bne_iff_ne]; exact h0) hc) w
  · have e : nMod p q i u j v = ⟨false, 0, sMod (sPat p i u) (sPat q j v), 0⟩ := by unfold nMod; rw [if_neg hpq]
    rw [e]
    refine numMod_of p q false i u j v 0 _ 0 (doneMod_dbl p q i u j v _ ?_ (modD_calls _ _)) w
    cases p <;> cases q <;> first | rfl | exact absurd rfl hpq
end Go.Proofs.Ytieddikacnmhlaa

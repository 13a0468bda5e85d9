/- The printed contracts of ToHandle (began as the text that print.sh wrote). -/
import Derived.Test.YtpoedalbgcpgjaaPWordClassesx0
import Derived.Test.YtpoedalbgcpgjaaPWordClassesx1
import Derived.Test.YtpoedalbgcpgjaaWC2
namespace Go.Proofs.Ytpoedalbgcpgjaa.PWordClasses
open Go.RowKit Go.Proofs.YtpoedalbgcpgjaaW.PrintWords Go.Proofs.YtpoedalbgcpgjaaW.PrintLast Go.Proofs.YtpoedalbgcpgjaaW.PrintMore
attribute [local go_sem] max2_int min2_int max_two min_two max_three min_three max_four min_four   -- for this text's walks alone
set_option linter.unusedVariables false
set_option linter.unusedSimpArgs false

/-! ### word_ToHandle: function 41 -/
def word_ToHandle.f (k : Nat) (a0 : Int) : Option (Int × Bool) := (word_Class.f k a0).bind fun t130 => (if t130 = 6 then (some (Go.bits .and .u64 a0 281474976710655, true)) else (some (0, false)))
theorem word_ToHandle.mono : ∀ a0 k, LeO (word_ToHandle.f k a0) (word_ToHandle.f (k + 1) a0) := by
  intro a0 k
  unfold word_ToHandle.f
  repeat' first
      | (with_reducible exact word_Class.mono _ _)
      | (with_reducible exact LeO.refl _)
      | (with_reducible exact LeO.none _)
      | (with_reducible refine LeO.ite ?_ ?_)
      | (with_reducible refine LeO.bind ?_ (fun _ => ?_))
      | exact word_Class.mono _ _
      | exact LeO.none _
      | refine LeO.ite ?_ ?_
      | refine LeO.bind ?_ (fun _ => ?_)
set_option maxHeartbeats 8000000 in
set_option maxRecDepth 100000 in
theorem word_ToHandle.calls (k : Nat) (a0 : Int) (r1 : Int) (r2 : Bool) (w : World) (h : word_ToHandle.f k a0 = some (r1, r2)) :
    Calls Try.prog 41 #[.int .u64 a0] w fun e w' => e = .returned (.tuple #[.int .u64 r1, .bool r2]) ∧ Drawn0 w w' := by
  have H : ((word_Class.f k a0).bind fun t130 => (if t130 = 6 then (some (Go.bits .and .u64 a0 281474976710655, true)) else (some (0, false)))) = some (r1, r2) := h
  clear h
  replace H := Option.bind_eq_some_iff.mp H
  obtain ⟨t130, A20, H⟩ := H
  replace H : (if t130 = 6 then (some (Go.bits .and .u64 a0 281474976710655, true)) else (some (0, false))) = some (r1, r2) := H
  have A2 := Aside0.mk A20
  clear A20
  by_cases c3 : t130 = 6
  · rw [if_pos c3] at H
    have c3b0 : (t130 == 6) = true := beq_iff_eq.mpr c3
    have c3b1 : (t130 != 6) = false := bne_eq_false_iff_eq.mpr c3
    clear c3
    simp only [Option.some.injEq, Prod.mk.injEq] at H
    obtain ⟨rfl, rfl⟩ := H
    go_enter Try.func41, Try.ntmps41
    go_wp2_with (first | ((with_reducible refine gate_callee (f := 14) rfl ?_); refine goesL_ (some 5) rfl rfl Try.func14 (by kernel_rfl) rfl #[.int .u64 a0] rfl (by (try simp only [List.map_toArray, List.map_cons, List.map_nil]); first | done | rfl | (simp only [List.length_drop, List.length_take]; rfl)) ?_; (with_reducible refine (word_Class.calls k a0 t130 _ A2.out).mono ?_); rintro e w' ⟨rfl, ⟨nd, rfl⟩⟩; refine ⟨_, rfl, ?_⟩))
    go_ret2
    exact ⟨by first | rfl | (simp; done) | (simp [*]; done), by repeat (first | exact Drawn0.refl _ | apply Drawn0.step)⟩
  · rw [if_neg c3] at H
    have c3b0 : (t130 == 6) = false := beq_eq_false_iff_ne.mpr c3
    have c3b1 : (t130 != 6) = true := bne_iff_ne.mpr c3
    simp only [Option.some.injEq, Prod.mk.injEq] at H
    obtain ⟨rfl, rfl⟩ := H
    go_enter Try.func41, Try.ntmps41
    go_wp2_with (first | ((with_reducible refine gate_callee (f := 14) rfl ?_); refine goesL_ (some 5) rfl rfl Try.func14 (by kernel_rfl) rfl #[.int .u64 a0] rfl (by (try simp only [List.map_toArray, List.map_cons, List.map_nil]); first | done | rfl | (simp only [List.length_drop, List.length_take]; rfl)) ?_; (with_reducible refine (word_Class.calls k a0 t130 _ A2.out).mono ?_); rintro e w' ⟨rfl, ⟨nd, rfl⟩⟩; refine ⟨_, rfl, ?_⟩))
    go_ret2
    exact ⟨by first | rfl | (simp; done) | (simp [*]; done), by repeat (first | exact Drawn0.refl _ | apply Drawn0.step)⟩

/-! ### casketref1_ToHandle: function 42 -/
def casketref1_ToHandle.f (k : Nat) (a0 : Int) : Option (Int × Bool) := (casketref1_Class.f k a0).bind fun t131 => (if t131 = 6 then (some (Int.tmod a0 281474976710656, true)) else (some (0, false)))
theorem casketref1_ToHandle.mono : ∀ a0 k, LeO (casketref1_ToHandle.f k a0) (casketref1_ToHandle.f (k + 1) a0) := by
  intro a0 k
  unfold casketref1_ToHandle.f
  repeat' first
      | (with_reducible exact casketref1_Class.mono _ _)
      | (with_reducible exact LeO.refl _)
      | (with_reducible exact LeO.none _)
      | (with_reducible refine LeO.ite ?_ ?_)
      | (with_reducible refine LeO.bind ?_ (fun _ => ?_))
      | exact casketref1_Class.mono _ _
      | exact LeO.none _
      | refine LeO.ite ?_ ?_
      | refine LeO.bind ?_ (fun _ => ?_)
set_option maxHeartbeats 8000000 in
set_option maxRecDepth 100000 in
theorem casketref1_ToHandle.calls (k : Nat) (a0 : Int) (r1 : Int) (r2 : Bool) (w : World) (h : casketref1_ToHandle.f k a0 = some (r1, r2)) :
    Calls Try.prog 42 #[.int .u64 a0] w fun e w' => e = .returned (.tuple #[.int .u64 r1, .bool r2]) ∧ Drawn0 w w' := by
  have H : ((casketref1_Class.f k a0).bind fun t131 => (if t131 = 6 then (some (Int.tmod a0 281474976710656, true)) else (some (0, false)))) = some (r1, r2) := h
  clear h
  replace H := Option.bind_eq_some_iff.mp H
  obtain ⟨t131, A20, H⟩ := H
  replace H : (if t131 = 6 then (some (Int.tmod a0 281474976710656, true)) else (some (0, false))) = some (r1, r2) := H
  have A2 := Aside0.mk A20
  clear A20
  by_cases c3 : t131 = 6
  · rw [if_pos c3] at H
    have c3b0 : (t131 == 6) = true := beq_iff_eq.mpr c3
    have c3b1 : (t131 != 6) = false := bne_eq_false_iff_eq.mpr c3
    clear c3
    simp only [Option.some.injEq, Prod.mk.injEq] at H
    obtain ⟨rfl, rfl⟩ := H
    go_enter Try.func42, Try.ntmps42
    go_wp2_with (first | ((with_reducible refine gate_callee (f := 34) rfl ?_); refine goesL_ (some 5) rfl rfl Try.func34 (by kernel_rfl) rfl #[.int .u64 a0] rfl (by (try simp only [List.map_toArray, List.map_cons, List.map_nil]); first | done | rfl | (simp only [List.length_drop, List.length_take]; rfl)) ?_; (with_reducible refine (casketref1_Class.calls k a0 t131 _ A2.out).mono ?_); rintro e w' ⟨rfl, ⟨nd, rfl⟩⟩; refine ⟨_, rfl, ?_⟩))
    go_ret2
    exact ⟨by first | rfl | (simp; done) | (simp [*]; done), by repeat (first | exact Drawn0.refl _ | apply Drawn0.step)⟩
  · rw [if_neg c3] at H
    have c3b0 : (t131 == 6) = false := beq_eq_false_iff_ne.mpr c3
    have c3b1 : (t131 != 6) = true := bne_iff_ne.mpr c3
    simp only [Option.some.injEq, Prod.mk.injEq] at H
    obtain ⟨rfl, rfl⟩ := H
    go_enter Try.func42, Try.ntmps42
    go_wp2_with (first | ((with_reducible refine gate_callee (f := 34) rfl ?_); refine goesL_ (some 5) rfl rfl Try.func34 (by kernel_rfl) rfl #[.int .u64 a0] rfl (by (try simp only [List.map_toArray, List.map_cons, List.map_nil]); first | done | rfl | (simp only [List.length_drop, List.length_take]; rfl)) ?_; (with_reducible refine (casketref1_Class.calls k a0 t131 _ A2.out).mono ?_); rintro e w' ⟨rfl, ⟨nd, rfl⟩⟩; refine ⟨_, rfl, ?_⟩))
    go_ret2
    exact ⟨by first | rfl | (simp; done) | (simp [*]; done), by repeat (first | exact Drawn0.refl _ | apply Drawn0.step)⟩

-- NOT PRINTED: function 9 (casketlaw1_WordClasses)

end Go.Proofs.Ytpoedalbgcpgjaa.PWordClasses

/- Quotient and rest put together; the rest has the divisor's sign, and is less. -/
import Derived.Test.YtieddikacnmhlaaT
namespace Go.Proofs.Ytieddikacnmhlaa
open Go.RowKit

set_option maxRecDepth 100000 in
set_option maxHeartbeats 6400000 in
theorem numRests_of (a b : Int) (qb rb : Bool) (qx qy qc rx ry rc : Int) (w : World)
    (h1 : ∀ w, Calls Try.prog 67 #[numV true a 0, numV true b 0] w fun e w' => e = .returned (.tuple #[numV qb qx qy, .int .i64 qc]) ∧ Below w.heap.size w w')
    (h2 : ∀ w, Calls Try.prog 69 #[numV true a 0, numV true b 0] w fun e w' => e = .returned (.tuple #[numV rb rx ry, .int .i64 rc]) ∧ Below w.heap.size w w')
    (hs : ((b == 0) = true ∧ (qc == 11) = true ∧ (rc == 11) = true) ∨
      ((b == 0) = false ∧ (a == -9223372036854775808) = true ∧ (b == -1) = true ∧ (qc == 10) = true ∧ (rc == 0) = true ∧ rb = true ∧ rx = 0 ∧ ry = 0) ∨
      ((b == 0) = false ∧ ((a == -9223372036854775808) = false ∨ (a == -9223372036854775808) = true ∧ (b == -1) = false) ∧ (qc != 0) = false ∧ (rc != 0) = false ∧ qb = true ∧ rb = true ∧ (wrap64 (wrap64 (qx * b) + rx) != a) = false ∧
        ((decide (0 < b) = true ∧ decide (0 ≤ rx) = true ∧ decide (rx < b) = true) ∨ (decide (0 < b) = false ∧ decide (rx ≤ 0) = true ∧ decide (b < rx) = true)))) :
    Calls Try.prog 19 #[.int .i64 a, .int .i64 b] w fun e w' => e = .returned (.bool true) ∧ Below w.heap.size w w' := by
  have L := Below.refl w.heap.size w
  go_enter Try.func19, Try.ntmps19
  go_wp2_with fail
  refine (lawWhole_calls _ _).mono ?_
  rintro e w1 ⟨rfl, hb⟩
  have L := bnext L hb rfl rfl rfl rfl
  clear hb
  go_wp2_with fail
  refine (lawWhole_calls _ _).mono ?_
  rintro e w2 ⟨rfl, hb⟩
  have L := bnext L hb rfl rfl rfl rfl
  clear hb
  go_wp2_with fail
  refine (h1 _).mono ?_
  rintro e w3 ⟨rfl, hb⟩
  have L := balloc (bnext L hb rfl rfl rfl rfl) (bnext L hb rfl rfl rfl rfl).size (.cells #[.bool qb, .int .i64 qx, .int .u64 qy] 42)
  have Q := Box.new w3 qb qx qy
  clear hb
  go_wp2_with fail
  refine (lawWhole_calls _ _).mono ?_
  rintro e w4 ⟨rfl, hb⟩
  have L := bnext L hb rfl rfl rfl rfl
  have Q := Q.step hb rfl
  clear hb
  go_wp2_with fail
  refine (lawWhole_calls _ _).mono ?_
  rintro e w5 ⟨rfl, hb⟩
  have L := bnext L hb rfl rfl rfl rfl
  have Q := Q.step hb rfl
  clear hb
  go_wp2_with fail
  refine (h2 _).mono ?_
  rintro e w6 ⟨rfl, hb⟩
  have L := balloc (bnext L hb rfl rfl rfl rfl) (bnext L hb rfl rfl rfl rfl).size (.cells #[.bool rb, .int .i64 rx, .int .u64 ry] 42)
  have Q := (Q.step hb rfl).alloc (.cells #[.bool rb, .int .i64 rx, .int .u64 ry] 42)
  have R := Box.new w6 rb rx ry
  clear hb
  obtain ⟨q0, q1, q2, _, _, _⟩ := Q.cells
  obtain ⟨r0, r1, r2, _, _, _⟩ := R.cells
  rcases hs with ⟨t1, t2, t3⟩ | ⟨t1, t2, t3, t4, t5, rfl, rfl, rfl⟩ | ⟨t1, t2, t3, t4, rfl, rfl, t5, t6⟩
  · skip
    go_wp2_with fail
    refine (lawAwake_calls _).mono ?_
    rintro e w7 ⟨rfl, hb⟩
    have L := bnext L hb rfl rfl rfl rfl
    clear hb
    go_wp2
    go_ret
    exact ⟨by first | rfl | simp, ⟨L.os, L.tape, L.output, L.size, L.block⟩⟩
  · go_wp2_with fail
    go_region_with (first | (go_at_call 61; refine (lawWhole_calls _ _).mono ?_; rintro e w8 ⟨rfl, hb⟩; have L := bnext L hb rfl rfl rfl rfl; have R := R.step hb rfl; clear hb; obtain ⟨r0, r1, r2, _, _, _⟩ := R.cells) | (go_at_call 58; refine (lawAwake_calls _).mono ?_; rintro e w9 ⟨rfl, hb⟩; have L := bnext L hb rfl rfl rfl rfl; have R := R.step hb rfl; clear hb; obtain ⟨r0, r1, r2, _, _, _⟩ := R.cells))
    all_goals
      go_wp2
      go_ret
      exact ⟨by first | rfl | simp, ⟨L.os, L.tape, L.output, L.size, L.block⟩⟩
  · rcases t2 with t2 | ⟨t2, t7⟩ <;> rcases t6 with ⟨t6, t8, t9⟩ | ⟨t6, t8, t9⟩
    all_goals
      go_wp2_with fail
      refine (lawAwake_calls _).mono ?_
      rintro e w10 ⟨rfl, hb⟩
      have L := bnext L hb rfl rfl rfl rfl
      clear hb
      go_wp2
      go_ret
      exact ⟨by first | rfl | simp, ⟨L.os, L.tape, L.output, L.size, L.block⟩⟩

theorem numRests_walk (a b : Int) (w : World) (wa : (Lit.int .i64 a).wf = true) (wb : (Lit.int .i64 b).wf = true) :
    Calls Try.prog 19 #[.int .i64 a, .int .i64 b] w fun e w' => e = .returned (.bool true) ∧ Below w.heap.size w w' := by
  have ha : fits a := i64_range wa
  have hb : fits b := i64_range wb
  by_cases c : b = 0
  · subst c
    exact numRests_of a 0 _ _ _ _ 11 _ _ 11 w (div_zero a ha 0 0) (mod_zero a ha 0 0) (.inl ⟨rfl, rfl, rfl⟩)
  · have c0 : (b == 0) = false := beq_eq_false_iff_ne.2 c
    by_cases s : a = -9223372036854775808 ∧ b = -1
    · obtain ⟨rfl, rfl⟩ := s
      exact numRests_of _ _ _ true _ _ 10 0 0 0 w (div_err ha hb c (by decide) 0 0) (mod_ok ha hb c 0 0) (.inr (.inl ⟨rfl, rfl, rfl, rfl, rfl, rfl, rfl, rfl⟩))
    · have hq := (fits_quot ha c s).2
      obtain ⟨f1, f2⟩ := rests_facts ha c hq
      refine numRests_of a b true true (a.fdiv b) 0 0 (a.fmod b) 0 0 w (div_ok ha hb c hq 0 0) (mod_ok ha hb c 0 0) (.inr (.inr ⟨c0, ?_, rfl, rfl, rfl, rfl, f1, f2⟩))
      by_cases m : a = -9223372036854775808
      · exact .inr ⟨beq_iff_eq.2 m, beq_eq_false_iff_ne.2 (fun e => s ⟨m, e⟩)⟩
      · exact .inl (beq_eq_false_iff_ne.2 m)
end Go.Proofs.Ytieddikacnmhlaa

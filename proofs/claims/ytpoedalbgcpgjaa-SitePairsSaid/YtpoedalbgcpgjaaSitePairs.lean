/- Pair of any two words is the document's, either way round. For every input; no condition. -/
import Derived.Test.YtpoedalbgcpgjaaRSitePairs
import Derived.Test.YtpoedalbgcpgjaaLSitePairs
import Derived.Test.YtpoedalbgcpgjaaSD
namespace Go.Proofs.Ytpoedalbgcpgjaa
open Go.RowKit Go.Proofs.YtpoedalbgcpgjaaW.PrintWords
set_option linter.unusedVariables false
set_option linter.unusedSimpArgs false

theorem drawn0_below {w w' : World} (h : Drawn0 w w') : Below w.heap.size w w' := by
  obtain ⟨n, rfl⟩ := h.out
  exact ⟨rfl, rfl, rfl, Nat.le_refl _, fun _ _ => rfl⟩
/-- 14.1 -/
def pairV (a b : Int) : Int := if Bits.cls a = Bits.cls b then (if Bits.cls a = 2 then 1 else if Bits.cls a = 1 then 2 else 0) else 0
theorem pairV_comm (a b : Int) : pairV b a = pairV a b := by
  unfold pairV
  by_cases h : Bits.cls a = Bits.cls b
  · rw [if_pos h, if_pos h.symm, h]
  · rw [if_neg h, if_neg (fun q => h q.symm)]
theorem pair_calls {a b : Int} (ha : 0 ≤ a ∧ a < 18446744073709551616) (hb : 0 ≤ b ∧ b < 18446744073709551616) (w : World) :
    Calls Try.prog 28 #[.int .u64 a, .int .u64 b] w fun e w' => e = .returned (.int .i64 (pairV a b)) ∧ Below w.heap.size w w' := by
  refine (PSitePairs.site_Pair.calls 8 a b (pairV a b) w ?_).mono ?_
  · unfold PSitePairs.site_Pair.f pairV
    rw [PSitePairs.class_f 7 ha.1 ha.2, PSitePairs.class_f 7 hb.1 hb.2]
    simp only [Option.bind_some]
    split <;> (try split) <;> (try split) <;> rfl
  · rintro e w' ⟨rfl, h⟩
    exact ⟨rfl, drawn0_below h⟩
theorem refPair_calls {a b : Int} (ha : 0 ≤ a ∧ a < 18446744073709551616) (hb : 0 ≤ b ∧ b < 18446744073709551616) (w : World) :
    Calls Try.prog 29 #[.int .u64 a, .int .u64 b] w fun e w' => e = .returned (.int .i64 (pairV a b)) ∧ Below w.heap.size w w' := by
  refine (PSitePairs.casketref14_Pair.calls 60 a b (pairV a b) w ?_).mono ?_
  · unfold PSitePairs.casketref14_Pair.f pairV
    rw [PSitePairs.refClass_f 60 (by decide) ha.1 ha.2, PSitePairs.refClass_f 60 (by decide) hb.1 hb.2]
    simp only [Option.bind_some, PSitePairs.casketref14_Pair.j0]
    generalize Bits.cls a = x
    generalize Bits.cls b = y
    by_cases c1 : x = 2
    · subst c1
      by_cases c2 : y = 2
      · subst c2; rfl
      · rw [if_pos rfl, show (y == 2) = false from beq_eq_false_iff_ne.2 c2, if_neg (by decide), if_neg (by decide), if_neg (fun q => c2 q.symm)]
    · rw [if_neg c1, if_neg (by decide)]
      by_cases c3 : x = 1
      · subst c3
        by_cases c4 : y = 1
        · subst c4; rfl
        · rw [if_pos rfl, if_neg c4, if_neg (fun q => c4 q.symm)]
      · rw [if_neg c3]; split <;> (try rw [if_neg c1]) <;> (try rw [if_neg c3]) <;> rfl
  · rintro e w' ⟨rfl, h⟩
    exact ⟨rfl, drawn0_below h⟩

theorem sitePairs_walk (a b : Int) (w : World) (wa : (Lit.int .u64 a).wf = true) (wb : (Lit.int .u64 b).wf = true) :
    Calls Try.prog 7 #[.int .u64 a, .int .u64 b] w fun e w' => e = .returned (.bool true) ∧ Below w.heap.size w w' := by
  have ha := Bits.u64_range wa
  have hb := Bits.u64_range wb
  have h1 := fun w => pair_calls ha hb w
  have h2 := fun w => refPair_calls ha hb w
  have h3 := fun w => pair_calls hb ha w
  rw [pairV_comm] at h3
  generalize pairV a b = v at *
  have q : (v == v) = true := beq_self_eq_true v
  have L := Below.refl w.heap.size w
  go_enter Try.func7, Try.ntmps7
  go_wp2_with fail
  refine (h1 _).mono ?_
  rintro e w1 ⟨rfl, hb⟩
  have L := bnext L hb rfl rfl rfl rfl
  clear hb
  go_wp2_with fail
  refine (h2 _).mono ?_
  rintro e w2 ⟨rfl, hb⟩
  have L := bnext L hb rfl rfl rfl rfl
  clear hb
  go_wp2_with fail
  refine (h3 _).mono ?_
  rintro e w3 ⟨rfl, hb⟩
  have L := bnext L hb rfl rfl rfl rfl
  clear hb
  go_wp2_with fail
  refine (h2 _).mono ?_
  rintro e w4 ⟨rfl, hb⟩
  have L := bnext L hb rfl rfl rfl rfl
  clear hb
  go_wp2_with fail
  refine (lawAwake_calls _).mono ?_
  rintro e w5 ⟨rfl, hb⟩
  have L := bnext L hb rfl rfl rfl rfl
  clear hb
  go_wp2
  go_ret
  exact ⟨by first | rfl | simp, ⟨L.os, L.tape, L.output, L.size, L.block⟩⟩
end Go.Proofs.Ytpoedalbgcpgjaa

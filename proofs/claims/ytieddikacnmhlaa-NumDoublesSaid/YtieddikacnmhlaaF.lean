/- Common facts of the laws of soft: the world behind a law; bounds of 64-bit words. -/
import Derived.Test.YtieddikacnmhlaaE
namespace Go.Proofs.Ytieddikacnmhlaa
open Go.RowKit

theorem Dr.below {w w' : World} (h : Dr w w') : Below w.heap.size w w' := by
  obtain ⟨n, rfl⟩ := h
  have b := Below.refl w.heap.size w
  exact ⟨b.os, b.tape, b.output, b.size, b.block⟩
theorem Dr.trans {a b c : World} (h : Dr a b) (k : Dr b c) : Dr a c := by
  obtain ⟨n, rfl⟩ := h
  obtain ⟨m, rfl⟩ := k
  exact ⟨n + m, World.drewN_drewN ..⟩
/-- how a law ends -/
theorem law_below {P : Program} {f : FuncId} {args : Array Value} {w : World} (h : Calls P f args w fun e w' => e = .returned (.bool true) ∧ Dr w w') :
    Calls P f args w fun e w' => e = .returned (.bool true) ∧ Below w.heap.size w w' := h.mono fun _ _ h => ⟨h.1, h.2.below⟩

theorem u64_range {a : Int} (h : (Lit.int .u64 a).wf = true) : 0 ≤ a ∧ a < 18446744073709551616 := by
  simp [Lit.wf, IntKind.min, IntKind.max, IntKind.bits, IntKind.signed] at h; omega
theorem i64_range {a : Int} (h : (Lit.int .i64 a).wf = true) : -9223372036854775808 ≤ a ∧ a ≤ 9223372036854775807 := by
  simp [Lit.wf, IntKind.min, IntKind.max, IntKind.bits, IntKind.signed] at h; omega
theorem u32_range {a : Int} (h : (Lit.int .u32 a).wf = true) : 0 ≤ a ∧ a < 4294967296 := by
  simp [Lit.wf, IntKind.min, IntKind.max, IntKind.bits, IntKind.signed] at h; omega

theorem sAdd_range (a b : Int) : 0 ≤ sAdd a b ∧ sAdd a b < 18446744073709551616 := by
  have := Fl.dadd_lt a.toNat b.toNat; unfold sAdd; omega
theorem sSub_range (a b : Int) : 0 ≤ sSub a b ∧ sSub a b < 18446744073709551616 := by
  have := Fl.dsub_lt a.toNat b.toNat; unfold sSub; omega
theorem sMul_range (a b : Int) : 0 ≤ sMul a b ∧ sMul a b < 18446744073709551616 := by
  have := Fl.dmul_lt a.toNat b.toNat; unfold sMul; omega
theorem sDiv_range (a b : Int) : 0 ≤ sDiv a b ∧ sDiv a b < 18446744073709551616 := by
  have := Fl.ddiv_lt a.toNat b.toNat; unfold sDiv; omega
theorem sFloor_range (a : Int) : 0 ≤ sFloor a ∧ sFloor a < 18446744073709551616 := by
  have := Fl.dfloor_lt a.toNat; unfold sFloor; omega
theorem sInt_range (i : Int) : 0 ≤ sInt i ∧ sInt i < 18446744073709551616 := by
  have := Fl.dint_lt i; unfold sInt; omega
theorem sNeg_range {a : Int} (h : a < 18446744073709551616) : 0 ≤ sNeg a ∧ sNeg a < 18446744073709551616 := by
  have := Fl.dneg_lt (x := a.toNat) (by omega); unfold sNeg; omega
end Go.Proofs.Ytieddikacnmhlaa

/- The walk of WordBack, over contracts of what it calls. -/
import Derived.Test.YtpoedalbgcpgjaaSE
import Derived.Deep.DeepCutAuto
namespace Go.Proofs.Ytpoedalbgcpgjaa
open Go.RowKit
set_option linter.unusedVariables false
set_option linter.unusedSimpArgs false

set_option maxRecDepth 100000 in
theorem back_long (a bits i h : Int) (s : ByteArray) (d : decide ((s.size : Int) > 1000) = true) (d2 : decide (s.size > 1000) = true) (w : World) :
    Calls Try.prog 13 #[.int .u64 a, .int .u64 bits, .int .i64 i, .string s, .int .u64 h] w fun e w' => e = .returned (.bool true) ∧ Below w.heap.size w w' := by
  have L := Below.refl w.heap.size w
  go_enter Try.func13, Try.ntmps13
  go_wp2
  go_ret
  exact ⟨rfl, L⟩
set_option maxRecDepth 100000 in
set_option maxHeartbeats 25600000 in
theorem back_walk (a bits i h c X Y Z F : Int) (ba bb bc : Bool) (s : ByteArray) (d : decide ((s.size : Int) > 1000) = false) (d2 : decide (s.size > 1000) = false) (w : World)
    (f16 : (∀ w, Calls Try.prog 16 #[.int .i64 i] w fun e w' => e = .returned (.tuple #[.int .u64 X, .bool ba]) ∧ Below w.heap.size w w'))
    (A1 : ba = true → (∀ w, Calls Try.prog 35 #[.int .u64 X] w fun e w' => e = .returned (.tuple #[.int .i64 i, .bool true]) ∧ Below w.heap.size w w') ∧ (∀ w, Calls Try.prog 14 #[.int .u64 X] w fun e w' => e = .returned (.int .i64 2) ∧ Below w.heap.size w w'))
    (A0 : ba = false → decide (i ≥ -140737488355328) = false ∨ (decide (i ≥ -140737488355328) = true ∧ decide (i < 140737488355328) = false))
    (f17 : (∀ w, Calls Try.prog 17 #[.string s] w fun e w' => e = .returned (.tuple #[.int .u64 Y, .bool bb]) ∧ Below w.heap.size w w'))
    (B1 : bb = true → (∀ w, Calls Try.prog 39 #[.int .u64 Y] w fun e w' => e = .returned (.tuple #[.string s, .bool true]) ∧ Below w.heap.size w w') ∧ (∀ w, Calls Try.prog 14 #[.int .u64 Y] w fun e w' => e = .returned (.int .i64 5) ∧ Below w.heap.size w w'))
    (B0 : bb = false → decide ((s.size : Int) ≤ 5) = false ∧ decide (s.size ≤ 5) = false)
    (f26 : (∀ w, Calls Try.prog 26 #[.int .u64 h] w fun e w' => e = .returned (.tuple #[.int .u64 Z, .bool bc]) ∧ Below w.heap.size w w'))
    (C1 : bc = true → (∀ w, Calls Try.prog 41 #[.int .u64 Z] w fun e w' => e = .returned (.tuple #[.int .u64 h, .bool true]) ∧ Below w.heap.size w w') ∧ (∀ w, Calls Try.prog 14 #[.int .u64 Z] w fun e w' => e = .returned (.int .i64 6) ∧ Below w.heap.size w w'))
    (fF : (∀ w, Calls Try.prog 20 #[.int .u64 bits] w fun e w' => e = .returned (.int .u64 F) ∧ Below w.heap.size w w'))
    (fF1 : (∀ w, Calls Try.prog 14 #[.int .u64 F] w fun e w' => e = .returned (.int .i64 1) ∧ Below w.heap.size w w'))
    (fF2 : (∀ w, Calls Try.prog 20 #[.int .u64 F] w fun e w' => e = .returned (.int .u64 F) ∧ Below w.heap.size w w'))
    (fc : (∀ w, Calls Try.prog 14 #[.int .u64 a] w fun e w' => e = .returned (.int .i64 c) ∧ Below w.heap.size w w'))
    (E : (c = 1 ∧ (∀ w, Calls Try.prog 20 #[.int .u64 a] w fun e w' => e = .returned (.int .u64 a) ∧ Below w.heap.size w w')) ∨ (c = 2 ∧ ∃ j, (∀ w, Calls Try.prog 35 #[.int .u64 a] w fun e w' => e = .returned (.tuple #[.int .i64 j, .bool true]) ∧ Below w.heap.size w w') ∧ (∀ w, Calls Try.prog 16 #[.int .i64 j] w fun e w' => e = .returned (.tuple #[.int .u64 a, .bool true]) ∧ Below w.heap.size w w')) ∨ (c = 3 ∧ (∀ w, Calls Try.prog 18 #[] w fun e w' => e = .returned (.int .u64 a) ∧ Below w.heap.size w w')) ∨ (c = 4 ∧ ∃ t : Bool, (∀ w, Calls Try.prog 37 #[.int .u64 a] w fun e w' => e = .returned (.tuple #[.bool t, .bool true]) ∧ Below w.heap.size w w') ∧ (∀ w, Calls Try.prog 19 #[.bool t] w fun e w' => e = .returned (.int .u64 a) ∧ Below w.heap.size w w')) ∨ (c = 5 ∧ ∃ t : ByteArray, (∀ w, Calls Try.prog 39 #[.int .u64 a] w fun e w' => e = .returned (.tuple #[.string t, .bool true]) ∧ Below w.heap.size w w') ∧ (∀ w, Calls Try.prog 17 #[.string t] w fun e w' => e = .returned (.tuple #[.int .u64 a, .bool true]) ∧ Below w.heap.size w w')) ∨ (c = 6 ∧ ∃ g, (∀ w, Calls Try.prog 41 #[.int .u64 a] w fun e w' => e = .returned (.tuple #[.int .u64 g, .bool true]) ∧ Below w.heap.size w w') ∧ (∀ w, Calls Try.prog 26 #[.int .u64 g] w fun e w' => e = .returned (.tuple #[.int .u64 a, .bool true]) ∧ Below w.heap.size w w')) ∨ (c = 7 ∧ ∃ (j : Int) (t : Bool) (u : ByteArray) (g : Int), (∀ w, Calls Try.prog 35 #[.int .u64 a] w fun e w' => e = .returned (.tuple #[.int .i64 j, .bool false]) ∧ Below w.heap.size w w') ∧ (∀ w, Calls Try.prog 37 #[.int .u64 a] w fun e w' => e = .returned (.tuple #[.bool t, .bool false]) ∧ Below w.heap.size w w') ∧ (∀ w, Calls Try.prog 39 #[.int .u64 a] w fun e w' => e = .returned (.tuple #[.string u, .bool false]) ∧ Below w.heap.size w w') ∧ (∀ w, Calls Try.prog 41 #[.int .u64 a] w fun e w' => e = .returned (.tuple #[.int .u64 g, .bool false]) ∧ Below w.heap.size w w') ∧ (∀ w, Calls Try.prog 20 #[.int .u64 a] w fun e w' => e = .returned (.int .u64 9221120237041090560) ∧ Below w.heap.size w w')))
    (fw : ∀ w, Calls Try.prog 15 #[] w fun e w' => e = .returned (.bool true) ∧ Below w.heap.size w w') :
    Calls Try.prog 13 #[.int .u64 a, .int .u64 bits, .int .i64 i, .string s, .int .u64 h] w fun e w' => e = .returned (.bool true) ∧ Below w.heap.size w w' := by
  have L := Below.refl w.heap.size w
  go_enter Try.func13, Try.ntmps13
  go_wp2_with fail
  refine (f16 _).mono ?_
  rintro e w1 ⟨rfl, hb⟩
  have L := bnext L hb rfl rfl rfl rfl
  clear hb
  go_upto_if 50 with fail
  go_cut [13] (fun _ wx => Below w.heap.size w wx)
  case first =>
    cases ba
    · rcases A0 rfl with a1 | ⟨a1, a2⟩
      · go_wp2_with fail
        go_meet
        exact L
      · go_wp2_with fail
        go_meet
        exact L
    · obtain ⟨a1, a2⟩ := A1 rfl
      have hx : (i != i) = false := by simp
      go_wp2_with fail
      refine (a1 _).mono ?_
      rintro e w1 ⟨rfl, hb⟩
      have L := bnext L hb rfl rfl rfl rfl
      clear hb
      go_wp2_with fail
      refine (a2 _).mono ?_
      rintro e w1 ⟨rfl, hb⟩
      have L := bnext L hb rfl rfl rfl rfl
      clear hb
      go_wp2_with fail
      go_meet
      exact L
  case rest =>
    have L := hcut
    go_wp2_with fail
    refine (f17 _).mono ?_
    rintro e w1 ⟨rfl, hb⟩
    have L := bnext L hb rfl rfl rfl rfl
    clear hb
    go_upto_if 79 with fail
    go_cut [17] (fun _ wx => Below w.heap.size w wx)
    case first =>
      cases bb
      · obtain ⟨a1, a2⟩ := B0 rfl
        go_wp2_with fail
        go_meet
        exact L
      · obtain ⟨a1, a2⟩ := B1 rfl
        go_wp2_with fail
        refine (a1 _).mono ?_
        rintro e w1 ⟨rfl, hb⟩
        have L := bnext L hb rfl rfl rfl rfl
        clear hb
        go_wp2_with fail
        refine (a2 _).mono ?_
        rintro e w1 ⟨rfl, hb⟩
        have L := bnext L hb rfl rfl rfl rfl
        clear hb
        go_wp2_with fail
        go_meet
        exact L
    case rest =>
      have L := hcut
      go_wp2_with fail
      refine (f26 _).mono ?_
      rintro e w1 ⟨rfl, hb⟩
      have L := bnext L hb rfl rfl rfl rfl
      clear hb
      go_upto_if 105 with fail
      go_cut [21] (fun _ wx => Below w.heap.size w wx)
      case first =>
        cases bc
        · go_wp2_with fail
          go_meet
          exact L
        · obtain ⟨a1, a2⟩ := C1 rfl
          have hx : (h != h) = false := by simp
          go_wp2_with fail
          refine (a1 _).mono ?_
          rintro e w1 ⟨rfl, hb⟩
          have L := bnext L hb rfl rfl rfl rfl
          clear hb
          go_wp2_with fail
          refine (a2 _).mono ?_
          rintro e w1 ⟨rfl, hb⟩
          have L := bnext L hb rfl rfl rfl rfl
          clear hb
          go_wp2_with fail
          go_meet
          exact L
      case rest =>
        have L := hcut
        have hF : (F != F) = false := by simp
        have ha : (a == a) = true := by simp
        go_wp2_with fail
        refine (fF _).mono ?_
        rintro e w1 ⟨rfl, hb⟩
        have L := bnext L hb rfl rfl rfl rfl
        clear hb
        go_wp2_with fail
        refine (fF1 _).mono ?_
        rintro e w1 ⟨rfl, hb⟩
        have L := bnext L hb rfl rfl rfl rfl
        clear hb
        go_wp2_with fail
        refine (fF2 _).mono ?_
        rintro e w1 ⟨rfl, hb⟩
        have L := bnext L hb rfl rfl rfl rfl
        clear hb
        go_wp2_with fail
        refine (fc _).mono ?_
        rintro e w1 ⟨rfl, hb⟩
        have L := bnext L hb rfl rfl rfl rfl
        clear hb
        rcases E with ⟨rfl, g1⟩ | ⟨rfl, j, g1, g2⟩ | ⟨rfl, g1⟩ | ⟨rfl, t, g1, g2⟩ | ⟨rfl, t, g1, g2⟩ | ⟨rfl, g, g1, g2⟩ | ⟨rfl, j, t, u, g, g1, g2, g3, g4, g5⟩
        · skip
          go_wp2_with fail
          refine (g1 _).mono ?_
          rintro e w1 ⟨rfl, hb⟩
          have L := bnext L hb rfl rfl rfl rfl
          clear hb
          go_wp2_with fail
          refine (fw _).mono ?_
          rintro e w1 ⟨rfl, hb⟩
          have L := bnext L hb rfl rfl rfl rfl
          clear hb
          go_wp2
          go_ret
          exact ⟨by first | rfl | simp, ⟨L.os, L.tape, L.output, L.size, L.block⟩⟩
        · skip
          go_wp2_with fail
          refine (g1 _).mono ?_
          rintro e w1 ⟨rfl, hb⟩
          have L := bnext L hb rfl rfl rfl rfl
          clear hb
          go_wp2_with fail
          refine (g2 _).mono ?_
          rintro e w1 ⟨rfl, hb⟩
          have L := bnext L hb rfl rfl rfl rfl
          clear hb
          go_wp2_with fail
          refine (fw _).mono ?_
          rintro e w1 ⟨rfl, hb⟩
          have L := bnext L hb rfl rfl rfl rfl
          clear hb
          go_wp2
          go_ret
          exact ⟨by first | rfl | simp, ⟨L.os, L.tape, L.output, L.size, L.block⟩⟩
        · skip
          go_wp2_with fail
          refine (g1 _).mono ?_
          rintro e w1 ⟨rfl, hb⟩
          have L := bnext L hb rfl rfl rfl rfl
          clear hb
          go_wp2_with fail
          refine (fw _).mono ?_
          rintro e w1 ⟨rfl, hb⟩
          have L := bnext L hb rfl rfl rfl rfl
          clear hb
          go_wp2
          go_ret
          exact ⟨by first | rfl | simp, ⟨L.os, L.tape, L.output, L.size, L.block⟩⟩
        · skip
          go_wp2_with fail
          refine (g1 _).mono ?_
          rintro e w1 ⟨rfl, hb⟩
          have L := bnext L hb rfl rfl rfl rfl
          clear hb
          go_wp2_with fail
          refine (g2 _).mono ?_
          rintro e w1 ⟨rfl, hb⟩
          have L := bnext L hb rfl rfl rfl rfl
          clear hb
          go_wp2_with fail
          refine (fw _).mono ?_
          rintro e w1 ⟨rfl, hb⟩
          have L := bnext L hb rfl rfl rfl rfl
          clear hb
          go_wp2
          go_ret
          exact ⟨by first | rfl | simp, ⟨L.os, L.tape, L.output, L.size, L.block⟩⟩
        · skip
          go_wp2_with fail
          refine (g1 _).mono ?_
          rintro e w1 ⟨rfl, hb⟩
          have L := bnext L hb rfl rfl rfl rfl
          clear hb
          go_wp2_with fail
          refine (g2 _).mono ?_
          rintro e w1 ⟨rfl, hb⟩
          have L := bnext L hb rfl rfl rfl rfl
          clear hb
          go_wp2_with fail
          refine (fw _).mono ?_
          rintro e w1 ⟨rfl, hb⟩
          have L := bnext L hb rfl rfl rfl rfl
          clear hb
          go_wp2
          go_ret
          exact ⟨by first | rfl | simp, ⟨L.os, L.tape, L.output, L.size, L.block⟩⟩
        · skip
          go_wp2_with fail
          refine (g1 _).mono ?_
          rintro e w1 ⟨rfl, hb⟩
          have L := bnext L hb rfl rfl rfl rfl
          clear hb
          go_wp2_with fail
          refine (g2 _).mono ?_
          rintro e w1 ⟨rfl, hb⟩
          have L := bnext L hb rfl rfl rfl rfl
          clear hb
          go_wp2_with fail
          refine (fw _).mono ?_
          rintro e w1 ⟨rfl, hb⟩
          have L := bnext L hb rfl rfl rfl rfl
          clear hb
          go_wp2
          go_ret
          exact ⟨by first | rfl | simp, ⟨L.os, L.tape, L.output, L.size, L.block⟩⟩
        · skip
          go_wp2_with fail
          refine (g1 _).mono ?_
          rintro e w1 ⟨rfl, hb⟩
          have L := bnext L hb rfl rfl rfl rfl
          clear hb
          go_wp2_with fail
          refine (g2 _).mono ?_
          rintro e w1 ⟨rfl, hb⟩
          have L := bnext L hb rfl rfl rfl rfl
          clear hb
          go_wp2_with fail
          refine (g3 _).mono ?_
          rintro e w1 ⟨rfl, hb⟩
          have L := bnext L hb rfl rfl rfl rfl
          clear hb
          go_wp2_with fail
          refine (g4 _).mono ?_
          rintro e w1 ⟨rfl, hb⟩
          have L := bnext L hb rfl rfl rfl rfl
          clear hb
          go_wp2_with fail
          refine (g5 _).mono ?_
          rintro e w1 ⟨rfl, hb⟩
          have L := bnext L hb rfl rfl rfl rfl
          clear hb
          go_wp2_with fail
          refine (fw _).mono ?_
          rintro e w1 ⟨rfl, hb⟩
          have L := bnext L hb rfl rfl rfl rfl
          clear hb
          go_wp2
          go_ret
          exact ⟨by first | rfl | simp, ⟨L.os, L.tape, L.output, L.size, L.block⟩⟩

end Go.Proofs.Ytpoedalbgcpgjaa

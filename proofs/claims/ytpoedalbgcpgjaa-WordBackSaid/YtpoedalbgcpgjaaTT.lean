/- ToText of a word that is a text, for each length. -/
import Derived.Test.YtpoedalbgcpgjaaTA
namespace Go.Proofs.Ytpoedalbgcpgjaa
open Go.RowKit
set_option linter.unusedVariables false
set_option linter.unusedSimpArgs false

set_option maxRecDepth 20000 in
set_option maxHeartbeats 3200000 in
theorem toText_0 (a : Int) (w : World) (hc : ∀ w, Calls Try.prog 14 #[.int .u64 a] w fun e w' => e = .returned (.int .i64 5) ∧ Below w.heap.size w w')
    (e0 : Go.bits .and .u64 a 281474976710655 / 1099511627776 = 0) :
    Calls Try.prog 39 #[.int .u64 a] w fun e w' => e = .returned (.tuple #[.string (strB []), .bool true]) ∧ Below w.heap.size w w' := by
  have L := Below.refl w.heap.size w
  have mk : ∀ W : World, (Instr.makeSlice 73 (.int .u64 0) (.int .u64 0)).run Try.prog W = .ok (.slice (some ⟨W.heap.size, 0, none⟩) 0 0) (W.alloc (.cells #[] 5)) := fun W => by
    have h := make_run 0 (by decide) W
    rw [show madeCells #[Value.int .u8 0] 0 = #[] from by kernel_rfl] at h
    exact h
  go_enter Try.func39, Try.ntmps39
  go_wp2_with fail
  refine (hc _).mono ?_
  rintro x w1 ⟨rfl, hb⟩
  have L := bnext L hb rfl rfl rfl rfl
  have hg := L.size
  clear hb
  go_wp2_with fail
  have Y : YB (w1.alloc (.cells #[] 5)) w1.heap.size [] := by
    show (w1.heap.push _)[w1.heap.size]? = _
    rw [Array.getElem?_push_size]; rfl
  have L := balloc L L.size (.cells #[] 5)
  go_loopg [15] 0 (fun q i wr => ((q = 0 ∧ i = .int .i64 0 ∧ YB wr w1.heap.size [])) ∧ Below w.heap.size w wr)
  case atStart => exact ⟨⟨rfl, rfl, Y⟩, L⟩
  case round =>
    clear Y L
    obtain ⟨hrel, L⟩ := hrel
    obtain ⟨rfl, rfl, Y⟩ := hrel
    · have hcv : (convert 73 9 (.slice (some ⟨w1.heap.size, 0, none⟩) 0 0)).run Try.prog wr = .ok (.string (strB [])) wr := Y.str
      go_wp2
      go_ret2
      exact ⟨by first | rfl | simp, ⟨L.os, L.tape, L.output, L.size, L.block⟩⟩
set_option maxRecDepth 20000 in
set_option maxHeartbeats 3200000 in
theorem toText_1 (a : Int) (w : World) (hc : ∀ w, Calls Try.prog 14 #[.int .u64 a] w fun e w' => e = .returned (.int .i64 5) ∧ Below w.heap.size w w')
    (e0 : Go.bits .and .u64 a 281474976710655 / 1099511627776 = 1) :
    Calls Try.prog 39 #[.int .u64 a] w fun e w' => e = .returned (.tuple #[.string (strB [a % 256]), .bool true]) ∧ Below w.heap.size w w' := by
  have L := Below.refl w.heap.size w
  have mk : ∀ W : World, (Instr.makeSlice 73 (.int .u64 1) (.int .u64 1)).run Try.prog W = .ok (.slice (some ⟨W.heap.size, 0, none⟩) 1 1) (W.alloc (.cells #[.int .u8 0] 5)) := fun W => by
    have h := make_run 1 (by decide) W
    rw [show madeCells #[Value.int .u8 0] 1 = #[.int .u8 0] from by kernel_rfl] at h
    exact h
  go_enter Try.func39, Try.ntmps39
  go_wp2_with fail
  refine (hc _).mono ?_
  rintro x w1 ⟨rfl, hb⟩
  have L := bnext L hb rfl rfl rfl rfl
  have hg := L.size
  clear hb
  go_wp2_with fail
  have Y : YB (w1.alloc (.cells #[.int .u8 0] 5)) w1.heap.size [0] := by
    show (w1.heap.push _)[w1.heap.size]? = _
    rw [Array.getElem?_push_size]; rfl
  have L := balloc L L.size (.cells #[.int .u8 0] 5)
  go_loopg [15] 1 (fun q i wr => ((q = 1 ∧ i = .int .i64 0 ∧ YB wr w1.heap.size [0]) ∨ (q = 0 ∧ i = .int .i64 1 ∧ YB wr w1.heap.size [a % 256])) ∧ Below w.heap.size w wr)
  case atStart => exact ⟨.inl ⟨rfl, rfl, Y⟩, L⟩
  case round =>
    clear Y L
    obtain ⟨hrel, L⟩ := hrel
    rcases hrel with ⟨rfl, rfl, Y⟩ | ⟨rfl, rfl, Y⟩
    · have c0 := Y.cell 0 _ rfl
      have f0 := Y.soft 0
      have C : Chg w1.heap.size wr (wr.setCell ⟨w1.heap.size, 0, none⟩ (.int .u8 (a % 256))) := (Chg.refl w1.heap.size wr).set _ _
      have Y := Y.set 0 (a % 256)
      have L := Chg.below L hg L.size C
      clear C
      go_wp2
      go_roundg 0
      case measure => decide
      case rel => exact ⟨.inr (⟨rfl, rfl, Y⟩), L⟩
    · have hcv : (convert 73 9 (.slice (some ⟨w1.heap.size, 0, none⟩) 1 1)).run Try.prog wr = .ok (.string (strB [a % 256])) wr := Y.str
      go_wp2
      go_ret2
      exact ⟨by first | rfl | simp, ⟨L.os, L.tape, L.output, L.size, L.block⟩⟩
set_option maxRecDepth 20000 in
set_option maxHeartbeats 3200000 in
theorem toText_2 (a : Int) (w : World) (hc : ∀ w, Calls Try.prog 14 #[.int .u64 a] w fun e w' => e = .returned (.int .i64 5) ∧ Below w.heap.size w w')
    (e0 : Go.bits .and .u64 a 281474976710655 / 1099511627776 = 2) :
    Calls Try.prog 39 #[.int .u64 a] w fun e w' => e = .returned (.tuple #[.string (strB [a % 256, a / 256 % 256]), .bool true]) ∧ Below w.heap.size w w' := by
  have L := Below.refl w.heap.size w
  have mk : ∀ W : World, (Instr.makeSlice 73 (.int .u64 2) (.int .u64 2)).run Try.prog W = .ok (.slice (some ⟨W.heap.size, 0, none⟩) 2 2) (W.alloc (.cells #[.int .u8 0, .int .u8 0] 5)) := fun W => by
    have h := make_run 2 (by decide) W
    rw [show madeCells #[Value.int .u8 0] 2 = #[.int .u8 0, .int .u8 0] from by kernel_rfl] at h
    exact h
  go_enter Try.func39, Try.ntmps39
  go_wp2_with fail
  refine (hc _).mono ?_
  rintro x w1 ⟨rfl, hb⟩
  have L := bnext L hb rfl rfl rfl rfl
  have hg := L.size
  clear hb
  go_wp2_with fail
  have Y : YB (w1.alloc (.cells #[.int .u8 0, .int .u8 0] 5)) w1.heap.size [0, 0] := by
    show (w1.heap.push _)[w1.heap.size]? = _
    rw [Array.getElem?_push_size]; rfl
  have L := balloc L L.size (.cells #[.int .u8 0, .int .u8 0] 5)
  go_loopg [15] 2 (fun q i wr => ((q = 2 ∧ i = .int .i64 0 ∧ YB wr w1.heap.size [0, 0]) ∨ (q = 1 ∧ i = .int .i64 1 ∧ YB wr w1.heap.size [a % 256, 0]) ∨ (q = 0 ∧ i = .int .i64 2 ∧ YB wr w1.heap.size [a % 256, a / 256 % 256])) ∧ Below w.heap.size w wr)
  case atStart => exact ⟨.inl ⟨rfl, rfl, Y⟩, L⟩
  case round =>
    clear Y L
    obtain ⟨hrel, L⟩ := hrel
    rcases hrel with ⟨rfl, rfl, Y⟩ | ⟨rfl, rfl, Y⟩ | ⟨rfl, rfl, Y⟩
    · have c0 := Y.cell 0 _ rfl
      have f0 := Y.soft 0
      have c1 := Y.cell 1 _ rfl
      have f1 := Y.soft 1
      have C : Chg w1.heap.size wr (wr.setCell ⟨w1.heap.size, 0, none⟩ (.int .u8 (a % 256))) := (Chg.refl w1.heap.size wr).set _ _
      have Y := Y.set 0 (a % 256)
      have L := Chg.below L hg L.size C
      clear C
      go_wp2
      go_roundg 1
      case measure => decide
      case rel => exact ⟨.inr (.inl ⟨rfl, rfl, Y⟩), L⟩
    · have c0 := Y.cell 0 _ rfl
      have f0 := Y.soft 0
      have c1 := Y.cell 1 _ rfl
      have f1 := Y.soft 1
      have C : Chg w1.heap.size wr (wr.setCell ⟨w1.heap.size, 1, none⟩ (.int .u8 (a / 256 % 256))) := (Chg.refl w1.heap.size wr).set _ _
      have Y := Y.set 1 (a / 256 % 256)
      have L := Chg.below L hg L.size C
      clear C
      go_wp2
      go_roundg 0
      case measure => decide
      case rel => exact ⟨.inr (.inr (⟨rfl, rfl, Y⟩)), L⟩
    · have hcv : (convert 73 9 (.slice (some ⟨w1.heap.size, 0, none⟩) 2 2)).run Try.prog wr = .ok (.string (strB [a % 256, a / 256 % 256])) wr := Y.str
      go_wp2
      go_ret2
      exact ⟨by first | rfl | simp, ⟨L.os, L.tape, L.output, L.size, L.block⟩⟩
set_option maxRecDepth 20000 in
set_option maxHeartbeats 3200000 in
theorem toText_3 (a : Int) (w : World) (hc : ∀ w, Calls Try.prog 14 #[.int .u64 a] w fun e w' => e = .returned (.int .i64 5) ∧ Below w.heap.size w w')
    (e0 : Go.bits .and .u64 a 281474976710655 / 1099511627776 = 3) :
    Calls Try.prog 39 #[.int .u64 a] w fun e w' => e = .returned (.tuple #[.string (strB [a % 256, a / 256 % 256, a / 65536 % 256]), .bool true]) ∧ Below w.heap.size w w' := by
  have L := Below.refl w.heap.size w
  have mk : ∀ W : World, (Instr.makeSlice 73 (.int .u64 3) (.int .u64 3)).run Try.prog W = .ok (.slice (some ⟨W.heap.size, 0, none⟩) 3 3) (W.alloc (.cells #[.int .u8 0, .int .u8 0, .int .u8 0] 5)) := fun W => by
    have h := make_run 3 (by decide) W
    rw [show madeCells #[Value.int .u8 0] 3 = #[.int .u8 0, .int .u8 0, .int .u8 0] from by kernel_rfl] at h
    exact h
  go_enter Try.func39, Try.ntmps39
  go_wp2_with fail
  refine (hc _).mono ?_
  rintro x w1 ⟨rfl, hb⟩
  have L := bnext L hb rfl rfl rfl rfl
  have hg := L.size
  clear hb
  go_wp2_with fail
  have Y : YB (w1.alloc (.cells #[.int .u8 0, .int .u8 0, .int .u8 0] 5)) w1.heap.size [0, 0, 0] := by
    show (w1.heap.push _)[w1.heap.size]? = _
    rw [Array.getElem?_push_size]; rfl
  have L := balloc L L.size (.cells #[.int .u8 0, .int .u8 0, .int .u8 0] 5)
  go_loopg [15] 3 (fun q i wr => ((q = 3 ∧ i = .int .i64 0 ∧ YB wr w1.heap.size [0, 0, 0]) ∨ (q = 2 ∧ i = .int .i64 1 ∧ YB wr w1.heap.size [a % 256, 0, 0]) ∨ (q = 1 ∧ i = .int .i64 2 ∧ YB wr w1.heap.size [a % 256, a / 256 % 256, 0]) ∨ (q = 0 ∧ i = .int .i64 3 ∧ YB wr w1.heap.size [a % 256, a / 256 % 256, a / 65536 % 256])) ∧ Below w.heap.size w wr)
  case atStart => exact ⟨.inl ⟨rfl, rfl, Y⟩, L⟩
  case round =>
    clear Y L
    obtain ⟨hrel, L⟩ := hrel
    rcases hrel with ⟨rfl, rfl, Y⟩ | ⟨rfl, rfl, Y⟩ | ⟨rfl, rfl, Y⟩ | ⟨rfl, rfl, Y⟩
    · have c0 := Y.cell 0 _ rfl
      have f0 := Y.soft 0
      have c1 := Y.cell 1 _ rfl
      have f1 := Y.soft 1
      have c2 := Y.cell 2 _ rfl
      have f2 := Y.soft 2
      have C : Chg w1.heap.size wr (wr.setCell ⟨w1.heap.size, 0, none⟩ (.int .u8 (a % 256))) := (Chg.refl w1.heap.size wr).set _ _
      have Y := Y.set 0 (a % 256)
      have L := Chg.below L hg L.size C
      clear C
      go_wp2
      go_roundg 2
      case measure => decide
      case rel => exact ⟨.inr (.inl ⟨rfl, rfl, Y⟩), L⟩
    · have c0 := Y.cell 0 _ rfl
      have f0 := Y.soft 0
      have c1 := Y.cell 1 _ rfl
      have f1 := Y.soft 1
      have c2 := Y.cell 2 _ rfl
      have f2 := Y.soft 2
      have C : Chg w1.heap.size wr (wr.setCell ⟨w1.heap.size, 1, none⟩ (.int .u8 (a / 256 % 256))) := (Chg.refl w1.heap.size wr).set _ _
      have Y := Y.set 1 (a / 256 % 256)
      have L := Chg.below L hg L.size C
      clear C
      go_wp2
      go_roundg 1
      case measure => decide
      case rel => exact ⟨.inr (.inr (.inl ⟨rfl, rfl, Y⟩)), L⟩
    · have c0 := Y.cell 0 _ rfl
      have f0 := Y.soft 0
      have c1 := Y.cell 1 _ rfl
      have f1 := Y.soft 1
      have c2 := Y.cell 2 _ rfl
      have f2 := Y.soft 2
      have C : Chg w1.heap.size wr (wr.setCell ⟨w1.heap.size, 2, none⟩ (.int .u8 (a / 65536 % 256))) := (Chg.refl w1.heap.size wr).set _ _
      have Y := Y.set 2 (a / 65536 % 256)
      have L := Chg.below L hg L.size C
      clear C
      go_wp2
      go_roundg 0
      case measure => decide
      case rel => exact ⟨.inr (.inr (.inr (⟨rfl, rfl, Y⟩))), L⟩
    · have hcv : (convert 73 9 (.slice (some ⟨w1.heap.size, 0, none⟩) 3 3)).run Try.prog wr = .ok (.string (strB [a % 256, a / 256 % 256, a / 65536 % 256])) wr := Y.str
      go_wp2
      go_ret2
      exact ⟨by first | rfl | simp, ⟨L.os, L.tape, L.output, L.size, L.block⟩⟩
set_option maxRecDepth 20000 in
set_option maxHeartbeats 3200000 in
theorem toText_4 (a : Int) (w : World) (hc : ∀ w, Calls Try.prog 14 #[.int .u64 a] w fun e w' => e = .returned (.int .i64 5) ∧ Below w.heap.size w w')
    (e0 : Go.bits .and .u64 a 281474976710655 / 1099511627776 = 4) :
    Calls Try.prog 39 #[.int .u64 a] w fun e w' => e = .returned (.tuple #[.string (strB [a % 256, a / 256 % 256, a / 65536 % 256, a / 16777216 % 256]), .bool true]) ∧ Below w.heap.size w w' := by
  have L := Below.refl w.heap.size w
  have mk : ∀ W : World, (Instr.makeSlice 73 (.int .u64 4) (.int .u64 4)).run Try.prog W = .ok (.slice (some ⟨W.heap.size, 0, none⟩) 4 4) (W.alloc (.cells #[.int .u8 0, .int .u8 0, .int .u8 0, .int .u8 0] 5)) := fun W => by
    have h := make_run 4 (by decide) W
    rw [show madeCells #[Value.int .u8 0] 4 = #[.int .u8 0, .int .u8 0, .int .u8 0, .int .u8 0] from by kernel_rfl] at h
    exact h
  go_enter Try.func39, Try.ntmps39
  go_wp2_with fail
  refine (hc _).mono ?_
  rintro x w1 ⟨rfl, hb⟩
  have L := bnext L hb rfl rfl rfl rfl
  have hg := L.size
  clear hb
  go_wp2_with fail
  have Y : YB (w1.alloc (.cells #[.int .u8 0, .int .u8 0, .int .u8 0, .int .u8 0] 5)) w1.heap.size [0, 0, 0, 0] := by
    show (w1.heap.push _)[w1.heap.size]? = _
    rw [Array.getElem?_push_size]; rfl
  have L := balloc L L.size (.cells #[.int .u8 0, .int .u8 0, .int .u8 0, .int .u8 0] 5)
  go_loopg [15] 4 (fun q i wr => ((q = 4 ∧ i = .int .i64 0 ∧ YB wr w1.heap.size [0, 0, 0, 0]) ∨ (q = 3 ∧ i = .int .i64 1 ∧ YB wr w1.heap.size [a % 256, 0, 0, 0]) ∨ (q = 2 ∧ i = .int .i64 2 ∧ YB wr w1.heap.size [a % 256, a / 256 % 256, 0, 0]) ∨ (q = 1 ∧ i = .int .i64 3 ∧ YB wr w1.heap.size [a % 256, a / 256 % 256, a / 65536 % 256, 0]) ∨ (q = 0 ∧ i = .int .i64 4 ∧ YB wr w1.heap.size [a % 256, a / 256 % 256, a / 65536 % 256, a / 16777216 % 256])) ∧ Below w.heap.size w wr)
  case atStart => exact ⟨.inl ⟨rfl, rfl, Y⟩, L⟩
  case round =>
    clear Y L
    obtain ⟨hrel, L⟩ := hrel
    rcases hrel with ⟨rfl, rfl, Y⟩ | ⟨rfl, rfl, Y⟩ | ⟨rfl, rfl, Y⟩ | ⟨rfl, rfl, Y⟩ | ⟨rfl, rfl, Y⟩
    · have c0 := Y.cell 0 _ rfl
      have f0 := Y.soft 0
      have c1 := Y.cell 1 _ rfl
      have f1 := Y.soft 1
      have c2 := Y.cell 2 _ rfl
      have f2 := Y.soft 2
      have c3 := Y.cell 3 _ rfl
      have f3 := Y.soft 3
      have C : Chg w1.heap.size wr (wr.setCell ⟨w1.heap.size, 0, none⟩ (.int .u8 (a % 256))) := (Chg.refl w1.heap.size wr).set _ _
      have Y := Y.set 0 (a % 256)
      have L := Chg.below L hg L.size C
      clear C
      go_wp2
      go_roundg 3
      case measure => decide
      case rel => exact ⟨.inr (.inl ⟨rfl, rfl, Y⟩), L⟩
    · have c0 := Y.cell 0 _ rfl
      have f0 := Y.soft 0
      have c1 := Y.cell 1 _ rfl
      have f1 := Y.soft 1
      have c2 := Y.cell 2 _ rfl
      have f2 := Y.soft 2
      have c3 := Y.cell 3 _ rfl
      have f3 := Y.soft 3
      have C : Chg w1.heap.size wr (wr.setCell ⟨w1.heap.size, 1, none⟩ (.int .u8 (a / 256 % 256))) := (Chg.refl w1.heap.size wr).set _ _
      have Y := Y.set 1 (a / 256 % 256)
      have L := Chg.below L hg L.size C
      clear C
      go_wp2
      go_roundg 2
      case measure => decide
      case rel => exact ⟨.inr (.inr (.inl ⟨rfl, rfl, Y⟩)), L⟩
    · have c0 := Y.cell 0 _ rfl
      have f0 := Y.soft 0
      have c1 := Y.cell 1 _ rfl
      have f1 := Y.soft 1
      have c2 := Y.cell 2 _ rfl
      have f2 := Y.soft 2
      have c3 := Y.cell 3 _ rfl
      have f3 := Y.soft 3
      have C : Chg w1.heap.size wr (wr.setCell ⟨w1.heap.size, 2, none⟩ (.int .u8 (a / 65536 % 256))) := (Chg.refl w1.heap.size wr).set _ _
      have Y := Y.set 2 (a / 65536 % 256)
      have L := Chg.below L hg L.size C
      clear C
      go_wp2
      go_roundg 1
      case measure => decide
      case rel => exact ⟨.inr (.inr (.inr (.inl ⟨rfl, rfl, Y⟩))), L⟩
    · have c0 := Y.cell 0 _ rfl
      have f0 := Y.soft 0
      have c1 := Y.cell 1 _ rfl
      have f1 := Y.soft 1
      have c2 := Y.cell 2 _ rfl
      have f2 := Y.soft 2
      have c3 := Y.cell 3 _ rfl
      have f3 := Y.soft 3
      have C : Chg w1.heap.size wr (wr.setCell ⟨w1.heap.size, 3, none⟩ (.int .u8 (a / 16777216 % 256))) := (Chg.refl w1.heap.size wr).set _ _
      have Y := Y.set 3 (a / 16777216 % 256)
      have L := Chg.below L hg L.size C
      clear C
      go_wp2
      go_roundg 0
      case measure => decide
      case rel => exact ⟨.inr (.inr (.inr (.inr (⟨rfl, rfl, Y⟩)))), L⟩
    · have hcv : (convert 73 9 (.slice (some ⟨w1.heap.size, 0, none⟩) 4 4)).run Try.prog wr = .ok (.string (strB [a % 256, a / 256 % 256, a / 65536 % 256, a / 16777216 % 256])) wr := Y.str
      go_wp2
      go_ret2
      exact ⟨by first | rfl | simp, ⟨L.os, L.tape, L.output, L.size, L.block⟩⟩
set_option maxRecDepth 20000 in
set_option maxHeartbeats 3200000 in
theorem toText_5 (a : Int) (w : World) (hc : ∀ w, Calls Try.prog 14 #[.int .u64 a] w fun e w' => e = .returned (.int .i64 5) ∧ Below w.heap.size w w')
    (e0 : Go.bits .and .u64 a 281474976710655 / 1099511627776 = 5) :
    Calls Try.prog 39 #[.int .u64 a] w fun e w' => e = .returned (.tuple #[.string (strB [a % 256, a / 256 % 256, a / 65536 % 256, a / 16777216 % 256, a / 4294967296 % 256]), .bool true]) ∧ Below w.heap.size w w' := by
  have L := Below.refl w.heap.size w
  have mk : ∀ W : World, (Instr.makeSlice 73 (.int .u64 5) (.int .u64 5)).run Try.prog W = .ok (.slice (some ⟨W.heap.size, 0, none⟩) 5 5) (W.alloc (.cells #[.int .u8 0, .int .u8 0, .int .u8 0, .int .u8 0, .int .u8 0] 5)) := fun W => by
    have h := make_run 5 (by decide) W
    rw [show madeCells #[Value.int .u8 0] 5 = #[.int .u8 0, .int .u8 0, .int .u8 0, .int .u8 0, .int .u8 0] from by kernel_rfl] at h
    exact h
  go_enter Try.func39, Try.ntmps39
  go_wp2_with fail
  refine (hc _).mono ?_
  rintro x w1 ⟨rfl, hb⟩
  have L := bnext L hb rfl rfl rfl rfl
  have hg := L.size
  clear hb
  go_wp2_with fail
  have Y : YB (w1.alloc (.cells #[.int .u8 0, .int .u8 0, .int .u8 0, .int .u8 0, .int .u8 0] 5)) w1.heap.size [0, 0, 0, 0, 0] := by
    show (w1.heap.push _)[w1.heap.size]? = _
    rw [Array.getElem?_push_size]; rfl
  have L := balloc L L.size (.cells #[.int .u8 0, .int .u8 0, .int .u8 0, .int .u8 0, .int .u8 0] 5)
  go_loopg [15] 5 (fun q i wr => ((q = 5 ∧ i = .int .i64 0 ∧ YB wr w1.heap.size [0, 0, 0, 0, 0]) ∨ (q = 4 ∧ i = .int .i64 1 ∧ YB wr w1.heap.size [a % 256, 0, 0, 0, 0]) ∨ (q = 3 ∧ i = .int .i64 2 ∧ YB wr w1.heap.size [a % 256, a / 256 % 256, 0, 0, 0]) ∨ (q = 2 ∧ i = .int .i64 3 ∧ YB wr w1.heap.size [a % 256, a / 256 % 256, a / 65536 % 256, 0, 0]) ∨ (q = 1 ∧ i = .int .i64 4 ∧ YB wr w1.heap.size [a % 256, a / 256 % 256, a / 65536 % 256, a / 16777216 % 256, 0]) ∨ (q = 0 ∧ i = .int .i64 5 ∧ YB wr w1.heap.size [a % 256, a / 256 % 256, a / 65536 % 256, a / 16777216 % 256, a / 4294967296 % 256])) ∧ Below w.heap.size w wr)
  case atStart => exact ⟨.inl ⟨rfl, rfl, Y⟩, L⟩
  case round =>
    clear Y L
    obtain ⟨hrel, L⟩ := hrel
    rcases hrel with ⟨rfl, rfl, Y⟩ | ⟨rfl, rfl, Y⟩ | ⟨rfl, rfl, Y⟩ | ⟨rfl, rfl, Y⟩ | ⟨rfl, rfl, Y⟩ | ⟨rfl, rfl, Y⟩
    · have c0 := Y.cell 0 _ rfl
      have f0 := Y.soft 0
      have c1 := Y.cell 1 _ rfl
      have f1 := Y.soft 1
      have c2 := Y.cell 2 _ rfl
      have f2 := Y.soft 2
      have c3 := Y.cell 3 _ rfl
      have f3 := Y.soft 3
      have c4 := Y.cell 4 _ rfl
      have f4 := Y.soft 4
      have C : Chg w1.heap.size wr (wr.setCell ⟨w1.heap.size, 0, none⟩ (.int .u8 (a % 256))) := (Chg.refl w1.heap.size wr).set _ _
      have Y := Y.set 0 (a % 256)
      have L := Chg.below L hg L.size C
      clear C
      go_wp2
      go_roundg 4
      case measure => decide
      case rel => exact ⟨.inr (.inl ⟨rfl, rfl, Y⟩), L⟩
    · have c0 := Y.cell 0 _ rfl
      have f0 := Y.soft 0
      have c1 := Y.cell 1 _ rfl
      have f1 := Y.soft 1
      have c2 := Y.cell 2 _ rfl
      have f2 := Y.soft 2
      have c3 := Y.cell 3 _ rfl
      have f3 := Y.soft 3
      have c4 := Y.cell 4 _ rfl
      have f4 := Y.soft 4
      have C : Chg w1.heap.size wr (wr.setCell ⟨w1.heap.size, 1, none⟩ (.int .u8 (a / 256 % 256))) := (Chg.refl w1.heap.size wr).set _ _
      have Y := Y.set 1 (a / 256 % 256)
      have L := Chg.below L hg L.size C
      clear C
      go_wp2
      go_roundg 3
      case measure => decide
      case rel => exact ⟨.inr (.inr (.inl ⟨rfl, rfl, Y⟩)), L⟩
    · have c0 := Y.cell 0 _ rfl
      have f0 := Y.soft 0
      have c1 := Y.cell 1 _ rfl
      have f1 := Y.soft 1
      have c2 := Y.cell 2 _ rfl
      have f2 := Y.soft 2
      have c3 := Y.cell 3 _ rfl
      have f3 := Y.soft 3
      have c4 := Y.cell 4 _ rfl
      have f4 := Y.soft 4
      have C : Chg w1.heap.size wr (wr.setCell ⟨w1.heap.size, 2, none⟩ (.int .u8 (a / 65536 % 256))) := (Chg.refl w1.heap.size wr).set _ _
      have Y := Y.set 2 (a / 65536 % 256)
      have L := Chg.below L hg L.size C
      clear C
      go_wp2
      go_roundg 2
      case measure => decide
      case rel => exact ⟨.inr (.inr (.inr (.inl ⟨rfl, rfl, Y⟩))), L⟩
    · have c0 := Y.cell 0 _ rfl
      have f0 := Y.soft 0
      have c1 := Y.cell 1 _ rfl
      have f1 := Y.soft 1
      have c2 := Y.cell 2 _ rfl
      have f2 := Y.soft 2
      have c3 := Y.cell 3 _ rfl
      have f3 := Y.soft 3
      have c4 := Y.cell 4 _ rfl
      have f4 := Y.soft 4
      have C : Chg w1.heap.size wr (wr.setCell ⟨w1.heap.size, 3, none⟩ (.int .u8 (a / 16777216 % 256))) := (Chg.refl w1.heap.size wr).set _ _
      have Y := Y.set 3 (a / 16777216 % 256)
      have L := Chg.below L hg L.size C
      clear C
      go_wp2
      go_roundg 1
      case measure => decide
      case rel => exact ⟨.inr (.inr (.inr (.inr (.inl ⟨rfl, rfl, Y⟩)))), L⟩
    · have c0 := Y.cell 0 _ rfl
      have f0 := Y.soft 0
      have c1 := Y.cell 1 _ rfl
      have f1 := Y.soft 1
      have c2 := Y.cell 2 _ rfl
      have f2 := Y.soft 2
      have c3 := Y.cell 3 _ rfl
      have f3 := Y.soft 3
      have c4 := Y.cell 4 _ rfl
      have f4 := Y.soft 4
      have C : Chg w1.heap.size wr (wr.setCell ⟨w1.heap.size, 4, none⟩ (.int .u8 (a / 4294967296 % 256))) := (Chg.refl w1.heap.size wr).set _ _
      have Y := Y.set 4 (a / 4294967296 % 256)
      have L := Chg.below L hg L.size C
      clear C
      go_wp2
      go_roundg 0
      case measure => decide
      case rel => exact ⟨.inr (.inr (.inr (.inr (.inr (⟨rfl, rfl, Y⟩))))), L⟩
    · have hcv : (convert 73 9 (.slice (some ⟨w1.heap.size, 0, none⟩) 5 5)).run Try.prog wr = .ok (.string (strB [a % 256, a / 256 % 256, a / 65536 % 256, a / 16777216 % 256, a / 4294967296 % 256])) wr := Y.str
      go_wp2
      go_ret2
      exact ⟨by first | rfl | simp, ⟨L.os, L.tape, L.output, L.size, L.block⟩⟩
end Go.Proofs.Ytpoedalbgcpgjaa

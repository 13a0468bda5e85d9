/- On, path by path, of the program's site: what it answers and what the site's block then holds. -/
import Derived.Test.YtpoedalbgcpgjaaSA
namespace Go.Proofs.Ytpoedalbgcpgjaa
open Go.RowKit
set_option linter.unusedVariables false
set_option linter.unusedSimpArgs false

set_option maxRecDepth 20000 in
set_option maxHeartbeats 3200000 in
theorem on_fast1 (g : Nat) (e h l k r a : Int) (w : World) (s : SB w g 70 a 1 e h l k r)  :
    Calls Try.prog 33 #[.pointer (some ⟨g, 0, none⟩), .int .i64 1] w fun x w' => x = .returned (.int .i64 1) ∧ SB w' g 70 a 1 e (wrap64 (h + 1)) l k r ∧ Chg g w w' := by
  obtain ⟨x0, x1, x2, x3, x4, x5, x6, xf⟩ := s.cells
  go_enter Try.func33, Try.ntmps33
  go_wp2
  go_ret
  refine And.intro (by simp) (And.intro ?_ ?_)
  · repeat (first | with_reducible exact s | with_reducible apply SB.set1 | with_reducible apply SB.set2 | with_reducible apply SB.set3 | with_reducible apply SB.set4 | with_reducible apply SB.set5 | with_reducible apply SB.set6)
  · repeat (first | exact Chg.refl g w | with_reducible apply Chg.set)
set_option maxRecDepth 20000 in
set_option maxHeartbeats 3200000 in
theorem on_guard1 (g : Nat) (f e h l k r a : Int) (w : World) (s : SB w g 70 a f e h l k r) (h1 : (f != 0) = true) (h2 : (f == 1) = false) :
    Calls Try.prog 33 #[.pointer (some ⟨g, 0, none⟩), .int .i64 1] w fun x w' => x = .returned (.int .i64 0) ∧ SB w' g 70 a 0 (wrap64 (e + 1)) h (wrap64 (l + 1)) 1 1 ∧ Chg g w w' := by
  obtain ⟨x0, x1, x2, x3, x4, x5, x6, xf⟩ := s.cells
  go_enter Try.func33, Try.ntmps33
  have S0 : SB (w.setCell ⟨g, 4, none⟩ (.int .i64 (wrap64 (l + 1)))) g 70 a f e h (wrap64 (l + 1)) k r := SB.set4 (s)
  have C : Chg g w (w.setCell ⟨g, 4, none⟩ (.int .i64 (wrap64 (l + 1)))) := Chg.set (Chg.refl g w) 4 (.int .i64 (wrap64 (l + 1)))
  have B := become_calls g 0 a f e h (wrap64 (l + 1)) k r _ S0
  go_wp2_with fail
  with_reducible refine Calls.mono B ?_
  rintro x W ⟨rfl, S, C2⟩
  have C := Chg.trans C C2
  clear B S0 C2 x0 x1 x2 x3 x4 x5 x6 xf
  obtain ⟨x0, x1, x2, x3, x4, x5, x6, xf⟩ := S.cells
  go_wp2
  go_ret
  refine And.intro (by simp) (And.intro ?_ ?_)
  · repeat (first | with_reducible exact S | with_reducible apply SB.set1 | with_reducible apply SB.set2 | with_reducible apply SB.set3 | with_reducible apply SB.set4 | with_reducible apply SB.set5 | with_reducible apply SB.set6)
  · repeat (first | with_reducible exact C | with_reducible apply Chg.set)
set_option maxRecDepth 20000 in
set_option maxHeartbeats 3200000 in
theorem on_new1 (g : Nat) (e h l k r a : Int) (w : World) (s : SB w g 70 a 0 e h l k r) (h1 : (1 == k) = false) :
    Calls Try.prog 33 #[.pointer (some ⟨g, 0, none⟩), .int .i64 1] w fun x w' => x = .returned (.int .i64 0) ∧ SB w' g 70 a 0 (wrap64 (e + 1)) h l 1 1 ∧ Chg g w w' := by
  obtain ⟨x0, x1, x2, x3, x4, x5, x6, xf⟩ := s.cells
  go_enter Try.func33, Try.ntmps33
  go_wp2
  go_ret
  refine And.intro (by simp) (And.intro ?_ ?_)
  · repeat (first | with_reducible exact s | with_reducible apply SB.set1 | with_reducible apply SB.set2 | with_reducible apply SB.set3 | with_reducible apply SB.set4 | with_reducible apply SB.set5 | with_reducible apply SB.set6)
  · repeat (first | exact Chg.refl g w | with_reducible apply Chg.set)
set_option maxRecDepth 20000 in
set_option maxHeartbeats 3200000 in
theorem on_same10 (g : Nat) (e h l a : Int) (w : World) (s : SB w g 70 a 0 e h l 1 0)  :
    Calls Try.prog 33 #[.pointer (some ⟨g, 0, none⟩), .int .i64 1] w fun x w' => x = .returned (.int .i64 0) ∧ SB w' g 70 a 0 (wrap64 (e + 1)) h l 1 1 ∧ Chg g w w' := by
  obtain ⟨x0, x1, x2, x3, x4, x5, x6, xf⟩ := s.cells
  go_enter Try.func33, Try.ntmps33
  go_wp2
  go_ret
  refine And.intro (by simp) (And.intro ?_ ?_)
  · repeat (first | with_reducible exact s | with_reducible apply SB.set1 | with_reducible apply SB.set2 | with_reducible apply SB.set3 | with_reducible apply SB.set4 | with_reducible apply SB.set5 | with_reducible apply SB.set6)
  · repeat (first | exact Chg.refl g w | with_reducible apply Chg.set)
set_option maxRecDepth 20000 in
set_option maxHeartbeats 3200000 in
theorem on_same11 (g : Nat) (e h l a : Int) (w : World) (s : SB w g 70 a 0 e h l 1 1)  :
    Calls Try.prog 33 #[.pointer (some ⟨g, 0, none⟩), .int .i64 1] w fun x w' => x = .returned (.int .i64 0) ∧ SB w' g 70 a 0 (wrap64 (e + 1)) h l 1 2 ∧ Chg g w w' := by
  obtain ⟨x0, x1, x2, x3, x4, x5, x6, xf⟩ := s.cells
  go_enter Try.func33, Try.ntmps33
  go_wp2
  go_ret
  refine And.intro (by simp) (And.intro ?_ ?_)
  · repeat (first | with_reducible exact s | with_reducible apply SB.set1 | with_reducible apply SB.set2 | with_reducible apply SB.set3 | with_reducible apply SB.set4 | with_reducible apply SB.set5 | with_reducible apply SB.set6)
  · repeat (first | exact Chg.refl g w | with_reducible apply Chg.set)
set_option maxRecDepth 20000 in
set_option maxHeartbeats 3200000 in
theorem on_warm12 (g : Nat) (e h l a : Int) (w : World) (s : SB w g 70 a 0 e h l 1 2) (h1 : decide (l < 4) = true) :
    Calls Try.prog 33 #[.pointer (some ⟨g, 0, none⟩), .int .i64 1] w fun x w' => x = .returned (.int .i64 0) ∧ SB w' g 70 a 1 (wrap64 (e + 1)) h l 0 0 ∧ Chg g w w' := by
  obtain ⟨x0, x1, x2, x3, x4, x5, x6, xf⟩ := s.cells
  go_enter Try.func33, Try.ntmps33
  have S0 : SB ((w.setCell ⟨g, 2, none⟩ (.int .i64 (wrap64 (e + 1)))).setCell ⟨g, 6, none⟩ (.int .i64 3)) g 70 a 0 (wrap64 (e + 1)) h l 1 3 := SB.set6 (SB.set2 (s))
  have C : Chg g w ((w.setCell ⟨g, 2, none⟩ (.int .i64 (wrap64 (e + 1)))).setCell ⟨g, 6, none⟩ (.int .i64 3)) := Chg.set (Chg.set (Chg.refl g w) 2 (.int .i64 (wrap64 (e + 1)))) 6 (.int .i64 3)
  have B := become_calls g 1 a 0 (wrap64 (e + 1)) h l 1 3 _ S0
  go_wp2_with fail
  with_reducible refine Calls.mono B ?_
  rintro x W ⟨rfl, S, C2⟩
  have C := Chg.trans C C2
  clear B S0 C2 x0 x1 x2 x3 x4 x5 x6 xf
  obtain ⟨x0, x1, x2, x3, x4, x5, x6, xf⟩ := S.cells
  go_wp2
  go_ret
  refine And.intro (by simp) (And.intro ?_ ?_)
  · repeat (first | with_reducible exact S | with_reducible apply SB.set1 | with_reducible apply SB.set2 | with_reducible apply SB.set3 | with_reducible apply SB.set4 | with_reducible apply SB.set5 | with_reducible apply SB.set6)
  · repeat (first | with_reducible exact C | with_reducible apply Chg.set)
set_option maxRecDepth 20000 in
set_option maxHeartbeats 3200000 in
theorem on_stay12 (g : Nat) (e h l a : Int) (w : World) (s : SB w g 70 a 0 e h l 1 2) (h1 : decide (l < 4) = false) :
    Calls Try.prog 33 #[.pointer (some ⟨g, 0, none⟩), .int .i64 1] w fun x w' => x = .returned (.int .i64 0) ∧ SB w' g 70 a 0 (wrap64 (e + 1)) h l 1 3 ∧ Chg g w w' := by
  obtain ⟨x0, x1, x2, x3, x4, x5, x6, xf⟩ := s.cells
  go_enter Try.func33, Try.ntmps33
  go_wp2
  go_ret
  refine And.intro (by simp) (And.intro ?_ ?_)
  · repeat (first | with_reducible exact s | with_reducible apply SB.set1 | with_reducible apply SB.set2 | with_reducible apply SB.set3 | with_reducible apply SB.set4 | with_reducible apply SB.set5 | with_reducible apply SB.set6)
  · repeat (first | exact Chg.refl g w | with_reducible apply Chg.set)
set_option maxRecDepth 20000 in
set_option maxHeartbeats 3200000 in
theorem on_warm13 (g : Nat) (e h l a : Int) (w : World) (s : SB w g 70 a 0 e h l 1 3) (h1 : decide (l < 4) = true) :
    Calls Try.prog 33 #[.pointer (some ⟨g, 0, none⟩), .int .i64 1] w fun x w' => x = .returned (.int .i64 0) ∧ SB w' g 70 a 1 (wrap64 (e + 1)) h l 0 0 ∧ Chg g w w' := by
  obtain ⟨x0, x1, x2, x3, x4, x5, x6, xf⟩ := s.cells
  go_enter Try.func33, Try.ntmps33
  have S0 : SB ((w.setCell ⟨g, 2, none⟩ (.int .i64 (wrap64 (e + 1)))).setCell ⟨g, 6, none⟩ (.int .i64 3)) g 70 a 0 (wrap64 (e + 1)) h l 1 3 := SB.set6 (SB.set2 (s))
  have C : Chg g w ((w.setCell ⟨g, 2, none⟩ (.int .i64 (wrap64 (e + 1)))).setCell ⟨g, 6, none⟩ (.int .i64 3)) := Chg.set (Chg.set (Chg.refl g w) 2 (.int .i64 (wrap64 (e + 1)))) 6 (.int .i64 3)
  have B := become_calls g 1 a 0 (wrap64 (e + 1)) h l 1 3 _ S0
  go_wp2_with fail
  with_reducible refine Calls.mono B ?_
  rintro x W ⟨rfl, S, C2⟩
  have C := Chg.trans C C2
  clear B S0 C2 x0 x1 x2 x3 x4 x5 x6 xf
  obtain ⟨x0, x1, x2, x3, x4, x5, x6, xf⟩ := S.cells
  go_wp2
  go_ret
  refine And.intro (by simp) (And.intro ?_ ?_)
  · repeat (first | with_reducible exact S | with_reducible apply SB.set1 | with_reducible apply SB.set2 | with_reducible apply SB.set3 | with_reducible apply SB.set4 | with_reducible apply SB.set5 | with_reducible apply SB.set6)
  · repeat (first | with_reducible exact C | with_reducible apply Chg.set)
set_option maxRecDepth 20000 in
set_option maxHeartbeats 3200000 in
theorem on_stay13 (g : Nat) (e h l a : Int) (w : World) (s : SB w g 70 a 0 e h l 1 3) (h1 : decide (l < 4) = false) :
    Calls Try.prog 33 #[.pointer (some ⟨g, 0, none⟩), .int .i64 1] w fun x w' => x = .returned (.int .i64 0) ∧ SB w' g 70 a 0 (wrap64 (e + 1)) h l 1 3 ∧ Chg g w w' := by
  obtain ⟨x0, x1, x2, x3, x4, x5, x6, xf⟩ := s.cells
  go_enter Try.func33, Try.ntmps33
  go_wp2
  go_ret
  refine And.intro (by simp) (And.intro ?_ ?_)
  · repeat (first | with_reducible exact s | with_reducible apply SB.set1 | with_reducible apply SB.set2 | with_reducible apply SB.set3 | with_reducible apply SB.set4 | with_reducible apply SB.set5 | with_reducible apply SB.set6)
  · repeat (first | exact Chg.refl g w | with_reducible apply Chg.set)
set_option maxRecDepth 20000 in
set_option maxHeartbeats 3200000 in
theorem on_fast2 (g : Nat) (e h l k r a : Int) (w : World) (s : SB w g 70 a 2 e h l k r)  :
    Calls Try.prog 33 #[.pointer (some ⟨g, 0, none⟩), .int .i64 2] w fun x w' => x = .returned (.int .i64 2) ∧ SB w' g 70 a 2 e (wrap64 (h + 1)) l k r ∧ Chg g w w' := by
  obtain ⟨x0, x1, x2, x3, x4, x5, x6, xf⟩ := s.cells
  go_enter Try.func33, Try.ntmps33
  go_wp2
  go_ret
  refine And.intro (by simp) (And.intro ?_ ?_)
  · repeat (first | with_reducible exact s | with_reducible apply SB.set1 | with_reducible apply SB.set2 | with_reducible apply SB.set3 | with_reducible apply SB.set4 | with_reducible apply SB.set5 | with_reducible apply SB.set6)
  · repeat (first | exact Chg.refl g w | with_reducible apply Chg.set)
set_option maxRecDepth 20000 in
set_option maxHeartbeats 3200000 in
theorem on_guard2 (g : Nat) (f e h l k r a : Int) (w : World) (s : SB w g 70 a f e h l k r) (h1 : (f != 0) = true) (h2 : (f == 2) = false) :
    Calls Try.prog 33 #[.pointer (some ⟨g, 0, none⟩), .int .i64 2] w fun x w' => x = .returned (.int .i64 0) ∧ SB w' g 70 a 0 (wrap64 (e + 1)) h (wrap64 (l + 1)) 2 1 ∧ Chg g w w' := by
  obtain ⟨x0, x1, x2, x3, x4, x5, x6, xf⟩ := s.cells
  go_enter Try.func33, Try.ntmps33
  have S0 : SB (w.setCell ⟨g, 4, none⟩ (.int .i64 (wrap64 (l + 1)))) g 70 a f e h (wrap64 (l + 1)) k r := SB.set4 (s)
  have C : Chg g w (w.setCell ⟨g, 4, none⟩ (.int .i64 (wrap64 (l + 1)))) := Chg.set (Chg.refl g w) 4 (.int .i64 (wrap64 (l + 1)))
  have B := become_calls g 0 a f e h (wrap64 (l + 1)) k r _ S0
  go_wp2_with fail
  with_reducible refine Calls.mono B ?_
  rintro x W ⟨rfl, S, C2⟩
  have C := Chg.trans C C2
  clear B S0 C2 x0 x1 x2 x3 x4 x5 x6 xf
  obtain ⟨x0, x1, x2, x3, x4, x5, x6, xf⟩ := S.cells
  go_wp2
  go_ret
  refine And.intro (by simp) (And.intro ?_ ?_)
  · repeat (first | with_reducible exact S | with_reducible apply SB.set1 | with_reducible apply SB.set2 | with_reducible apply SB.set3 | with_reducible apply SB.set4 | with_reducible apply SB.set5 | with_reducible apply SB.set6)
  · repeat (first | with_reducible exact C | with_reducible apply Chg.set)
set_option maxRecDepth 20000 in
set_option maxHeartbeats 3200000 in
theorem on_new2 (g : Nat) (e h l k r a : Int) (w : World) (s : SB w g 70 a 0 e h l k r) (h1 : (2 == k) = false) :
    Calls Try.prog 33 #[.pointer (some ⟨g, 0, none⟩), .int .i64 2] w fun x w' => x = .returned (.int .i64 0) ∧ SB w' g 70 a 0 (wrap64 (e + 1)) h l 2 1 ∧ Chg g w w' := by
  obtain ⟨x0, x1, x2, x3, x4, x5, x6, xf⟩ := s.cells
  go_enter Try.func33, Try.ntmps33
  go_wp2
  go_ret
  refine And.intro (by simp) (And.intro ?_ ?_)
  · repeat (first | with_reducible exact s | with_reducible apply SB.set1 | with_reducible apply SB.set2 | with_reducible apply SB.set3 | with_reducible apply SB.set4 | with_reducible apply SB.set5 | with_reducible apply SB.set6)
  · repeat (first | exact Chg.refl g w | with_reducible apply Chg.set)
set_option maxRecDepth 20000 in
set_option maxHeartbeats 3200000 in
theorem on_same20 (g : Nat) (e h l a : Int) (w : World) (s : SB w g 70 a 0 e h l 2 0)  :
    Calls Try.prog 33 #[.pointer (some ⟨g, 0, none⟩), .int .i64 2] w fun x w' => x = .returned (.int .i64 0) ∧ SB w' g 70 a 0 (wrap64 (e + 1)) h l 2 1 ∧ Chg g w w' := by
  obtain ⟨x0, x1, x2, x3, x4, x5, x6, xf⟩ := s.cells
  go_enter Try.func33, Try.ntmps33
  go_wp2
  go_ret
  refine And.intro (by simp) (And.intro ?_ ?_)
  · repeat (first | with_reducible exact s | with_reducible apply SB.set1 | with_reducible apply SB.set2 | with_reducible apply SB.set3 | with_reducible apply SB.set4 | with_reducible apply SB.set5 | with_reducible apply SB.set6)
  · repeat (first | exact Chg.refl g w | with_reducible apply Chg.set)
set_option maxRecDepth 20000 in
set_option maxHeartbeats 3200000 in
theorem on_same21 (g : Nat) (e h l a : Int) (w : World) (s : SB w g 70 a 0 e h l 2 1)  :
    Calls Try.prog 33 #[.pointer (some ⟨g, 0, none⟩), .int .i64 2] w fun x w' => x = .returned (.int .i64 0) ∧ SB w' g 70 a 0 (wrap64 (e + 1)) h l 2 2 ∧ Chg g w w' := by
  obtain ⟨x0, x1, x2, x3, x4, x5, x6, xf⟩ := s.cells
  go_enter Try.func33, Try.ntmps33
  go_wp2
  go_ret
  refine And.intro (by simp) (And.intro ?_ ?_)
  · repeat (first | with_reducible exact s | with_reducible apply SB.set1 | with_reducible apply SB.set2 | with_reducible apply SB.set3 | with_reducible apply SB.set4 | with_reducible apply SB.set5 | with_reducible apply SB.set6)
  · repeat (first | exact Chg.refl g w | with_reducible apply Chg.set)
set_option maxRecDepth 20000 in
set_option maxHeartbeats 3200000 in
theorem on_warm22 (g : Nat) (e h l a : Int) (w : World) (s : SB w g 70 a 0 e h l 2 2) (h1 : decide (l < 4) = true) :
    Calls Try.prog 33 #[.pointer (some ⟨g, 0, none⟩), .int .i64 2] w fun x w' => x = .returned (.int .i64 0) ∧ SB w' g 70 a 2 (wrap64 (e + 1)) h l 0 0 ∧ Chg g w w' := by
  obtain ⟨x0, x1, x2, x3, x4, x5, x6, xf⟩ := s.cells
  go_enter Try.func33, Try.ntmps33
  have S0 : SB ((w.setCell ⟨g, 2, none⟩ (.int .i64 (wrap64 (e + 1)))).setCell ⟨g, 6, none⟩ (.int .i64 3)) g 70 a 0 (wrap64 (e + 1)) h l 2 3 := SB.set6 (SB.set2 (s))
  have C : Chg g w ((w.setCell ⟨g, 2, none⟩ (.int .i64 (wrap64 (e + 1)))).setCell ⟨g, 6, none⟩ (.int .i64 3)) := Chg.set (Chg.set (Chg.refl g w) 2 (.int .i64 (wrap64 (e + 1)))) 6 (.int .i64 3)
  have B := become_calls g 2 a 0 (wrap64 (e + 1)) h l 2 3 _ S0
  go_wp2_with fail
  with_reducible refine Calls.mono B ?_
  rintro x W ⟨rfl, S, C2⟩
  have C := Chg.trans C C2
  clear B S0 C2 x0 x1 x2 x3 x4 x5 x6 xf
  obtain ⟨x0, x1, x2, x3, x4, x5, x6, xf⟩ := S.cells
  go_wp2
  go_ret
  refine And.intro (by simp) (And.intro ?_ ?_)
  · repeat (first | with_reducible exact S | with_reducible apply SB.set1 | with_reducible apply SB.set2 | with_reducible apply SB.set3 | with_reducible apply SB.set4 | with_reducible apply SB.set5 | with_reducible apply SB.set6)
  · repeat (first | with_reducible exact C | with_reducible apply Chg.set)
set_option maxRecDepth 20000 in
set_option maxHeartbeats 3200000 in
theorem on_stay22 (g : Nat) (e h l a : Int) (w : World) (s : SB w g 70 a 0 e h l 2 2) (h1 : decide (l < 4) = false) :
    Calls Try.prog 33 #[.pointer (some ⟨g, 0, none⟩), .int .i64 2] w fun x w' => x = .returned (.int .i64 0) ∧ SB w' g 70 a 0 (wrap64 (e + 1)) h l 2 3 ∧ Chg g w w' := by
  obtain ⟨x0, x1, x2, x3, x4, x5, x6, xf⟩ := s.cells
  go_enter Try.func33, Try.ntmps33
  go_wp2
  go_ret
  refine And.intro (by simp) (And.intro ?_ ?_)
  · repeat (first | with_reducible exact s | with_reducible apply SB.set1 | with_reducible apply SB.set2 | with_reducible apply SB.set3 | with_reducible apply SB.set4 | with_reducible apply SB.set5 | with_reducible apply SB.set6)
  · repeat (first | exact Chg.refl g w | with_reducible apply Chg.set)
set_option maxRecDepth 20000 in
set_option maxHeartbeats 3200000 in
theorem on_warm23 (g : Nat) (e h l a : Int) (w : World) (s : SB w g 70 a 0 e h l 2 3) (h1 : decide (l < 4) = true) :
    Calls Try.prog 33 #[.pointer (some ⟨g, 0, none⟩), .int .i64 2] w fun x w' => x = .returned (.int .i64 0) ∧ SB w' g 70 a 2 (wrap64 (e + 1)) h l 0 0 ∧ Chg g w w' := by
  obtain ⟨x0, x1, x2, x3, x4, x5, x6, xf⟩ := s.cells
  go_enter Try.func33, Try.ntmps33
  have S0 : SB ((w.setCell ⟨g, 2, none⟩ (.int .i64 (wrap64 (e + 1)))).setCell ⟨g, 6, none⟩ (.int .i64 3)) g 70 a 0 (wrap64 (e + 1)) h l 2 3 := SB.set6 (SB.set2 (s))
  have C : Chg g w ((w.setCell ⟨g, 2, none⟩ (.int .i64 (wrap64 (e + 1)))).setCell ⟨g, 6, none⟩ (.int .i64 3)) := Chg.set (Chg.set (Chg.refl g w) 2 (.int .i64 (wrap64 (e + 1)))) 6 (.int .i64 3)
  have B := become_calls g 2 a 0 (wrap64 (e + 1)) h l 2 3 _ S0
  go_wp2_with fail
  with_reducible refine Calls.mono B ?_
  rintro x W ⟨rfl, S, C2⟩
  have C := Chg.trans C C2
  clear B S0 C2 x0 x1 x2 x3 x4 x5 x6 xf
  obtain ⟨x0, x1, x2, x3, x4, x5, x6, xf⟩ := S.cells
  go_wp2
  go_ret
  refine And.intro (by simp) (And.intro ?_ ?_)
  · repeat (first | with_reducible exact S | with_reducible apply SB.set1 | with_reducible apply SB.set2 | with_reducible apply SB.set3 | with_reducible apply SB.set4 | with_reducible apply SB.set5 | with_reducible apply SB.set6)
  · repeat (first | with_reducible exact C | with_reducible apply Chg.set)
set_option maxRecDepth 20000 in
set_option maxHeartbeats 3200000 in
theorem on_stay23 (g : Nat) (e h l a : Int) (w : World) (s : SB w g 70 a 0 e h l 2 3) (h1 : decide (l < 4) = false) :
    Calls Try.prog 33 #[.pointer (some ⟨g, 0, none⟩), .int .i64 2] w fun x w' => x = .returned (.int .i64 0) ∧ SB w' g 70 a 0 (wrap64 (e + 1)) h l 2 3 ∧ Chg g w w' := by
  obtain ⟨x0, x1, x2, x3, x4, x5, x6, xf⟩ := s.cells
  go_enter Try.func33, Try.ntmps33
  go_wp2
  go_ret
  refine And.intro (by simp) (And.intro ?_ ?_)
  · repeat (first | with_reducible exact s | with_reducible apply SB.set1 | with_reducible apply SB.set2 | with_reducible apply SB.set3 | with_reducible apply SB.set4 | with_reducible apply SB.set5 | with_reducible apply SB.set6)
  · repeat (first | exact Chg.refl g w | with_reducible apply Chg.set)
set_option maxRecDepth 20000 in
set_option maxHeartbeats 3200000 in
theorem on_guard0 (g : Nat) (f e h l k r p a : Int) (w : World) (s : SB w g 70 a f e h l k r) (h3 : (p != 1) = true) (h4 : (p != 2) = true) (h1 : (f != 0) = true) (h2 : (f == 0) = false) :
    Calls Try.prog 33 #[.pointer (some ⟨g, 0, none⟩), .int .i64 p] w fun x w' => x = .returned (.int .i64 0) ∧ SB w' g 70 a 0 (wrap64 (e + 1)) h (wrap64 (l + 1)) 0 0 ∧ Chg g w w' := by
  obtain ⟨x0, x1, x2, x3, x4, x5, x6, xf⟩ := s.cells
  go_enter Try.func33, Try.ntmps33
  have S0 : SB (w.setCell ⟨g, 4, none⟩ (.int .i64 (wrap64 (l + 1)))) g 70 a f e h (wrap64 (l + 1)) k r := SB.set4 (s)
  have C : Chg g w (w.setCell ⟨g, 4, none⟩ (.int .i64 (wrap64 (l + 1)))) := Chg.set (Chg.refl g w) 4 (.int .i64 (wrap64 (l + 1)))
  have B := become_calls g 0 a f e h (wrap64 (l + 1)) k r _ S0
  go_wp2_with fail
  with_reducible refine Calls.mono B ?_
  rintro x W ⟨rfl, S, C2⟩
  have C := Chg.trans C C2
  clear B S0 C2 x0 x1 x2 x3 x4 x5 x6 xf
  obtain ⟨x0, x1, x2, x3, x4, x5, x6, xf⟩ := S.cells
  go_wp2
  go_ret
  refine And.intro (by simp) (And.intro ?_ ?_)
  · repeat (first | with_reducible exact S | with_reducible apply SB.set1 | with_reducible apply SB.set2 | with_reducible apply SB.set3 | with_reducible apply SB.set4 | with_reducible apply SB.set5 | with_reducible apply SB.set6)
  · repeat (first | with_reducible exact C | with_reducible apply Chg.set)
set_option maxRecDepth 20000 in
set_option maxHeartbeats 3200000 in
theorem on_gen0 (g : Nat) (e h l k r p a : Int) (w : World) (s : SB w g 70 a 0 e h l k r) (h3 : (p != 1) = true) (h4 : (p != 2) = true) :
    Calls Try.prog 33 #[.pointer (some ⟨g, 0, none⟩), .int .i64 p] w fun x w' => x = .returned (.int .i64 0) ∧ SB w' g 70 a 0 (wrap64 (e + 1)) h l k 0 ∧ Chg g w w' := by
  obtain ⟨x0, x1, x2, x3, x4, x5, x6, xf⟩ := s.cells
  go_enter Try.func33, Try.ntmps33
  go_wp2
  go_ret
  refine And.intro (by simp) (And.intro ?_ ?_)
  · repeat (first | with_reducible exact s | with_reducible apply SB.set1 | with_reducible apply SB.set2 | with_reducible apply SB.set3 | with_reducible apply SB.set4 | with_reducible apply SB.set5 | with_reducible apply SB.set6)
  · repeat (first | exact Chg.refl g w | with_reducible apply Chg.set)
end Go.Proofs.Ytpoedalbgcpgjaa

/- On, path by path, of the reference's site: what it answers and what the site's block then holds. -/
import Derived.Test.YtpoedalbgcpgjaaSA
import Derived.Deep.DeepCutAuto
namespace Go.Proofs.Ytpoedalbgcpgjaa
open Go.RowKit
set_option linter.unusedVariables false
set_option linter.unusedSimpArgs false

set_option maxRecDepth 20000 in
set_option maxHeartbeats 3200000 in
theorem ref_fast1 (g : Nat) (e h l k r a : Int) (w : World) (s : SB w g 57 a 1 e h l k r)  :
    Calls Try.prog 45 #[.pointer (some ⟨g, 0, none⟩), .int .i64 1] w fun x w' => x = .returned (.int .i64 1) ∧ SB w' g 57 a 1 e (wrap64 (h + 1)) l k r ∧ Chg g w w' := by
  obtain ⟨x0, x1, x2, x3, x4, x5, x6, xf⟩ := s.cells
  go_enter Try.func45, Try.ntmps45
  go_wp2
  go_ret
  refine And.intro (by simp) (And.intro ?_ ?_)
  · repeat (first | with_reducible exact s | with_reducible apply SB.set1 | with_reducible apply SB.set2 | with_reducible apply SB.set3 | with_reducible apply SB.set4 | with_reducible apply SB.set5 | with_reducible apply SB.set6)
  · repeat (first | with_reducible apply Chg.set | exact Chg.refl g w)
set_option maxRecDepth 20000 in
set_option maxHeartbeats 3200000 in
theorem ref_guard1 (g : Nat) (f e h l k r a : Int) (w : World) (s : SB w g 57 a f e h l k r) (h1 : (f != 0) = true) (h2 : (f == 1) = false) :
    Calls Try.prog 45 #[.pointer (some ⟨g, 0, none⟩), .int .i64 1] w fun x w' => x = .returned (.int .i64 0) ∧ SB w' g 57 a 0 (wrap64 (e + 1)) h (wrap64 (l + 1)) 1 1 ∧ Chg g w w' := by
  obtain ⟨x0, x1, x2, x3, x4, x5, x6, xf⟩ := s.cells
  go_enter Try.func45, Try.ntmps45
  go_upto_region 10 with fail
  have S : SB (((w.setCell ⟨g, 4, none⟩ (.int .i64 (wrap64 (l + 1)))).setCell ⟨g, 1, none⟩ (.int .i64 0)).setCell ⟨g, 6, none⟩ (.int .i64 0)) g 57 a 0 e h (wrap64 (l + 1)) k 0 := SB.set6 (SB.set1 (SB.set4 s))
  have C : Chg g w (((w.setCell ⟨g, 4, none⟩ (.int .i64 (wrap64 (l + 1)))).setCell ⟨g, 1, none⟩ (.int .i64 0)).setCell ⟨g, 6, none⟩ (.int .i64 0)) := (((Chg.refl g w).set 4 (.int .i64 (wrap64 (l + 1)))).set 1 (.int .i64 0)).set 6 (.int .i64 0)
  clear x0 x1 x2 x3 x4 x5 x6 xf
  generalize (((w.setCell ⟨g, 4, none⟩ (.int .i64 (wrap64 (l + 1)))).setCell ⟨g, 1, none⟩ (.int .i64 0)).setCell ⟨g, 6, none⟩ (.int .i64 0)) = W at S C ⊢
  obtain ⟨x0, x1, x2, x3, x4, x5, x6, xf⟩ := S.cells
  go_wp2
  go_ret
  refine And.intro (by simp) (And.intro ?_ ?_)
  · repeat (first | with_reducible exact S | with_reducible apply SB.set1 | with_reducible apply SB.set2 | with_reducible apply SB.set3 | with_reducible apply SB.set4 | with_reducible apply SB.set5 | with_reducible apply SB.set6)
  · repeat (first | with_reducible apply Chg.set | with_reducible exact C)
set_option maxRecDepth 20000 in
set_option maxHeartbeats 3200000 in
theorem ref_zero1 (g : Nat) (e h l k a : Int) (w : World) (s : SB w g 57 a 0 e h l k 0)  :
    Calls Try.prog 45 #[.pointer (some ⟨g, 0, none⟩), .int .i64 1] w fun x w' => x = .returned (.int .i64 0) ∧ SB w' g 57 a 0 (wrap64 (e + 1)) h l 1 1 ∧ Chg g w w' := by
  obtain ⟨x0, x1, x2, x3, x4, x5, x6, xf⟩ := s.cells
  go_enter Try.func45, Try.ntmps45
  go_wp2
  go_ret
  refine And.intro (by simp) (And.intro ?_ ?_)
  · repeat (first | with_reducible exact s | with_reducible apply SB.set1 | with_reducible apply SB.set2 | with_reducible apply SB.set3 | with_reducible apply SB.set4 | with_reducible apply SB.set5 | with_reducible apply SB.set6)
  · repeat (first | with_reducible apply Chg.set | exact Chg.refl g w)
set_option maxRecDepth 20000 in
set_option maxHeartbeats 3200000 in
theorem ref_new11 (g : Nat) (e h l k a : Int) (w : World) (s : SB w g 57 a 0 e h l k 1) (h1 : (k == 1) = false) :
    Calls Try.prog 45 #[.pointer (some ⟨g, 0, none⟩), .int .i64 1] w fun x w' => x = .returned (.int .i64 0) ∧ SB w' g 57 a 0 (wrap64 (e + 1)) h l 1 1 ∧ Chg g w w' := by
  obtain ⟨x0, x1, x2, x3, x4, x5, x6, xf⟩ := s.cells
  go_enter Try.func45, Try.ntmps45
  go_wp2
  go_ret
  refine And.intro (by simp) (And.intro ?_ ?_)
  · repeat (first | with_reducible exact s | with_reducible apply SB.set1 | with_reducible apply SB.set2 | with_reducible apply SB.set3 | with_reducible apply SB.set4 | with_reducible apply SB.set5 | with_reducible apply SB.set6)
  · repeat (first | with_reducible apply Chg.set | exact Chg.refl g w)
set_option maxRecDepth 20000 in
set_option maxHeartbeats 3200000 in
theorem ref_new12 (g : Nat) (e h l k a : Int) (w : World) (s : SB w g 57 a 0 e h l k 2) (h1 : (k == 1) = false) :
    Calls Try.prog 45 #[.pointer (some ⟨g, 0, none⟩), .int .i64 1] w fun x w' => x = .returned (.int .i64 0) ∧ SB w' g 57 a 0 (wrap64 (e + 1)) h l 1 1 ∧ Chg g w w' := by
  obtain ⟨x0, x1, x2, x3, x4, x5, x6, xf⟩ := s.cells
  go_enter Try.func45, Try.ntmps45
  go_wp2
  go_ret
  refine And.intro (by simp) (And.intro ?_ ?_)
  · repeat (first | with_reducible exact s | with_reducible apply SB.set1 | with_reducible apply SB.set2 | with_reducible apply SB.set3 | with_reducible apply SB.set4 | with_reducible apply SB.set5 | with_reducible apply SB.set6)
  · repeat (first | with_reducible apply Chg.set | exact Chg.refl g w)
set_option maxRecDepth 20000 in
set_option maxHeartbeats 3200000 in
theorem ref_new13 (g : Nat) (e h l k a : Int) (w : World) (s : SB w g 57 a 0 e h l k 3) (h1 : (k == 1) = false) :
    Calls Try.prog 45 #[.pointer (some ⟨g, 0, none⟩), .int .i64 1] w fun x w' => x = .returned (.int .i64 0) ∧ SB w' g 57 a 0 (wrap64 (e + 1)) h l 1 1 ∧ Chg g w w' := by
  obtain ⟨x0, x1, x2, x3, x4, x5, x6, xf⟩ := s.cells
  go_enter Try.func45, Try.ntmps45
  go_wp2
  go_ret
  refine And.intro (by simp) (And.intro ?_ ?_)
  · repeat (first | with_reducible exact s | with_reducible apply SB.set1 | with_reducible apply SB.set2 | with_reducible apply SB.set3 | with_reducible apply SB.set4 | with_reducible apply SB.set5 | with_reducible apply SB.set6)
  · repeat (first | with_reducible apply Chg.set | exact Chg.refl g w)
set_option maxRecDepth 20000 in
set_option maxHeartbeats 3200000 in
theorem ref_same11 (g : Nat) (e h l a : Int) (w : World) (s : SB w g 57 a 0 e h l 1 1)  :
    Calls Try.prog 45 #[.pointer (some ⟨g, 0, none⟩), .int .i64 1] w fun x w' => x = .returned (.int .i64 0) ∧ SB w' g 57 a 0 (wrap64 (e + 1)) h l 1 2 ∧ Chg g w w' := by
  obtain ⟨x0, x1, x2, x3, x4, x5, x6, xf⟩ := s.cells
  go_enter Try.func45, Try.ntmps45
  go_wp2
  go_ret
  refine And.intro (by simp) (And.intro ?_ ?_)
  · repeat (first | with_reducible exact s | with_reducible apply SB.set1 | with_reducible apply SB.set2 | with_reducible apply SB.set3 | with_reducible apply SB.set4 | with_reducible apply SB.set5 | with_reducible apply SB.set6)
  · repeat (first | with_reducible apply Chg.set | exact Chg.refl g w)
set_option maxRecDepth 20000 in
set_option maxHeartbeats 3200000 in
theorem ref_warm12 (g : Nat) (e h l a : Int) (w : World) (s : SB w g 57 a 0 e h l 1 2) (h1 : decide (l < 4) = true) :
    Calls Try.prog 45 #[.pointer (some ⟨g, 0, none⟩), .int .i64 1] w fun x w' => x = .returned (.int .i64 0) ∧ SB w' g 57 a 1 (wrap64 (e + 1)) h l 1 0 ∧ Chg g w w' := by
  obtain ⟨x0, x1, x2, x3, x4, x5, x6, xf⟩ := s.cells
  go_enter Try.func45, Try.ntmps45
  go_wp2
  go_ret
  refine And.intro (by simp) (And.intro ?_ ?_)
  · repeat (first | with_reducible exact s | with_reducible apply SB.set1 | with_reducible apply SB.set2 | with_reducible apply SB.set3 | with_reducible apply SB.set4 | with_reducible apply SB.set5 | with_reducible apply SB.set6)
  · repeat (first | with_reducible apply Chg.set | exact Chg.refl g w)
set_option maxRecDepth 20000 in
set_option maxHeartbeats 3200000 in
theorem ref_stay12 (g : Nat) (e h l a : Int) (w : World) (s : SB w g 57 a 0 e h l 1 2) (h1 : decide (l < 4) = false) :
    Calls Try.prog 45 #[.pointer (some ⟨g, 0, none⟩), .int .i64 1] w fun x w' => x = .returned (.int .i64 0) ∧ SB w' g 57 a 0 (wrap64 (e + 1)) h l 1 3 ∧ Chg g w w' := by
  obtain ⟨x0, x1, x2, x3, x4, x5, x6, xf⟩ := s.cells
  go_enter Try.func45, Try.ntmps45
  go_wp2
  go_ret
  refine And.intro (by simp) (And.intro ?_ ?_)
  · repeat (first | with_reducible exact s | with_reducible apply SB.set1 | with_reducible apply SB.set2 | with_reducible apply SB.set3 | with_reducible apply SB.set4 | with_reducible apply SB.set5 | with_reducible apply SB.set6)
  · repeat (first | with_reducible apply Chg.set | exact Chg.refl g w)
set_option maxRecDepth 20000 in
set_option maxHeartbeats 3200000 in
theorem ref_warm13 (g : Nat) (e h l a : Int) (w : World) (s : SB w g 57 a 0 e h l 1 3) (h1 : decide (l < 4) = true) :
    Calls Try.prog 45 #[.pointer (some ⟨g, 0, none⟩), .int .i64 1] w fun x w' => x = .returned (.int .i64 0) ∧ SB w' g 57 a 1 (wrap64 (e + 1)) h l 1 0 ∧ Chg g w w' := by
  obtain ⟨x0, x1, x2, x3, x4, x5, x6, xf⟩ := s.cells
  go_enter Try.func45, Try.ntmps45
  go_wp2
  go_ret
  refine And.intro (by simp) (And.intro ?_ ?_)
  · repeat (first | with_reducible exact s | with_reducible apply SB.set1 | with_reducible apply SB.set2 | with_reducible apply SB.set3 | with_reducible apply SB.set4 | with_reducible apply SB.set5 | with_reducible apply SB.set6)
  · repeat (first | with_reducible apply Chg.set | exact Chg.refl g w)
set_option maxRecDepth 20000 in
set_option maxHeartbeats 3200000 in
theorem ref_stay13 (g : Nat) (e h l a : Int) (w : World) (s : SB w g 57 a 0 e h l 1 3) (h1 : decide (l < 4) = false) :
    Calls Try.prog 45 #[.pointer (some ⟨g, 0, none⟩), .int .i64 1] w fun x w' => x = .returned (.int .i64 0) ∧ SB w' g 57 a 0 (wrap64 (e + 1)) h l 1 3 ∧ Chg g w w' := by
  obtain ⟨x0, x1, x2, x3, x4, x5, x6, xf⟩ := s.cells
  go_enter Try.func45, Try.ntmps45
  go_wp2
  go_ret
  refine And.intro (by simp) (And.intro ?_ ?_)
  · repeat (first | with_reducible exact s | with_reducible apply SB.set1 | with_reducible apply SB.set2 | with_reducible apply SB.set3 | with_reducible apply SB.set4 | with_reducible apply SB.set5 | with_reducible apply SB.set6)
  · repeat (first | with_reducible apply Chg.set | exact Chg.refl g w)
set_option maxRecDepth 20000 in
set_option maxHeartbeats 3200000 in
theorem ref_fast2 (g : Nat) (e h l k r a : Int) (w : World) (s : SB w g 57 a 2 e h l k r)  :
    Calls Try.prog 45 #[.pointer (some ⟨g, 0, none⟩), .int .i64 2] w fun x w' => x = .returned (.int .i64 2) ∧ SB w' g 57 a 2 e (wrap64 (h + 1)) l k r ∧ Chg g w w' := by
  obtain ⟨x0, x1, x2, x3, x4, x5, x6, xf⟩ := s.cells
  go_enter Try.func45, Try.ntmps45
  go_wp2
  go_ret
  refine And.intro (by simp) (And.intro ?_ ?_)
  · repeat (first | with_reducible exact s | with_reducible apply SB.set1 | with_reducible apply SB.set2 | with_reducible apply SB.set3 | with_reducible apply SB.set4 | with_reducible apply SB.set5 | with_reducible apply SB.set6)
  · repeat (first | with_reducible apply Chg.set | exact Chg.refl g w)
set_option maxRecDepth 20000 in
set_option maxHeartbeats 3200000 in
theorem ref_guard2 (g : Nat) (f e h l k r a : Int) (w : World) (s : SB w g 57 a f e h l k r) (h1 : (f != 0) = true) (h2 : (f == 2) = false) :
    Calls Try.prog 45 #[.pointer (some ⟨g, 0, none⟩), .int .i64 2] w fun x w' => x = .returned (.int .i64 0) ∧ SB w' g 57 a 0 (wrap64 (e + 1)) h (wrap64 (l + 1)) 2 1 ∧ Chg g w w' := by
  obtain ⟨x0, x1, x2, x3, x4, x5, x6, xf⟩ := s.cells
  go_enter Try.func45, Try.ntmps45
  go_upto_region 10 with fail
  have S : SB (((w.setCell ⟨g, 4, none⟩ (.int .i64 (wrap64 (l + 1)))).setCell ⟨g, 1, none⟩ (.int .i64 0)).setCell ⟨g, 6, none⟩ (.int .i64 0)) g 57 a 0 e h (wrap64 (l + 1)) k 0 := SB.set6 (SB.set1 (SB.set4 s))
  have C : Chg g w (((w.setCell ⟨g, 4, none⟩ (.int .i64 (wrap64 (l + 1)))).setCell ⟨g, 1, none⟩ (.int .i64 0)).setCell ⟨g, 6, none⟩ (.int .i64 0)) := (((Chg.refl g w).set 4 (.int .i64 (wrap64 (l + 1)))).set 1 (.int .i64 0)).set 6 (.int .i64 0)
  clear x0 x1 x2 x3 x4 x5 x6 xf
  generalize (((w.setCell ⟨g, 4, none⟩ (.int .i64 (wrap64 (l + 1)))).setCell ⟨g, 1, none⟩ (.int .i64 0)).setCell ⟨g, 6, none⟩ (.int .i64 0)) = W at S C ⊢
  obtain ⟨x0, x1, x2, x3, x4, x5, x6, xf⟩ := S.cells
  go_wp2
  go_ret
  refine And.intro (by simp) (And.intro ?_ ?_)
  · repeat (first | with_reducible exact S | with_reducible apply SB.set1 | with_reducible apply SB.set2 | with_reducible apply SB.set3 | with_reducible apply SB.set4 | with_reducible apply SB.set5 | with_reducible apply SB.set6)
  · repeat (first | with_reducible apply Chg.set | with_reducible exact C)
set_option maxRecDepth 20000 in
set_option maxHeartbeats 3200000 in
theorem ref_zero2 (g : Nat) (e h l k a : Int) (w : World) (s : SB w g 57 a 0 e h l k 0)  :
    Calls Try.prog 45 #[.pointer (some ⟨g, 0, none⟩), .int .i64 2] w fun x w' => x = .returned (.int .i64 0) ∧ SB w' g 57 a 0 (wrap64 (e + 1)) h l 2 1 ∧ Chg g w w' := by
  obtain ⟨x0, x1, x2, x3, x4, x5, x6, xf⟩ := s.cells
  go_enter Try.func45, Try.ntmps45
  go_wp2
  go_ret
  refine And.intro (by simp) (And.intro ?_ ?_)
  · repeat (first | with_reducible exact s | with_reducible apply SB.set1 | with_reducible apply SB.set2 | with_reducible apply SB.set3 | with_reducible apply SB.set4 | with_reducible apply SB.set5 | with_reducible apply SB.set6)
  · repeat (first | with_reducible apply Chg.set | exact Chg.refl g w)
set_option maxRecDepth 20000 in
set_option maxHeartbeats 3200000 in
theorem ref_new21 (g : Nat) (e h l k a : Int) (w : World) (s : SB w g 57 a 0 e h l k 1) (h1 : (k == 2) = false) :
    Calls Try.prog 45 #[.pointer (some ⟨g, 0, none⟩), .int .i64 2] w fun x w' => x = .returned (.int .i64 0) ∧ SB w' g 57 a 0 (wrap64 (e + 1)) h l 2 1 ∧ Chg g w w' := by
  obtain ⟨x0, x1, x2, x3, x4, x5, x6, xf⟩ := s.cells
  go_enter Try.func45, Try.ntmps45
  go_wp2
  go_ret
  refine And.intro (by simp) (And.intro ?_ ?_)
  · repeat (first | with_reducible exact s | with_reducible apply SB.set1 | with_reducible apply SB.set2 | with_reducible apply SB.set3 | with_reducible apply SB.set4 | with_reducible apply SB.set5 | with_reducible apply SB.set6)
  · repeat (first | with_reducible apply Chg.set | exact Chg.refl g w)
set_option maxRecDepth 20000 in
set_option maxHeartbeats 3200000 in
theorem ref_new22 (g : Nat) (e h l k a : Int) (w : World) (s : SB w g 57 a 0 e h l k 2) (h1 : (k == 2) = false) :
    Calls Try.prog 45 #[.pointer (some ⟨g, 0, none⟩), .int .i64 2] w fun x w' => x = .returned (.int .i64 0) ∧ SB w' g 57 a 0 (wrap64 (e + 1)) h l 2 1 ∧ Chg g w w' := by
  obtain ⟨x0, x1, x2, x3, x4, x5, x6, xf⟩ := s.cells
  go_enter Try.func45, Try.ntmps45
  go_wp2
  go_ret
  refine And.intro (by simp) (And.intro ?_ ?_)
  · repeat (first | with_reducible exact s | with_reducible apply SB.set1 | with_reducible apply SB.set2 | with_reducible apply SB.set3 | with_reducible apply SB.set4 | with_reducible apply SB.set5 | with_reducible apply SB.set6)
  · repeat (first | with_reducible apply Chg.set | exact Chg.refl g w)
set_option maxRecDepth 20000 in
set_option maxHeartbeats 3200000 in
theorem ref_new23 (g : Nat) (e h l k a : Int) (w : World) (s : SB w g 57 a 0 e h l k 3) (h1 : (k == 2) = false) :
    Calls Try.prog 45 #[.pointer (some ⟨g, 0, none⟩), .int .i64 2] w fun x w' => x = .returned (.int .i64 0) ∧ SB w' g 57 a 0 (wrap64 (e + 1)) h l 2 1 ∧ Chg g w w' := by
  obtain ⟨x0, x1, x2, x3, x4, x5, x6, xf⟩ := s.cells
  go_enter Try.func45, Try.ntmps45
  go_wp2
  go_ret
  refine And.intro (by simp) (And.intro ?_ ?_)
  · repeat (first | with_reducible exact s | with_reducible apply SB.set1 | with_reducible apply SB.set2 | with_reducible apply SB.set3 | with_reducible apply SB.set4 | with_reducible apply SB.set5 | with_reducible apply SB.set6)
  · repeat (first | with_reducible apply Chg.set | exact Chg.refl g w)
set_option maxRecDepth 20000 in
set_option maxHeartbeats 3200000 in
theorem ref_same21 (g : Nat) (e h l a : Int) (w : World) (s : SB w g 57 a 0 e h l 2 1)  :
    Calls Try.prog 45 #[.pointer (some ⟨g, 0, none⟩), .int .i64 2] w fun x w' => x = .returned (.int .i64 0) ∧ SB w' g 57 a 0 (wrap64 (e + 1)) h l 2 2 ∧ Chg g w w' := by
  obtain ⟨x0, x1, x2, x3, x4, x5, x6, xf⟩ := s.cells
  go_enter Try.func45, Try.ntmps45
  go_wp2
  go_ret
  refine And.intro (by simp) (And.intro ?_ ?_)
  · repeat (first | with_reducible exact s | with_reducible apply SB.set1 | with_reducible apply SB.set2 | with_reducible apply SB.set3 | with_reducible apply SB.set4 | with_reducible apply SB.set5 | with_reducible apply SB.set6)
  · repeat (first | with_reducible apply Chg.set | exact Chg.refl g w)
set_option maxRecDepth 20000 in
set_option maxHeartbeats 3200000 in
theorem ref_warm22 (g : Nat) (e h l a : Int) (w : World) (s : SB w g 57 a 0 e h l 2 2) (h1 : decide (l < 4) = true) :
    Calls Try.prog 45 #[.pointer (some ⟨g, 0, none⟩), .int .i64 2] w fun x w' => x = .returned (.int .i64 0) ∧ SB w' g 57 a 2 (wrap64 (e + 1)) h l 2 0 ∧ Chg g w w' := by
  obtain ⟨x0, x1, x2, x3, x4, x5, x6, xf⟩ := s.cells
  go_enter Try.func45, Try.ntmps45
  go_wp2
  go_ret
  refine And.intro (by simp) (And.intro ?_ ?_)
  · repeat (first | with_reducible exact s | with_reducible apply SB.set1 | with_reducible apply SB.set2 | with_reducible apply SB.set3 | with_reducible apply SB.set4 | with_reducible apply SB.set5 | with_reducible apply SB.set6)
  · repeat (first | with_reducible apply Chg.set | exact Chg.refl g w)
set_option maxRecDepth 20000 in
set_option maxHeartbeats 3200000 in
theorem ref_stay22 (g : Nat) (e h l a : Int) (w : World) (s : SB w g 57 a 0 e h l 2 2) (h1 : decide (l < 4) = false) :
    Calls Try.prog 45 #[.pointer (some ⟨g, 0, none⟩), .int .i64 2] w fun x w' => x = .returned (.int .i64 0) ∧ SB w' g 57 a 0 (wrap64 (e + 1)) h l 2 3 ∧ Chg g w w' := by
  obtain ⟨x0, x1, x2, x3, x4, x5, x6, xf⟩ := s.cells
  go_enter Try.func45, Try.ntmps45
  go_wp2
  go_ret
  refine And.intro (by simp) (And.intro ?_ ?_)
  · repeat (first | with_reducible exact s | with_reducible apply SB.set1 | with_reducible apply SB.set2 | with_reducible apply SB.set3 | with_reducible apply SB.set4 | with_reducible apply SB.set5 | with_reducible apply SB.set6)
  · repeat (first | with_reducible apply Chg.set | exact Chg.refl g w)
set_option maxRecDepth 20000 in
set_option maxHeartbeats 3200000 in
theorem ref_warm23 (g : Nat) (e h l a : Int) (w : World) (s : SB w g 57 a 0 e h l 2 3) (h1 : decide (l < 4) = true) :
    Calls Try.prog 45 #[.pointer (some ⟨g, 0, none⟩), .int .i64 2] w fun x w' => x = .returned (.int .i64 0) ∧ SB w' g 57 a 2 (wrap64 (e + 1)) h l 2 0 ∧ Chg g w w' := by
  obtain ⟨x0, x1, x2, x3, x4, x5, x6, xf⟩ := s.cells
  go_enter Try.func45, Try.ntmps45
  go_wp2
  go_ret
  refine And.intro (by simp) (And.intro ?_ ?_)
  · repeat (first | with_reducible exact s | with_reducible apply SB.set1 | with_reducible apply SB.set2 | with_reducible apply SB.set3 | with_reducible apply SB.set4 | with_reducible apply SB.set5 | with_reducible apply SB.set6)
  · repeat (first | with_reducible apply Chg.set | exact Chg.refl g w)
set_option maxRecDepth 20000 in
set_option maxHeartbeats 3200000 in
theorem ref_stay23 (g : Nat) (e h l a : Int) (w : World) (s : SB w g 57 a 0 e h l 2 3) (h1 : decide (l < 4) = false) :
    Calls Try.prog 45 #[.pointer (some ⟨g, 0, none⟩), .int .i64 2] w fun x w' => x = .returned (.int .i64 0) ∧ SB w' g 57 a 0 (wrap64 (e + 1)) h l 2 3 ∧ Chg g w w' := by
  obtain ⟨x0, x1, x2, x3, x4, x5, x6, xf⟩ := s.cells
  go_enter Try.func45, Try.ntmps45
  go_wp2
  go_ret
  refine And.intro (by simp) (And.intro ?_ ?_)
  · repeat (first | with_reducible exact s | with_reducible apply SB.set1 | with_reducible apply SB.set2 | with_reducible apply SB.set3 | with_reducible apply SB.set4 | with_reducible apply SB.set5 | with_reducible apply SB.set6)
  · repeat (first | with_reducible apply Chg.set | exact Chg.refl g w)
set_option maxRecDepth 20000 in
set_option maxHeartbeats 3200000 in
theorem ref_guard0 (g : Nat) (f e h l k r p a : Int) (w : World) (s : SB w g 57 a f e h l k r) (h3 : (p != 1) = true) (h4 : (p != 2) = true) (h1 : (f != 0) = true) (h2 : (f == 0) = false) :
    Calls Try.prog 45 #[.pointer (some ⟨g, 0, none⟩), .int .i64 p] w fun x w' => x = .returned (.int .i64 0) ∧ SB w' g 57 a 0 (wrap64 (e + 1)) h (wrap64 (l + 1)) k 0 ∧ Chg g w w' := by
  obtain ⟨x0, x1, x2, x3, x4, x5, x6, xf⟩ := s.cells
  go_enter Try.func45, Try.ntmps45
  go_upto_region 10 with fail
  have S : SB (((w.setCell ⟨g, 4, none⟩ (.int .i64 (wrap64 (l + 1)))).setCell ⟨g, 1, none⟩ (.int .i64 0)).setCell ⟨g, 6, none⟩ (.int .i64 0)) g 57 a 0 e h (wrap64 (l + 1)) k 0 := SB.set6 (SB.set1 (SB.set4 s))
  have C : Chg g w (((w.setCell ⟨g, 4, none⟩ (.int .i64 (wrap64 (l + 1)))).setCell ⟨g, 1, none⟩ (.int .i64 0)).setCell ⟨g, 6, none⟩ (.int .i64 0)) := (((Chg.refl g w).set 4 (.int .i64 (wrap64 (l + 1)))).set 1 (.int .i64 0)).set 6 (.int .i64 0)
  clear x0 x1 x2 x3 x4 x5 x6 xf
  generalize (((w.setCell ⟨g, 4, none⟩ (.int .i64 (wrap64 (l + 1)))).setCell ⟨g, 1, none⟩ (.int .i64 0)).setCell ⟨g, 6, none⟩ (.int .i64 0)) = W at S C ⊢
  obtain ⟨x0, x1, x2, x3, x4, x5, x6, xf⟩ := S.cells
  go_wp2
  go_ret
  refine And.intro (by simp) (And.intro ?_ ?_)
  · repeat (first | with_reducible exact S | with_reducible apply SB.set1 | with_reducible apply SB.set2 | with_reducible apply SB.set3 | with_reducible apply SB.set4 | with_reducible apply SB.set5 | with_reducible apply SB.set6)
  · repeat (first | with_reducible apply Chg.set | with_reducible exact C)
set_option maxRecDepth 20000 in
set_option maxHeartbeats 3200000 in
theorem ref_gen0 (g : Nat) (e h l k r p a : Int) (w : World) (s : SB w g 57 a 0 e h l k r) (h3 : (p != 1) = true) (h4 : (p != 2) = true) :
    Calls Try.prog 45 #[.pointer (some ⟨g, 0, none⟩), .int .i64 p] w fun x w' => x = .returned (.int .i64 0) ∧ SB w' g 57 a 0 (wrap64 (e + 1)) h l k 0 ∧ Chg g w w' := by
  obtain ⟨x0, x1, x2, x3, x4, x5, x6, xf⟩ := s.cells
  go_enter Try.func45, Try.ntmps45
  go_wp2
  go_ret
  refine And.intro (by simp) (And.intro ?_ ?_)
  · repeat (first | with_reducible exact s | with_reducible apply SB.set1 | with_reducible apply SB.set2 | with_reducible apply SB.set3 | with_reducible apply SB.set4 | with_reducible apply SB.set5 | with_reducible apply SB.set6)
  · repeat (first | with_reducible apply Chg.set | exact Chg.refl g w)
end Go.Proofs.Ytpoedalbgcpgjaa

/- Contracts of soft's and the reference's Neg, Floor, FromInt, Trunc and Wide. -/
import Derived.Test.YtieddikacnmhlaaB
namespace Go.Proofs.Ytieddikacnmhlaa
open Go.RowKit

/-! ## The floor -/

theorem call110 (args : Array Value) (w : World) : (callFunc 110 args).run Try.prog w = ((Extern.MathFloor.toIntegral "math.archFloor" .down args).run Try.prog w).andThen fun v w' => .ok (.value v) w' :=
  run_callFunc_extern Try.func110 (by kernel_rfl) (by kernel_rfl) (by kernel_rfl) (by kernel_rfl) args w

def keptQ : Question := .extern "math.Floor,Ceil,Trunc,RoundToEven.signallingNaN kept" 2
/-- the entry's body at one double -/
noncomputable def floorBody (x : Nat) (d : Ieee.Datum) : Sem Value :=
  Ieee.Datum.casesOn (motive := fun _ => Sem Value) d
    (fun s m p => pure (.float .f64 (FloatKind.f64.encode ((Ieee.Datum.number s m p).integral .down))))
    (fun s => pure (.float .f64 (FloatKind.f64.encode ((Ieee.Datum.infinity s).integral .down))))
    (fun s t => if FloatKind.f64.format.quiet t = t then pure (.float .f64 x) else do
      let kept ← choose keptQ
      pure (.float .f64 (if kept == 1 then x else FloatKind.f64.encode (.nan s (FloatKind.f64.format.quiet t)))))
theorem floorBody_eq (x : Nat) : Extern.MathFloor.toIntegral "math.archFloor" .down #[.float .f64 x] = floorBody x (FloatKind.f64.decode x) := by
  have e : Extern.MathFloor.toIntegral "math.archFloor" .down #[.float .f64 x] = (match FloatKind.f64.decode x with
    | .nan s t => if FloatKind.f64.format.quiet t = t then pure (.float .f64 x) else do
      let kept ← choose keptQ
      pure (.float .f64 (if kept == 1 then x else FloatKind.f64.encode (.nan s (FloatKind.f64.format.quiet t))))
    | d => pure (.float .f64 (FloatKind.f64.encode (d.integral .down)))) := rfl
  rw [e]
  cases FloatKind.f64.decode x <;> rfl

theorem archFloor_num {x : Nat} (h : Fl.isNum Fl.D x) (w : World) : (callFunc 110 #[.float .f64 x]).run Try.prog w = .ok (.value (.float .f64 (Fl.dfloor x))) w := by
  rw [call110]
  have e : Fl.dfloor x = Fl.D.write ((Fl.D.read x).integral .down) := by unfold Fl.dfloor; rw [if_pos (Fl.isNumB_iff.2 h)]
  have hd : ∀ s t, Fl.D.read x ≠ .nan s t := by
    intro s t hr
    rcases Fl.fin_or_inf h with h1 | h1
    · obtain ⟨m, p, e1, _⟩ := Fl.read_fin h1
      rw [e1] at hr; cases hr
    · rw [h1] at hr; cases hr
  rw [e, floorBody_eq]
  have e2 : FloatKind.f64.decode x = Fl.D.read x := rfl
  rw [e2]
  cases hr : Fl.D.read x with
  | nan s t => exact absurd hr (hd s t)
  | number s m p => rfl
  | infinity s => rfl

theorem quiet_nan (s : Bool) (t : Nat) : ¬ Fl.isNum Fl.D (FloatKind.f64.encode (.nan s (FloatKind.f64.format.quiet t))) ∧ FloatKind.f64.encode (.nan s (FloatKind.f64.format.quiet t)) < 18446744073709551616 := by
  have e : FloatKind.f64.encode (.nan s (FloatKind.f64.format.quiet t)) = Fl.D.word s (Fl.D.infRung + Fl.D.quiet t % Fl.D.binade) := rfl
  have hq : Fl.D.quiet t % Fl.D.binade ≠ 0 := by
    intro h0
    have h1 : (Fl.D.quiet t % 2 ^ 52).testBit 51 = false := by
      rw [Fl.D_binade] at h0
      rw [show (2 : Nat) ^ 52 = 4503599627370496 by decide, h0]; rfl
    rw [Nat.testBit_mod_two_pow] at h1
    unfold Ieee.Format.quiet at h1
    rw [Nat.testBit_or, Nat.testBit_two_pow] at h1
    simp [Fl.D, Ieee.double] at h1
  have hlt : Fl.D.infRung + Fl.D.quiet t % Fl.D.binade < Fl.D.signWeight := by
    have := Nat.mod_lt (Fl.D.quiet t) (Fl.binade_pos Fl.D)
    have := Fl.D.infRung_add_binade
    omega
  rw [e]
  exact ⟨by unfold Fl.isNum; rw [Fl.rung_word hlt]; omega, Fl.word_lt64 hlt⟩

theorem archFloor_nan {x : Nat} (h : ¬ Fl.isNum Fl.D x) (hx : x < 18446744073709551616) :
    ∃ (f : World → Nat) (n : Nat), (∀ w, ¬ Fl.isNum Fl.D (f w) ∧ f w < 18446744073709551616) ∧ ∀ w, (callFunc 110 #[.float .f64 x]).run Try.prog w = .ok (.value (.float .f64 (f w))) (w.drewN n) := by
  obtain ⟨s, t, e⟩ := Fl.read_of_nan h
  have e2 : FloatKind.f64.decode x = .nan s t := e
  by_cases hq : FloatKind.f64.format.quiet t = t
  · refine ⟨fun _ => x, 0, fun _ => ⟨h, hx⟩, fun w => ?_⟩
    rw [call110, floorBody_eq, e2]
    unfold floorBody
    simp only
    rw [if_pos hq]
    rfl
  · refine ⟨fun w => if keptQ.cut (w.tape w.drawn keptQ) == 1 then x else FloatKind.f64.encode (.nan s (FloatKind.f64.format.quiet t)), 1, fun w => ?_, fun w => ?_⟩
    · dsimp only
      split
      · exact ⟨h, hx⟩
      · exact quiet_nan s t
    · rw [call110, floorBody_eq, e2]
      unfold floorBody
      simp only
      rw [if_neg hq]
      rfl

set_option maxHeartbeats 400000 in
theorem floor_num {x : Nat} (h : Fl.isNum Fl.D x) (w : World) : Calls Try.prog 86 #[.float .f64 x] w fun e w' => e = .returned (.float .f64 (Fl.dfloor x)) ∧ w = w' := by
  have hrun := archFloor_num h
  clear h
  go_enter Try.func86, Try.ntmps86
  go_wp2
  go_ret
  exact ⟨rfl, rfl⟩

def SomeNan (w : World) (e : Ending) (w' : World) : Prop := ∃ r : Nat, e = .returned (.float .f64 r) ∧ ¬ Fl.isNum Fl.D r ∧ r < 18446744073709551616 ∧ Dr w w'

set_option maxHeartbeats 400000 in
theorem floor_nan {x : Nat} (h : ¬ Fl.isNum Fl.D x) (hx : x < 18446744073709551616) (w : World) : Calls Try.prog 86 #[.float .f64 x] w (SomeNan w) := by
  obtain ⟨f, n, hf, hrun⟩ := archFloor_nan h hx
  have hpost : SomeNan w (.returned (.float .f64 (f w))) (w.drewN n) := ⟨f w, rfl, (hf w).1, (hf w).2, ⟨n, rfl⟩⟩
  have HP := Lib.hid hpost
  clear h hx hf hpost
  go_enter Try.func86, Try.ntmps86
  go_wp2
  go_ret
  exact HP.out

def sFloor (a : Int) : Int := (Fl.dfloor a.toNat : Nat)

set_option maxHeartbeats 400000 in
theorem softFloor_calls (a : Int) (h1 : a < 18446744073709551616) (w : World) : Calls Try.prog 40 #[.int .u64 a] w fun e w' => e = .returned (.int .u64 (sFloor a)) ∧ Dr w w' := by
  by_cases hn : Fl.isNum Fl.D a.toNat
  · have e : sFloor a = cbits (Fl.dfloor a.toNat) := by
      rcases Fl.dfloor_clean (x := a.toNat) (by omega) with h | h
      · exact (cbits_num h).symm
      · exfalso
        rcases Fl.num_cases hn with h2 | h2
        · exact Fl.canon_nan (h ▸ (Fl.dfloor_fin h2).1.num)
        · rw [Fl.dfloor_inf h2 (by omega)] at h; exact Fl.canon_nan (h ▸ hn)
    have hc := floor_num hn
    rw [e]
    clear hn h1 e
    go_enter Try.func40, Try.ntmps40
    go_wp2_with (first | (go_at_call 80; refine (of_calls _ _).mono ?_; rintro e w' ⟨rfl, rfl⟩) | (go_at_call 86; refine (hc _).mono ?_; rintro e w' ⟨rfl, rfl⟩) | (go_at_call 82; refine (bits_calls _ _).mono ?_; rintro e w' ⟨rfl, rfl⟩))
    go_ret
    exact ⟨rfl, Dr.refl _⟩
  · have e : sFloor a = 9221120237041090560 := by unfold sFloor; rw [Fl.dfloor_nan hn]; rfl
    have hc := floor_nan hn (by omega)
    rw [e]
    have hb : ∀ r : Nat, ¬ Fl.isNum Fl.D r → ∀ w : World, Calls Try.prog 82 #[.float .f64 r] w fun e w' => e = .returned (.int .u64 9221120237041090560) ∧ w = w' := by
      intro r hr w; rw [← cbits_nan hr]; exact bits_calls _ _
    clear hn h1 e
    go_enter Try.func40, Try.ntmps40
    go_wp2_with (first | (go_at_call 80; refine (of_calls _ _).mono ?_; rintro e w' ⟨rfl, rfl⟩) | (go_at_call 86; refine (hc _).mono ?_; rintro e w' ⟨r, rfl, hr, hr2, n, rfl⟩; have hb := hb r hr; clear hr hr2) | (go_at_call 82; refine (hb _).mono ?_; rintro e w' ⟨rfl, rfl⟩))
    go_ret
    exact ⟨rfl, ⟨_, rfl⟩⟩

set_option maxHeartbeats 400000 in
theorem refFloor_calls (a : Int) (h1 : a < 18446744073709551616) (w : World) : Calls Try.prog 51 #[.int .u64 a] w fun e w' => e = .returned (.int .u64 (sFloor a)) ∧ Dr w w' := by
  by_cases hn : Fl.isNum Fl.D a.toNat
  · have e : sFloor a = cbits (Fl.dfloor a.toNat) := by
      rcases Fl.dfloor_clean (x := a.toNat) (by omega) with h | h
      · exact (cbits_num h).symm
      · exfalso
        rcases Fl.num_cases hn with h2 | h2
        · exact Fl.canon_nan (h ▸ (Fl.dfloor_fin h2).1.num)
        · rw [Fl.dfloor_inf h2 (by omega)] at h; exact Fl.canon_nan (h ▸ hn)
    have hc := floor_num hn
    have hp := pattern_calls (Fl.dfloor a.toNat) (Fl.dfloor_lt _)
    rw [e]
    clear hn h1 e
    go_enter Try.func51, Try.ntmps51
    go_wp2_with (first | (go_at_call 81; refine (double_calls _ _).mono ?_; rintro e w' ⟨rfl, rfl⟩) | (go_at_call 86; refine (hc _).mono ?_; rintro e w' ⟨rfl, rfl⟩) | (go_at_call 83; refine (hp _).mono ?_; rintro e w' ⟨rfl, n, rfl⟩))
    go_ret
    exact ⟨rfl, ⟨_, rfl⟩⟩
  · have e : sFloor a = 9221120237041090560 := by unfold sFloor; rw [Fl.dfloor_nan hn]; rfl
    have hc := floor_nan hn (by omega)
    rw [e]
    have hb : ∀ r : Nat, ¬ Fl.isNum Fl.D r → r < 18446744073709551616 → ∀ w : World, Calls Try.prog 83 #[.float .f64 r] w fun e w' => e = .returned (.int .u64 9221120237041090560) ∧ Dr w w' := by
      intro r hr hr2 w; rw [← cbits_nan hr]; exact pattern_calls _ hr2 _
    clear hn h1 e
    go_enter Try.func51, Try.ntmps51
    go_wp2_with (first | (go_at_call 81; refine (double_calls _ _).mono ?_; rintro e w' ⟨rfl, rfl⟩) | (go_at_call 86; refine (hc _).mono ?_; rintro e w' ⟨r, rfl, hr, hr2, n, rfl⟩; have hb := hb r hr hr2; clear hr hr2) | (go_at_call 83; refine (hb _).mono ?_; rintro e w' ⟨rfl, m, rfl⟩))
    go_ret
    exact ⟨rfl, ⟨_, rfl⟩⟩
end Go.Proofs.Ytieddikacnmhlaa

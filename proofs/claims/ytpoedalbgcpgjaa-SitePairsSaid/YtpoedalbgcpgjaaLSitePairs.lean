/- What the printed functions of package word come to, for the law SitePairs. -/
import Derived.Test.YtpoedalbgcpgjaaPSitePairsx2
import Derived.Test.YtpoedalbgcpgjaaBits
namespace Go.Proofs.Ytpoedalbgcpgjaa.PSitePairs
open Go.RowKit Go.Proofs.YtpoedalbgcpgjaaW.PrintWords Go.Proofs.YtpoedalbgcpgjaaW.PrintLast Go.Proofs.YtpoedalbgcpgjaaW.PrintMore Go.Proofs.Ytpoedalbgcpgjaa.Bits

theorem nan_f (a : Int) : word_nan.f a = some (decide (isNan a)) := by
  unfold word_nan.f isNan; rw [wrap_u64]; rfl

theorem class_f (k : Nat) {a : Int} (h0 : 0 ≤ a) (h1 : a < 18446744073709551616) : word_Class.f (k + 1) a = some (cls a) := by
  unfold word_Class.f
  rw [nan_f, Option.bind_some, and48 h0 h1]
  unfold cls
  by_cases c1 : isNan a
  · rw [decide_eq_true c1, if_pos rfl]
    by_cases c2 : a = 9221120237041090560
    · rw [show (a == 9221120237041090560) = true from beq_iff_eq.2 c2, if_pos (.inr c2)]
      simp only [word_Class.j0, if_true]
    · have c1' := c1
      unfold isNan at c1'
      have e7 : Go.bits .and .u64 (a / 281474976710656) 7 = a / 281474976710656 % 8 := and7 (by omega) (by omega)
      have e40 : Go.bits .and .u64 (a % 281474976710656) 1099511627775 = a % 281474976710656 % 1099511627776 := and40 (by omega) (by omega)
      have hw : 0 ≤ IntKind.u64.wrap (8 * (a % 281474976710656 / 1099511627776)) := by rw [wrap_u64]; omega
      rw [show (a == 9221120237041090560) = false from beq_eq_false_iff_ne.2 c2, if_neg (fun h => h.elim (fun h => h c1) c2)]
      simp only [word_Class.j0]
      rw [e7, e40, if_pos hw, if_neg (by decide)]
      have f0 : (a / 2251799813685248 = 8191 ∧ a / 281474976710656 % 8 = 0) ↔ a / 281474976710656 = 65528 := by omega
      have f1 : (a / 2251799813685248 = 8191 ∧ a / 281474976710656 % 8 = 1) ↔ a / 281474976710656 = 65529 := by omega
      have f2 : (a / 2251799813685248 = 8191 ∧ a / 281474976710656 % 8 = 2) ↔ a / 281474976710656 = 65530 := by omega
      have f3 : (a / 2251799813685248 = 8191 ∧ a / 281474976710656 % 8 = 3) ↔ a / 281474976710656 = 65531 := by omega
      by_cases c3 : a / 2251799813685248 = 8191
      · simp only [c3, true_and] at f0 f1 f2 f3
        rw [if_pos c3]
        simp only [f0, f1, f2, f3]
        by_cases d0 : a / 281474976710656 = 65528
        · rw [if_pos d0, if_pos d0]
          by_cases z0 : a % 281474976710656 = 0
          · rw [if_pos z0, if_pos z0]
          · rw [if_neg z0, if_neg z0]
            by_cases z1 : a % 281474976710656 = 1
            · rw [if_pos z1, if_pos (by omega)]
            · rw [if_neg z1]
              by_cases z2 : a % 281474976710656 = 2
              · rw [if_pos z2, if_pos (by omega)]
              · rw [if_neg z2, if_neg (by omega)]
        · rw [if_neg d0, if_neg d0]
          by_cases d1 : a / 281474976710656 = 65529
          · rw [if_pos d1, if_pos d1]
          · rw [if_neg d1, if_neg d1]
            by_cases d2 : a / 281474976710656 = 65530
            · rw [if_pos d2, if_pos d2]
              by_cases z : a % 281474976710656 / 1099511627776 ≤ 5
              · rw [if_pos z]
                by_cases t : txtOk (a % 281474976710656)
                · rw [if_pos ((txt_iff (by omega) z).2 t), if_pos t]
                · rw [if_neg (fun e => t ((txt_iff (by omega) z).1 e)), if_neg t]
              · rw [if_neg z, if_neg (by unfold txtOk; omega)]
            · rw [if_neg d2, if_neg d2]
              by_cases d3 : a / 281474976710656 = 65531
              · rw [if_pos d3, if_pos d3]
              · rw [if_neg d3, if_neg d3]
      · simp only [c3, false_and, false_iff] at f0 f1 f2 f3
        rw [if_neg c3, if_neg f0, if_neg f1, if_neg f2, if_neg f3]
  · rw [decide_eq_false c1, if_neg (by decide), if_pos (.inl c1)]
    simp only [word_Class.j0, if_true]

end Go.Proofs.Ytpoedalbgcpgjaa.PSitePairs

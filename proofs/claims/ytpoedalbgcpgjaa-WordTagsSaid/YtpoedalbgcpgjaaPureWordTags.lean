/- Every 64-bit word: what its class says of its exponent bits, its thirteen highest bits and its tag. For every word; no condition. -/
import Derived.Test.YtpoedalbgcpgjaaPWordTagsx2
import Derived.Test.YtpoedalbgcpgjaaLWordTags
namespace Go.Proofs.Ytpoedalbgcpgjaa.Pure
open Go.RowKit Go.Proofs.Ytpoedalbgcpgjaa.PWordTags Go.Proofs.YtpoedalbgcpgjaaW.PrintWords Go.Proofs.YtpoedalbgcpgjaaW.PrintLast Go.Proofs.Ytpoedalbgcpgjaa.Bits

theorem WordTags : casketlaw1_WordTags.Pure := by
  intro a hw
  obtain ⟨h0, h1⟩ := u64_range hw
  refine ⟨8, ?_⟩
  have e7 : Go.bits .and .u64 (a / 281474976710656) 7 = a / 281474976710656 % 8 := and7 (by omega) (by omega)
  have aw8 : casketlaw1_awake.f 8 = some true := awake_f 8 (by decide)
  have aw7 : casketlaw1_awake.f 7 = some true := awake_f 7 (by decide)
  unfold casketlaw1_WordTags.f
  rw [class_f 7 h0 h1, Option.bind_some, e7, and_exp h0 h1, and52 h0 h1, aw8]
  simp only [casketlaw1_WordTags.j0, aw7, Option.bind_some, and_exp h0 h1, and52 h0 h1]
  rcases cls_cases h0 h1 with ⟨c, h⟩ | ⟨c, h⟩ | ⟨c, h⟩ | ⟨c, h⟩ | ⟨c, h, _⟩ | ⟨c, h⟩ | ⟨c, h, h', _⟩
  · rw [c, if_pos rfl]
    by_cases z1 : a / 4503599627370496 % 2048 * 4503599627370496 = 9218868437227405312
    · rw [if_pos z1]
      by_cases z2 : a % 4503599627370496 = 0
      · rw [if_pos z2]
      · rw [if_neg z2, if_pos (by unfold isNan at h; omega)]
    · rw [if_neg z1]
  · subst h; rw [c]; decide
  · have q1 : a / 2251799813685248 = 8191 := by omega
    have q2 : a / 281474976710656 % 8 = 0 := by omega
    rw [c]; simp [q1, q2]
  · have q1 : a / 2251799813685248 = 8191 := by omega
    have q2 : a / 281474976710656 % 8 = 1 := by omega
    rw [c]; simp [q1, q2]
  · have q1 : a / 2251799813685248 = 8191 := by omega
    have q2 : a / 281474976710656 % 8 = 2 := by omega
    rw [c]; simp [q1, q2]
  · have q1 : a / 2251799813685248 = 8191 := by omega
    have q2 : a / 281474976710656 % 8 = 3 := by omega
    rw [c]; simp [q1, q2]
  · unfold isNan at h
    have q1 : a / 4503599627370496 % 2048 * 4503599627370496 = 9218868437227405312 := by omega
    have q2 : ¬ a % 4503599627370496 = 0 := by omega
    rw [c]; simp [q1, q2]
end Go.Proofs.Ytpoedalbgcpgjaa.Pure

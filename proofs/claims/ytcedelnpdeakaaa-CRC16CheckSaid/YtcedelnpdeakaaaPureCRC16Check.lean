/- CRC16Check, over numbers and lists alone: Check answers as the reference does, for any input. -/
import Derived.Test.YtcedelnpdeakaaaQAllx2
import Derived.Test.YtcedelnpdeakaaaCrcLink2
namespace Go.Proofs.Ytcedelnpdeakaaa.Pure
open Go.RowKit Go.Proofs.Ytcedelnpdeakaaa.QAll Go.Proofs.YtcedelnpdeakaaaW.PrintWords Go.Proofs.YtcedelnpdeakaaaW.PrintLast
theorem CRC16Check : tricklelaw02_CRC16Check.Pure := by
  intro l hmax hr hwf
  have hb := wf_u8 hwf
  refine ⟨10 * l.length + 1, ?_⟩
  unfold tricklelaw02_CRC16Check.f
  by_cases c : (l.length : Int) > 300
  · rw [if_pos c, ex_true]
    rfl
  rw [if_neg c, crc_check l hb (by omega) _ (Nat.le_refl _), ref_check l hb (by omega) _ (Nat.le_refl _), ex_true]
  simp
end Go.Proofs.Ytcedelnpdeakaaa.Pure

/- CRC16Sum, over numbers and lists alone: Sum and Update are the reference's, for any bytes and any initial value. -/
import Derived.Test.YtcedelnpdeakaaaQAllx1
import Derived.Test.YtcedelnpdeakaaaCrcLink
namespace Go.Proofs.Ytcedelnpdeakaaa.Pure
open Go.RowKit Go.Proofs.Ytcedelnpdeakaaa.QAll Go.Proofs.YtcedelnpdeakaaaW.PrintWords Go.Proofs.YtcedelnpdeakaaaW.PrintLast
open Go.Proofs.Ytcedelnpdeakaaa.Crc

theorem CRC16Sum : tricklelaw02_CRC16Sum.Pure := by
  intro l a hmax _ hwf ha
  refine ⟨10 * l.length + 1, ?_⟩
  obtain ⟨v, rfl⟩ := wf_u16 ha
  have hb := wf_u8 hwf
  unfold tricklelaw02_CRC16Sum.f
  rw [ex_true, crc_sum l hb hmax _ (Nat.le_refl _), ref_sum l hb hmax _ (Nat.le_refl _), crc_update l hb hmax v _ (Nat.le_refl _), ref_update l hb hmax v _ (Nat.le_refl _)]
  simp
end Go.Proofs.Ytcedelnpdeakaaa.Pure

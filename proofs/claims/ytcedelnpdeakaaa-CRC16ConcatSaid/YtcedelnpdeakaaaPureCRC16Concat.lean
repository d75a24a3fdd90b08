/- CRC16Concat, over numbers and lists alone: updating the sum of one string by another is the sum of both in a row. -/
import Derived.Test.YtcedelnpdeakaaaQAllx2
import Derived.Test.YtcedelnpdeakaaaCrcLink
namespace Go.Proofs.Ytcedelnpdeakaaa.Pure
open Go.RowKit Go.Proofs.Ytcedelnpdeakaaa.QAll Go.Proofs.YtcedelnpdeakaaaW.PrintWords Go.Proofs.YtcedelnpdeakaaaW.PrintLast
open Go.Proofs.Ytcedelnpdeakaaa.Crc

theorem CRC16Concat : tricklelaw02_CRC16Concat.Pure := by
  intro l0 l1 h0 _ w0 h1 _ w1
  refine ⟨10 * (l0.length + l1.length) + 2, ?_⟩
  have b0 := wf_u8 w0
  have b1 := wf_u8 w1
  unfold tricklelaw02_CRC16Concat.f
  by_cases c0 : (l0.length : Int) > 300
  · rw [if_pos c0]
    simp only [tricklelaw02_CRC16Concat.j0, ex_true]
    simp
  rw [if_neg c0]
  by_cases c1 : (l1.length : Int) > 300
  · simp only [tricklelaw02_CRC16Concat.j0, ex_true, decide_eq_true c1]
    simp
  simp only [tricklelaw02_CRC16Concat.j0, ex_true, decide_eq_false c1]
  have b2 : ∀ x ∈ l0 ++ l1, 0 ≤ x ∧ x ≤ 255 := by
    intro x hx
    rcases List.mem_append.1 hx with h | h
    · exact b0 x h
    · exact b1 x h
  have e1 := crc_sum l0 b0 h0 (10 * (l0.length + l1.length) + 1) (by omega)
  have e2 := crc_update l1 b1 h1 (upd 0xFFFF#16 l0) (10 * (l0.length + l1.length) + 1) (by omega)
  have e3 := crc_sum (l0 ++ l1) b2 (by rw [List.length_append]; omega) (10 * (l0.length + l1.length) + 1) (by rw [List.length_append]; omega)
  rw [if_neg (by decide)]
  simp only [Option.bind_some, List.nil_append, List.length_nil, Nat.zero_add]
  rw [if_pos (by omega), if_pos (by omega), e1]
  simp only [Option.bind_some]
  rw [e2, e3, upd_append]
  simp
end Go.Proofs.Ytcedelnpdeakaaa.Pure

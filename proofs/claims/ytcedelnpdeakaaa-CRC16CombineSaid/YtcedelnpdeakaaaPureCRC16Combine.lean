/- CRC16Combine, over numbers and lists alone: Combine is the reference's, and the sum of two strings in a row if it is given theirs. -/
import Derived.Test.YtcedelnpdeakaaaQAllx6
import Derived.Test.YtcedelnpdeakaaaCrcLink
namespace Go.Proofs.Ytcedelnpdeakaaa.Pure
open Go.RowKit Go.Proofs.Ytcedelnpdeakaaa.QAll Go.Proofs.YtcedelnpdeakaaaW.PrintWords Go.Proofs.YtcedelnpdeakaaaW.PrintLast
open Go.Proofs.Ytcedelnpdeakaaa.Crc

theorem zeros_ok (n : Nat) : ∀ x ∈ List.replicate n (0 : Int), 0 ≤ x ∧ x ≤ 255 := by
  intro x hx
  rw [List.eq_of_mem_replicate hx]
  omega
theorem comb (a b : BitVec 16) (n : Int) (k : Nat) (hk : 10 * 65536 + 1 ≤ k) : ∃ r, crc16_Combine.f k (a.toNat : Int) (b.toNat : Int) n = some r ∧ trickleref02_Combine.f k (a.toNat : Int) (b.toNat : Int) n = some r := by
  unfold crc16_Combine.f trickleref02_Combine.f
  by_cases h0 : n < 0
  · simp [h0]
  by_cases h1 : n > 65536
  · simp [h0, h1]
  rw [if_neg h0, if_neg h1, if_pos (by omega), if_pos (by omega), if_neg h0, if_neg h1, if_pos (by omega), if_pos (by omega)]
  rw [show (65535 : Int) = ((0xFFFF#16).toNat : Int) from rfl, xor_reg, crc_update _ (zeros_ok _) (by rw [List.length_replicate]; omega) _ k (by rw [List.length_replicate]; omega), ref_update _ (zeros_ok _) (by rw [List.length_replicate]; omega) _ k (by rw [List.length_replicate]; omega)]
  exact ⟨_, rfl, rfl⟩
theorem comb_len (a b : BitVec 16) (n k : Nat) (hn : n ≤ 65536) (hk : 10 * 65536 + 1 ≤ k) : crc16_Combine.f k (a.toNat : Int) (b.toNat : Int) (n : Int) = some (((b ^^^ upd (a ^^^ 0xFFFF#16) (List.replicate n 0)).toNat : Int), 0) := by
  unfold crc16_Combine.f
  rw [if_neg (by omega), if_neg (by omega), if_pos (by omega), if_pos (by omega)]
  rw [show (65535 : Int) = ((0xFFFF#16).toNat : Int) from rfl, xor_reg, Int.toNat_natCast, crc_update _ (zeros_ok _) (by rw [List.length_replicate]; omega) _ k (by rw [List.length_replicate]; omega)]
  simp only [Option.bind_some]
  rw [xor_reg]

theorem CRC16Combine : tricklelaw02_CRC16Combine.Pure := by
  intro l0 l1 n h0 _ w0 h1 _ w1 _
  refine ⟨10 * 65536 + 10 * (l0.length + l1.length) + 3, ?_⟩
  have b0 := wf_u8 w0
  have b1 := wf_u8 w1
  unfold tricklelaw02_CRC16Combine.f
  by_cases c0 : (l0.length : Int) > 300
  · rw [if_pos c0, tricklelaw02_CRC16Combine.j0.eq_2, ex_true]
    simp
  rw [if_neg c0]
  by_cases c1 : (l1.length : Int) > 300
  · rw [decide_eq_true c1, tricklelaw02_CRC16Combine.j0.eq_2, ex_true]
    simp
  rw [decide_eq_false c1, tricklelaw02_CRC16Combine.j0.eq_2, if_neg (by decide)]
  have b2 : ∀ x ∈ l0 ++ l1, 0 ≤ x ∧ x ≤ 255 := by
    intro x hx
    rcases List.mem_append.1 hx with h | h
    · exact b0 x h
    · exact b1 x h
  rw [crc_sum l0 b0 h0 _ (by omega), crc_sum l1 b1 h1 _ (by omega)]
  simp only [Option.bind_some, List.nil_append, List.length_nil, Nat.zero_add]
  rw [comb_len _ _ _ _ (by omega) (by omega)]
  simp only [Option.bind_some]
  rw [if_pos (by omega), if_pos (by omega), ref_sum (l0 ++ l1) b2 (by rw [List.length_append]; omega) _ (by rw [List.length_append]; omega)]
  simp only [Option.bind_some]
  have hz : upd 0xFFFF#16 l1 ^^^ upd (upd 0xFFFF#16 l0 ^^^ 0xFFFF#16) (List.replicate l1.length 0) = upd 0xFFFF#16 (l0 ++ l1) := by
    rw [upd_append, BitVec.xor_comm, ← upd_zeros, BitVec.xor_assoc, BitVec.xor_self, BitVec.xor_zero]
  rw [hz, if_pos rfl]
  rw [show (10 * 65536 + 10 * (l0.length + l1.length) + 2) = (10 * 65536 + 10 * (l0.length + l1.length) + 1) + 1 from rfl, tricklelaw02_CRC16Combine.j1.eq_2, if_neg (by decide), ex_true]
  rw [crc_sum l0 b0 h0 _ (by omega), crc_sum l1 b1 h1 _ (by omega), ref_sum l0 b0 h0 _ (by omega), ref_sum l1 b1 h1 _ (by omega)]
  simp only [Option.bind_some]
  obtain ⟨r, e1, e2⟩ := comb (upd 0xFFFF#16 l0) (upd 0xFFFF#16 l1) n (10 * 65536 + 10 * (l0.length + l1.length) + 1) (by omega)
  rw [e1, e2]
  simp
end Go.Proofs.Ytcedelnpdeakaaa.Pure

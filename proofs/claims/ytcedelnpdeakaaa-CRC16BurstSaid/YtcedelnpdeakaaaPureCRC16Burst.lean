/- CRC16Burst, over numbers and lists alone: Check tells every burst of at most 16 bits. -/
import Derived.Test.YtcedelnpdeakaaaQAllx2
import Derived.Test.YtcedelnpdeakaaaCrcLink3
namespace Go.Proofs.Ytcedelnpdeakaaa.Pure
open Go.RowKit Go.Proofs.Ytcedelnpdeakaaa.QAll Go.Proofs.YtcedelnpdeakaaaW.PrintWords Go.Proofs.YtcedelnpdeakaaaW.PrintLast
theorem b1 (n : Nat) (h : n ≤ 300) : wrap64 (8 * ((n + 2 : Nat) : Int)) = ((8 * (n + 2) : Nat) : Int) := by
  unfold wrap64
  omega
theorem b2 (n : Nat) (h : n < 65536) : wrap64 (n : Int) = (n : Int) := by
  unfold wrap64
  omega
theorem b3 (a b : Nat) : Int.tmod (a : Int) (b : Int) = ((a % b : Nat) : Int) := by
  rw [Int.tmod_eq_emod_of_nonneg (Int.natCast_nonneg _), Int.natCast_emod]
theorem CRC16Burst : tricklelaw02_CRC16Burst.Pure := by
  intro l a p hmax hr hwf ha hp
  have hb := wf_u8 hwf
  obtain ⟨K, hK⟩ : ∃ K, 10 * l.length + 100 ≤ K := ⟨_, Nat.le_refl _⟩
  refine ⟨K, ?_⟩
  unfold tricklelaw02_CRC16Burst.f
  by_cases c : (l.length : Int) > 300
  · rw [if_pos c, ex_true]
    rfl
  rw [if_neg c, ref_append l hb (by omega) _ (by omega), ex_true, Option.bind_some]
  have hlen : (summed l).length = l.length + 2 := by simp [summed, two]
  obtain ⟨v, rfl⟩ := wf_u16 ha
  obtain ⟨u, rfl⟩ := wf_u16 hp
  have hv := v.isLt
  have hm : v.toNat % (8 * (l.length + 2)) < 8 * (summed l).length := by
    rw [hlen]
    exact Nat.mod_lt _ (by omega)
  rw [hlen, b1 _ (by omega), b2 _ hv, b3]
  have hne : ¬ (((8 * (l.length + 2) : Nat) : Int) = 0) := by omega
  rw [if_neg hne]
  obtain ⟨y, ch, hf, hfl⟩ := ref_flip (summed l) (by omega) (wf_summed hb) (v.toNat % (8 * (l.length + 2))) u.toNat hm K (by omega)
  rw [hf, Option.bind_some]
  cases ch with
  | false => rfl
  | true =>
    have hy := flipped_tells hm (wf_summed hb) hfl 0xFFFF#16 (summed_zero l)
    have hly := hfl.len
    have hck := crc_check y hfl.wf (by omega) K (by omega)
    rw [summed_of y (by omega) hy] at hck
    rw [if_pos rfl, hck, Option.bind_some]
    rfl
end Go.Proofs.Ytcedelnpdeakaaa.Pure

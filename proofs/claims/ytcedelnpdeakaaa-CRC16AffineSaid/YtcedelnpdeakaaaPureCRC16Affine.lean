/- CRC16Affine, over numbers and lists alone: the exclusive or of three strings' sums is the sum of their bytewise exclusive or. -/
import Derived.Test.YtcedelnpdeakaaaQAllx3
import Derived.Test.YtcedelnpdeakaaaCrcLink2
namespace Go.Proofs.Ytcedelnpdeakaaa.Pure
open Go.RowKit Go.Proofs.Ytcedelnpdeakaaa.QAll Go.Proofs.YtcedelnpdeakaaaW.PrintWords Go.Proofs.YtcedelnpdeakaaaW.PrintLast Go.Proofs.YtcedelnpdeakaaaW.PrintMore
open Go.Proofs.Ytcedelnpdeakaaa.Crc

def Byte (x : Int) : Prop := 0 ≤ x ∧ x ≤ 255
theorem xor_byte {a b : Int} (ha : Byte a) (hb : Byte b) : Byte (Go.bits .xor .u8 a b) ∧ BitVec.ofInt 16 (Go.bits .xor .u8 a b) = BitVec.ofInt 16 a ^^^ BitVec.ofInt 16 b := by
  obtain ⟨m, rfl⟩ := Int.eq_ofNat_of_zero_le ha.1
  obtain ⟨n, rfl⟩ := Int.eq_ofNat_of_zero_le hb.1
  have hm : m < 256 := by have := ha.2; omega
  have hn : n < 256 := by have := hb.2; omega
  have hx : m ^^^ n < 2 ^ 8 := Nat.xor_lt_two_pow hm hn
  rw [u8_xor_nat m n hm hn]
  refine ⟨⟨by omega, by omega⟩, ?_⟩
  rw [BitVec.ofInt_natCast, BitVec.ofInt_natCast, BitVec.ofInt_natCast]
  apply BitVec.eq_of_toNat_eq
  rw [BitVec.toNat_xor, BitVec.toNat_ofNat, BitVec.toNat_ofNat, BitVec.toNat_ofNat, Nat.mod_eq_of_lt (by omega), Nat.mod_eq_of_lt (by omega), Nat.mod_eq_of_lt (by omega)]

theorem xor3_map (f g h : Nat → Int) : ∀ l : List Nat, (∀ j ∈ l, BitVec.ofInt 16 (h j) = BitVec.ofInt 16 (f j) ^^^ BitVec.ofInt 16 (g j)) → Xor3 (l.map f) (l.map g) (l.map h)
  | [], _ => trivial
  | j :: l, hj => ⟨hj j (by simp), xor3_map f g h l (fun i hi => hj i (by simp [hi]))⟩

theorem take_map (l : List Int) (n : Nat) (hn : n ≤ l.length) : l.take n = (List.range n).map fun (j : Nat) => rd l (j : Int) := by
  apply List.ext_getElem
  · simp
    omega
  · intro i h1 h2
    simp only [List.length_map, List.length_range] at h2
    simp only [List.getElem_take, List.getElem_map, List.getElem_range]
    unfold rd
    rw [Int.toNat_natCast, List.getD_eq_getElem?_getD, List.getElem?_eq_getElem (by omega)]
    rfl
theorem rd_byte {l : List Int} (h : ∀ x ∈ l, 0 ≤ x ∧ x ≤ 255) {j : Nat} (hj : j < l.length) : Byte (rd l (j : Int)) := by
  unfold rd
  rw [Int.toNat_natCast, List.getD_eq_getElem?_getD, List.getElem?_eq_getElem hj]
  exact h _ (List.getElem_mem hj)

def X (a b c : List Int) (j : Nat) : Int := Go.bits .xor .u8 (Go.bits .xor .u8 (rd a (j : Int)) (rd b (j : Int))) (rd c (j : Int))
theorem set_next (f : Nat → Int) (i d : Nat) : ((List.range i).map f ++ List.replicate (d + 1) 0).set i (f i) = (List.range (i + 1)).map f ++ List.replicate d 0 := by
  rw [List.set_append_right i (f i) (by simp), List.range_succ, List.map_append, List.append_assoc]
  congr 1
  simp [List.replicate_succ]

theorem loop (a b c : List Int) (n : Nat) (ha : n ≤ a.length) (hb : n ≤ b.length) (hc : n ≤ c.length) (hn : n ≤ 300) : ∀ (d i k : Nat), i + d = n →
    tricklelaw02_CRC16Affine.l0 (k + d + 1) a b c (n : Int) ((List.range i).map (X a b c) ++ List.replicate d 0) (n : Int) (i : Int) =
      tricklelaw02_CRC16Affine.l0 (k + 1) a b c (n : Int) ((List.range n).map (X a b c)) (n : Int) (n : Int)
  | 0, i, k, h => by
    obtain rfl : i = n := h
    simp
  | d + 1, i, k, h => by
    rw [show k + (d + 1) + 1 = (k + d + 1) + 1 from rfl, tricklelaw02_CRC16Affine.l0.eq_2]
    have hl : ((List.range i).map (X a b c) ++ List.replicate (d + 1) (0 : Int)).length = n := by
      rw [List.length_append, List.length_map, List.length_range, List.length_replicate]
      exact h
    have h0 : (i : Int) < (n : Int) := by omega
    have h1 : (0 : Int) ≤ (i : Int) := by omega
    have h2 : (i : Int) < (a.length : Int) := by omega
    have h3 : (i : Int) < (b.length : Int) := by omega
    have h4 : (i : Int) < (c.length : Int) := by omega
    have hw : wrap64 ((i : Int) + 1) = ((i + 1 : Nat) : Int) := wrap_next i n (by omega) (by omega)
    rw [hl, if_pos h0, if_pos h1, if_pos h2, if_pos h3, if_pos h4, if_pos h0, Int.toNat_natCast, hw]
    have hs := set_next (X a b c) i d
    rw [show Go.bits .xor .u8 (Go.bits .xor .u8 (rd a (i : Int)) (rd b (i : Int))) (rd c (i : Int)) = X a b c i from rfl, hs]
    exact loop a b c n ha hb hc hn d (i + 1) k (by omega)

theorem mn_nat (a b : Nat) : mn (a : Int) (b : Int) = ((min a b : Nat) : Int) := by
  unfold mn
  by_cases h : (b : Int) < (a : Int)
  · rw [if_pos h, Nat.min_eq_right (by omega)]
  · rw [if_neg h, Nat.min_eq_left (by omega)]

theorem CRC16Affine : tricklelaw02_CRC16Affine.Pure := by
  intro a b c ma _ wa mb _ wb mc _ wc
  have ba := wf_u8 wa
  have bb := wf_u8 wb
  have bc := wf_u8 wc
  obtain ⟨n, hn⟩ : ∃ n, n = min (min (min a.length b.length) c.length) 300 := ⟨_, rfl⟩
  have e : mn (mn (mn (a.length : Int) (b.length : Int)) (c.length : Int)) 300 = (n : Int) := by
    rw [mn_nat, mn_nat, show (300 : Int) = ((300 : Nat) : Int) from rfl, mn_nat, hn]
  have h1 : n ≤ a.length := by omega
  have h2 : n ≤ b.length := by omega
  have h3 : n ≤ c.length := by omega
  have h4 : n ≤ 300 := by omega
  clear hn
  obtain ⟨K, hK⟩ : ∃ K, 10 * n + 1 ≤ K := ⟨_, Nat.le_refl _⟩
  refine ⟨K + n + 1, ?_⟩
  unfold tricklelaw02_CRC16Affine.f
  rw [e, if_pos (Int.natCast_nonneg n), Int.toNat_natCast, if_pos (by omega), Option.bind_some, List.length_replicate]
  have hl := loop a b c n h1 h2 h3 h4 n 0 K (by omega)
  rw [show (List.range 0).map (X a b c) ++ List.replicate n (0 : Int) = List.replicate n 0 from rfl] at hl
  rw [show ((0 : Nat) : Int) = 0 from rfl] at hl
  have hX : ∀ x ∈ (List.range n).map (X a b c), 0 ≤ x ∧ x ≤ 255 := by
    intro x hx
    obtain ⟨j, hj, rfl⟩ := List.mem_map.1 hx
    have hj := List.mem_range.1 hj
    exact (xor_byte (xor_byte (rd_byte ba (show j < a.length by omega)) (rd_byte bb (by omega))).1 (rd_byte bc (by omega))).1
  rw [hl, tricklelaw02_CRC16Affine.l0.eq_2, if_neg (by omega), Int.toNat_natCast, if_pos (Int.natCast_nonneg n), if_pos (by omega)]
  rw [crc_sum _ (wf_take ba n) (by rw [List.length_take]; omega) K (by rw [List.length_take]; omega), Option.bind_some, if_pos (by omega)]
  rw [crc_sum _ (wf_take bb n) (by rw [List.length_take]; omega) K (by rw [List.length_take]; omega), Option.bind_some, if_pos (by omega)]
  rw [crc_sum _ (wf_take bc n) (by rw [List.length_take]; omega) K (by rw [List.length_take]; omega), Option.bind_some, crc_sum _ hX (by simp; omega) K (by simp; omega), Option.bind_some, xor_reg, xor_reg, ex_true]
  have hz : upd 0xFFFF#16 (a.take n) ^^^ upd 0xFFFF#16 (b.take n) ^^^ upd 0xFFFF#16 (c.take n) = upd 0xFFFF#16 ((List.range n).map (X a b c)) := by
    rw [take_map a n h1, take_map b n h2, take_map c n h3]
    rw [← upd_xor _ _ _ _ _ (xor3_map (fun (j : Nat) => rd a (j : Int)) (fun (j : Nat) => rd b (j : Int)) (fun (j : Nat) => Go.bits .xor .u8 (rd a (j : Int)) (rd b (j : Int))) (List.range n) (fun j hj => (xor_byte (rd_byte ba (by have := List.mem_range.1 hj; omega)) (rd_byte bb (by have := List.mem_range.1 hj; omega))).2))]
    rw [← upd_xor _ _ _ _ _ (xor3_map (fun (j : Nat) => Go.bits .xor .u8 (rd a (j : Int)) (rd b (j : Int))) (fun (j : Nat) => rd c (j : Int)) (X a b c) (List.range n) (fun j hj => (xor_byte (xor_byte (rd_byte ba (by have := List.mem_range.1 hj; omega)) (rd_byte bb (by have := List.mem_range.1 hj; omega))).1 (rd_byte bc (by have := List.mem_range.1 hj; omega))).2))]
    simp
  rw [hz, if_pos rfl]
  rfl
end Go.Proofs.Ytcedelnpdeakaaa.Pure

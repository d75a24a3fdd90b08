/- CrcLink, CrcS, merged. -/
import Derived.Test.YtfcldacjnegacaaPUpdaterMatchesModelx1
import Derived.Test.YtfcldacjnegacaaCrc
import Derived.Laws.BitsAllLaws
/- What the two texts compute for a checksum is the register's algebra: crc16.Update and the reference's Update, on any bytes and any initial value. -/
namespace Go.Proofs.Ytfcldacjnegacaa.PUpdaterMatchesModel
open Go.RowKit Go.Proofs.YtfcldacjnegacaaW.PrintWords Go.Proofs.YtfcldacjnegacaaW.PrintLast Go.Proofs.YtfcldacjnegacaaW.PrintMore
open Go.Proofs.Ytfcldacjnegacaa.Crc

theorem xor_reg (u v : BitVec 16) : Go.bits .xor .u16 (u.toNat : Int) (v.toNat : Int) = ((u ^^^ v).toNat : Int) := by
  rw [u16_xor_nat _ _ u.isLt v.isLt, BitVec.toNat_xor]
theorem shl_reg (v : BitVec 16) : IntKind.u16.wrap ((v.toNat : Int) * 2) = ((v <<< 1).toNat : Int) := by
  rw [IntKind.wrap_u16, BitVec.toNat_shiftLeft, Nat.shiftLeft_eq]
  omega
theorem msb_reg (v : BitVec 16) : (v.toNat : Int) / 32768 = if v.msb then 1 else 0 := by
  rw [BitVec.msb_eq_decide]
  have := v.isLt
  by_cases h : 2 ^ (16 - 1) ≤ v.toNat
  · simp only [h, decide_true, ↓reduceIte]
    omega
  · simp only [h, decide_false, Bool.false_eq_true, ↓reduceIte]
    omega
theorem byte_reg (c : Int) (h0 : 0 ≤ c) (h1 : c ≤ 255) : IntKind.u16.wrap (IntKind.u16.wrap c * 256) = ((BitVec.ofInt 16 c <<< 8).toNat : Int) := by
  obtain ⟨n, rfl⟩ := Int.eq_ofNat_of_zero_le h0
  rw [IntKind.wrap_u16, IntKind.wrap_u16, BitVec.toNat_shiftLeft, BitVec.ofInt_natCast, BitVec.toNat_ofNat, Nat.shiftLeft_eq]
  omega
theorem poly_reg : (4129 : Int) = ((0x1021#16).toNat : Int) := rfl
theorem wrap_next (i n : Nat) (h : i < n) (hn : n ≤ 9223372036854775807) : wrap64 ((i : Int) + 1) = ((i + 1 : Nat) : Int) := by
  unfold wrap64
  omega

/-! ### crc16.Update -/
theorem crc_l1 : ∀ (d k : Nat) (v : BitVec 16) (l : List Int) (n i : Int), d ≤ 8 →
    crc16_Update.l1 (k + d + 1) (v.toNat : Int) l n i (8 - (d : Int)) = crc16_Update.l0 k ((steps d v).toNat : Int) l n (wrap64 (i + 1))
  | 0, k, v, l, n, i, _ => by
    simp only [crc16_Update.l1]
    rw [if_neg (by omega)]
    rfl
  | d + 1, k, v, l, n, i, h => by
    rw [show k + (d + 1) + 1 = (k + d + 1) + 1 from rfl, crc16_Update.l1.eq_2]
    rw [if_pos (by omega)]
    have hw : wrap64 (8 - ((d + 1 : Nat) : Int) + 1) = 8 - (d : Int) := by
      unfold wrap64
      omega
    rw [hw, shl_reg, msb_reg, poly_reg, xor_reg, crc_l1 d k _ l n i (by omega), crc_l1 d k _ l n i (by omega)]
    have hs : steps (d + 1) v = steps d (Crc.step v) := rfl
    rw [hs]
    unfold Crc.step
    cases v.msb <;> simp

theorem crc_l0 (l : List Int) (hwf : ∀ x ∈ l, 0 ≤ x ∧ x ≤ 255) (hn : l.length ≤ 9223372036854775807) : ∀ (d k i : Nat) (v : BitVec 16), i + d = l.length →
    crc16_Update.l0 (k + 10 * d + 1) (v.toNat : Int) l (l.length : Int) (i : Int) = some ((upd v (l.drop i)).toNat : Int)
  | 0, k, i, v, h => by
    simp only [crc16_Update.l0]
    rw [if_neg (by omega), List.drop_of_length_le (by omega)]
    rfl
  | d + 1, k, i, v, h => by
    rw [show k + 10 * (d + 1) + 1 = (((k + 10 * d + 1) + 8 + 1) + 1) by omega]
    simp only [crc16_Update.l0]
    have hi : i < l.length := by omega
    rw [if_pos (by omega), if_pos (by omega), if_pos (by omega)]
    have hr : rd l (i : Int) = l[i] := by
      unfold rd
      rw [Int.toNat_natCast, List.getD_eq_getElem?_getD, List.getElem?_eq_getElem hi]
      rfl
    have hb := hwf l[i] (List.getElem_mem hi)
    rw [hr, byte_reg _ hb.1 hb.2, xor_reg]
    have := crc_l1 8 (k + 10 * d + 1) (v ^^^ BitVec.ofInt 16 l[i] <<< 8) l (l.length : Int) (i : Int) (by omega)
    rw [show (8 : Int) - ((8 : Nat) : Int) = 0 from rfl] at this
    rw [this, wrap_next i _ hi hn, crc_l0 l hwf hn d k (i + 1) _ (by omega), List.drop_eq_getElem_cons hi]
    rfl

theorem crc_update (l : List Int) (hwf : ∀ x ∈ l, 0 ≤ x ∧ x ≤ 255) (hn : l.length ≤ 9223372036854775807) (v : BitVec 16) (k : Nat) (hk : 10 * l.length + 1 ≤ k) :
    crc16_Update.f k (v.toNat : Int) l = some ((upd v l).toNat : Int) := by
  obtain ⟨j, rfl⟩ : ∃ j, k = j + 10 * l.length + 1 := ⟨k - (10 * l.length + 1), by omega⟩
  have := crc_l0 l hwf hn l.length j 0 v (by omega)
  exact this

/-! ### the reference's Update -/
theorem ref_bit (v : BitVec 16) (b : Bool) : trickleref02_bit.f (v.toNat : Int) (if b then 1 else 0) = some ((Crc.bit v b).toNat : Int) := by
  unfold trickleref02_bit.f
  rw [msb_reg, shl_reg, poly_reg, xor_reg]
  unfold Crc.bit
  cases v.msb <;> cases b <;> simp

def lowbits (c : Nat) : Nat → List Bool
  | 0 => []
  | d + 1 => c.testBit d :: lowbits c d

theorem tmod_bit (c d : Nat) : Int.tmod ((c : Int) / 2 ^ d) 2 = if c.testBit d then 1 else 0 := by
  have h1 : (c : Int) / 2 ^ d = ((c / 2 ^ d : Nat) : Int) := by simp
  rw [h1]
  have h2 : Int.tmod ((c / 2 ^ d : Nat) : Int) 2 = ((c / 2 ^ d % 2 : Nat) : Int) := by
    rw [Int.tmod_eq_emod_of_nonneg (Int.natCast_nonneg _)]
    rfl
  rw [h2, Nat.testBit_eq_decide_div_mod_eq]
  by_cases h : c / 2 ^ d % 2 = 1
  · simp [h]
  · have : c / 2 ^ d % 2 = 0 := by omega
    simp [this]

theorem ref_l1 (l : List Int) (i c : Nat) (hi : i < l.length) (hc : rd l (i : Int) = (c : Int)) : ∀ (d k : Nat) (v : BitVec 16), d ≤ 8 →
    trickleref02_Update.l1 (k + d + 1) (v.toNat : Int) l (i : Int) ((d : Int) - 1) = trickleref02_Update.l0 k ((feed v (lowbits c d)).toNat : Int) l (wrap64 ((i : Int) + 1))
  | 0, k, v, _ => by
    simp only [trickleref02_Update.l1]
    rw [if_neg (by omega)]
    rfl
  | d + 1, k, v, h => by
    rw [show k + (d + 1) + 1 = (k + d + 1) + 1 from rfl, trickleref02_Update.l1.eq_2]
    rw [if_pos (by omega), if_pos (by omega), if_pos (by omega), if_pos (by omega), hc]
    have hs : shr .u8 (c : Int) (((d + 1 : Nat) : Int) - 1) = (c : Int) / 2 ^ d := by
      unfold shr
      rw [show min (((d + 1 : Nat) : Int) - 1).toNat IntKind.u8.bits = d by show min (((d + 1 : Nat) : Int) - 1).toNat 8 = d; omega]
    rw [hs, tmod_bit, ref_bit]
    simp only [Option.bind_some]
    have hw : wrap64 (((d + 1 : Nat) : Int) - 1 - 1) = (d : Int) - 1 := by
      unfold wrap64
      omega
    rw [hw, ref_l1 l i c hi hc d k _ (by omega)]
    rfl

theorem word_byte : ∀ c : Fin 256, word (lowbits c.val 8) = BitVec.ofNat 16 c.val <<< 8 := by decide +kernel
theorem feed_byte (v : BitVec 16) (c : Nat) (hc : c ≤ 255) : feed v (lowbits c 8) = up v (c : Int) := by
  rw [feed_word _ _ (by simp [lowbits])]
  have := word_byte ⟨c, by omega⟩
  simp only at this
  rw [this]
  rfl

theorem ref_l0 (l : List Int) (hwf : ∀ x ∈ l, 0 ≤ x ∧ x ≤ 255) (hn : l.length ≤ 9223372036854775807) : ∀ (d k i : Nat) (v : BitVec 16), i + d = l.length →
    trickleref02_Update.l0 (k + 10 * d + 1) (v.toNat : Int) l (i : Int) = some ((upd v (l.drop i)).toNat : Int)
  | 0, k, i, v, h => by
    simp only [trickleref02_Update.l0]
    rw [if_neg (by omega), List.drop_of_length_le (by omega)]
    rfl
  | d + 1, k, i, v, h => by
    rw [show k + 10 * (d + 1) + 1 = (((k + 10 * d + 1) + 8 + 1) + 1) by omega]
    simp only [trickleref02_Update.l0]
    have hi : i < l.length := by omega
    rw [if_pos (by omega)]
    have hr : rd l (i : Int) = l[i] := by
      unfold rd
      rw [Int.toNat_natCast, List.getD_eq_getElem?_getD, List.getElem?_eq_getElem hi]
      rfl
    have hb := hwf l[i] (List.getElem_mem hi)
    obtain ⟨c, hc⟩ := Int.eq_ofNat_of_zero_le hb.1
    have := ref_l1 l i c hi (by rw [hr, hc]) 8 (k + 10 * d + 1) v (by omega)
    rw [show ((8 : Nat) : Int) - 1 = 7 from rfl] at this
    rw [this, wrap_next i _ hi hn, ref_l0 l hwf hn d k (i + 1) _ (by omega), List.drop_eq_getElem_cons hi, feed_byte v c (by omega), ← hc]
    rfl

theorem ref_update (l : List Int) (hwf : ∀ x ∈ l, 0 ≤ x ∧ x ≤ 255) (hn : l.length ≤ 9223372036854775807) (v : BitVec 16) (k : Nat) (hk : 10 * l.length + 1 ≤ k) :
    trickleref02_Update.f k (v.toNat : Int) l = some ((upd v l).toNat : Int) := by
  obtain ⟨j, rfl⟩ : ∃ j, k = j + 10 * l.length + 1 := ⟨k - (10 * l.length + 1), by omega⟩
  have := ref_l0 l hwf hn l.length j 0 v (by omega)
  exact this

theorem crc_sum (l : List Int) (hwf : ∀ x ∈ l, 0 ≤ x ∧ x ≤ 255) (hn : l.length ≤ 9223372036854775807) (k : Nat) (hk : 10 * l.length + 1 ≤ k) :
    crc16_Sum.f k l = some ((upd 0xFFFF#16 l).toNat : Int) := by
  unfold crc16_Sum.f
  rw [show (65535 : Int) = ((0xFFFF#16).toNat : Int) from rfl, crc_update l hwf hn _ k hk]
  rfl
theorem ref_sum (l : List Int) (hwf : ∀ x ∈ l, 0 ≤ x ∧ x ≤ 255) (hn : l.length ≤ 9223372036854775807) (k : Nat) (hk : 10 * l.length + 1 ≤ k) :
    trickleref02_Sum.f k l = some ((upd 0xFFFF#16 l).toNat : Int) := by
  unfold trickleref02_Sum.f
  rw [show (65535 : Int) = ((0xFFFF#16).toNat : Int) from rfl, ref_update l hwf hn _ k hk]
  rfl

theorem wf_u8 {l : List Int} (h : ∀ x ∈ l, (Lit.int .u8 x).wf = true) : ∀ x ∈ l, 0 ≤ x ∧ x ≤ 255 := by
  intro x hx
  have := h x hx
  simp [Lit.wf, IntKind.min, IntKind.max, IntKind.bits, IntKind.signed] at this
  omega
theorem wf_u16 {a : Int} (h : (Lit.int .u16 a).wf = true) : ∃ v : BitVec 16, a = (v.toNat : Int) := by
  simp [Lit.wf, IntKind.min, IntKind.max, IntKind.bits, IntKind.signed] at h
  refine ⟨BitVec.ofNat 16 a.toNat, ?_⟩
  rw [BitVec.toNat_ofNat]
  omega
end Go.Proofs.Ytfcldacjnegacaa.PUpdaterMatchesModel

/- The two sums: one pure function. -/
namespace Go.Proofs.Ytfcldacjnegacaa.Up
open Go.RowKit Go.Proofs.YtfcldacjnegacaaW.PrintWords Go.Proofs.YtfcldacjnegacaaW.PrintLast Go.Proofs.YtfcldacjnegacaaW.PrintMore
def crcI (l : List Int) : Int := ((Crc.upd 0xFFFF#16 l).toNat : Int)
theorem crcI_nn (l : List Int) : 0 ≤ crcI l := Int.natCast_nonneg _
theorem crcI_lt (l : List Int) : crcI l < 65536 := by
  have := (Crc.upd 0xFFFF#16 l).isLt
  unfold crcI
  omega
theorem sum_call {w : World} {A : Option Addr} {n c : Nat} {l : List Int} (hr : Kd.C (Kd.int .u8) w A n l) (hc : n ≤ c) (hb : ∀ x ∈ l, 0 ≤ x ∧ x < 256) (hn : n ≤ 100000) :
    Calls Try.prog 20 #[.slice A n c] w fun e w' => e = .returned (.int .u16 (crcI l)) ∧ Below w.heap.size w w' := by
  have e : l.length = n := hr.1
  subst e
  refine (PUpdaterMatchesModel.crc16_Sum.calls _ A c l _ w hr hc (PUpdaterMatchesModel.crc_sum l (fun x hx => ⟨(hb x hx).1, by have := (hb x hx).2; omega⟩) (by omega) _ (Nat.le_refl _))).mono ?_
  rintro e w1 h
  exact ⟨h.1, h.2.below⟩
theorem rsum_call {w : World} {A : Option Addr} {n c : Nat} {l : List Int} (hr : Kd.C (Kd.int .u8) w A n l) (hc : n ≤ c) (hb : ∀ x ∈ l, 0 ≤ x ∧ x < 256) (hn : n ≤ 100000) :
    Calls Try.prog 58 #[.slice A n c] w fun e w' => e = .returned (.int .u16 (crcI l)) ∧ Below w.heap.size w w' := by
  have e : l.length = n := hr.1
  subst e
  refine (PUpdaterMatchesModel.trickleref02_Sum.calls _ A c l _ w hr hc (PUpdaterMatchesModel.ref_sum l (fun x hx => ⟨(hb x hx).1, by have := (hb x hx).2; omega⟩) (by omega) _ (Nat.le_refl _))).mono ?_
  rintro e w1 h
  exact ⟨h.1, h.2.below⟩
end Go.Proofs.Ytfcldacjnegacaa.Up

/- A burst of at most 16 bits changes the sum. No program in sight. -/
import Derived.Test.YtfcldacjnegacaaCrcS
namespace Go.Proofs.Ytfcldacjnegacaa.Up
open Go.Proofs.Ytfcldacjnegacaa.Crc
set_option linter.unusedVariables false
theorem up_zero (x : BitVec 16) : up x 0 = steps 8 x := by
  unfold up
  simp
theorem upd_zero_zeros : ∀ k : Nat, upd 0#16 (List.replicate k 0) = 0#16
  | 0 => rfl
  | k + 1 => by
    show upd (up 0#16 0) (List.replicate k 0) = 0#16
    rw [up_zero, steps_zero]
    exact upd_zero_zeros k
theorem upd_zeros_ne : ∀ (k : Nat) (x : BitVec 16), x ≠ 0#16 → upd x (List.replicate k 0) ≠ 0#16
  | 0, _, h => h
  | k + 1, x, h => by
    show upd (up x 0) (List.replicate k 0) ≠ 0#16
    rw [up_zero]
    exact upd_zeros_ne k _ (fun e => h (steps_inj0 _ _ e))
theorem steps_add : ∀ (a b : Nat) (x : BitVec 16), steps (a + b) x = steps b (steps a x)
  | 0, b, x => by rw [Nat.zero_add]; rfl
  | a + 1, b, x => by
    rw [show a + 1 + b = (a + b) + 1 by omega]
    exact steps_add a b (Crc.step x)
/-- Two bytes, not both 0, into an empty register. -/
theorem upd_two (m1 m2 : Nat) (h1 : m1 < 256) (h2 : m2 < 256) (h : m1 ≠ 0 ∨ m2 ≠ 0) : upd 0#16 [(m1 : Int), (m2 : Int)] ≠ 0#16 := by
  show up (up 0#16 (m1 : Int)) (m2 : Int) ≠ 0#16
  have e1 : up 0#16 (m1 : Int) = steps 8 (BitVec.ofNat 16 m1 <<< 8) := by
    unfold up
    rw [BitVec.zero_xor, BitVec.ofInt_natCast]
  have e2 : up (up 0#16 (m1 : Int)) (m2 : Int) = steps 8 (steps 8 (BitVec.ofNat 16 m1 <<< 8 ^^^ BitVec.ofNat 16 m2)) := by
    rw [e1]
    unfold up
    rw [BitVec.ofInt_natCast, ← low_byte ⟨m2, h2⟩, ← steps_xor]
  rw [e2]
  intro hz
  have hz2 := steps_inj0 _ _ (steps_inj0 _ _ hz)
  have ht := congrArg BitVec.toNat hz2
  rw [BitVec.toNat_xor, BitVec.toNat_shiftLeft, BitVec.toNat_ofNat, BitVec.toNat_ofNat, Nat.shiftLeft_eq, Nat.mod_eq_of_lt (show m1 < 2 ^ 16 by omega), Nat.mod_eq_of_lt (show m2 < 2 ^ 16 by omega), Nat.mod_eq_of_lt (show m1 * 2 ^ 8 < 2 ^ 16 by omega)] at ht
  have ht2 : m1 * 2 ^ 8 ^^^ m2 = 0 := by simpa using ht
  have ht3 : m1 * 2 ^ 8 = m2 := by
    have := congrArg (· ^^^ m2) ht2
    simp only [Nat.xor_assoc, Nat.xor_self, Nat.xor_zero, Nat.zero_xor] at this
    exact this
  omega
/-- A list of bytes, and another that differs at two neighbours. -/
theorem xor3_refl : ∀ l : List Int, Xor3 l (List.replicate l.length 0) l
  | [] => trivial
  | x :: l => ⟨by simp, xor3_refl l⟩
theorem xor3_spoilt : ∀ (k : Nat) (b : List Int) (m1 m2 y1 y2 : Int), k + 1 < b.length → BitVec.ofInt 16 y1 = BitVec.ofInt 16 (b.getD k 0) ^^^ BitVec.ofInt 16 m1 → BitVec.ofInt 16 y2 = BitVec.ofInt 16 (b.getD (k + 1) 0) ^^^ BitVec.ofInt 16 m2 →
    Xor3 b (List.replicate k 0 ++ ([m1, m2] ++ List.replicate (b.length - k - 2) 0)) ((b.set k y1).set (k + 1) y2)
  | 0, [], _, _, _, _, h, _, _ => by simp at h
  | 0, [_], _, _, _, _, h, _, _ => by simp at h
  | 0, a :: c :: l, m1, m2, y1, y2, h, h1, h2 => by
    refine ⟨h1, h2, ?_⟩
    have : (a :: c :: l).length - 0 - 2 = l.length := by simp
    rw [this]
    exact xor3_refl l
  | k + 1, [], _, _, _, _, h, _, _ => by simp at h
  | k + 1, a :: l, m1, m2, y1, y2, h, h1, h2 => by
    refine ⟨by simp, ?_⟩
    have h3 : (a :: l).length - (k + 1) - 2 = l.length - k - 2 := by simp only [List.length_cons]; omega
    rw [h3]
    exact xor3_spoilt k l m1 m2 y1 y2 (by simp only [List.length_cons] at h; omega) h1 h2
theorem crc_spoilt (b : List Int) (k m1 m2 : Nat) (y1 y2 : Int) (hk : k + 1 < b.length) (h1 : m1 < 256) (h2 : m2 < 256) (h : m1 ≠ 0 ∨ m2 ≠ 0) (e1 : BitVec.ofInt 16 y1 = BitVec.ofInt 16 (b.getD k 0) ^^^ BitVec.ofInt 16 (m1 : Int)) (e2 : BitVec.ofInt 16 y2 = BitVec.ofInt 16 (b.getD (k + 1) 0) ^^^ BitVec.ofInt 16 (m2 : Int)) :
    crcI ((b.set k y1).set (k + 1) y2) ≠ crcI b := by
  intro he
  unfold crcI at he
  have he2 : upd 0xFFFF#16 ((b.set k y1).set (k + 1) y2) = upd 0xFFFF#16 b := BitVec.eq_of_toNat_eq (by omega)
  have hx := upd_xor b _ _ 0xFFFF#16 0#16 (xor3_spoilt k b (m1 : Int) (m2 : Int) y1 y2 hk e1 e2)
  rw [BitVec.xor_zero, he2, upd_append, upd_append, upd_zero_zeros] at hx
  have hne := upd_zeros_ne (b.length - k - 2) _ (upd_two m1 m2 h1 h2 h)
  apply hne
  have := congrArg (fun v => upd 0xFFFF#16 b ^^^ v) hx
  simp only [← BitVec.xor_assoc, BitVec.xor_self, BitVec.zero_xor] at this
  exact this.symm
theorem byte_xor' (x : Int) (y : Nat) (h0 : 0 ≤ x) (h1 : x < 256) (h2 : y < 256) : BitVec.ofInt 16 (Go.bits .xor .u8 x (y : Int)) = BitVec.ofInt 16 x ^^^ BitVec.ofInt 16 (y : Int) ∧ 0 ≤ Go.bits .xor .u8 x (y : Int) ∧ Go.bits .xor .u8 x (y : Int) < 256 := by
  obtain ⟨n, rfl⟩ := Int.eq_ofNat_of_zero_le h0
  have hn : n < 256 := by omega
  have hlt : n ^^^ y < 2 ^ 8 := Nat.xor_lt_two_pow (show n < 2 ^ 8 by omega) (show y < 2 ^ 8 by omega)
  rw [u8_xor_nat n y hn h2]
  refine ⟨?_, by omega, by omega⟩
  rw [BitVec.ofInt_natCast, BitVec.ofInt_natCast, BitVec.ofInt_natCast]
  apply BitVec.eq_of_toNat_eq
  rw [BitVec.toNat_xor, BitVec.toNat_ofNat, BitVec.toNat_ofNat, BitVec.toNat_ofNat, Nat.mod_eq_of_lt (show n < 2 ^ 16 by omega), Nat.mod_eq_of_lt (show y < 2 ^ 16 by omega), Nat.mod_eq_of_lt (by omega)]
end Go.Proofs.Ytfcldacjnegacaa.Up

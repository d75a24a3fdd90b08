/- A burst of at most 16 bits, at the level of bits: what the reference's Flip does, and that the register tells it. -/
import Derived.Test.YtcedelnpdeakaaaCrcLink2
namespace Go.Proofs.Ytcedelnpdeakaaa.QAll
open Go.RowKit Go.Proofs.YtcedelnpdeakaaaW.PrintWords Go.Proofs.YtcedelnpdeakaaaW.PrintLast Go.Proofs.YtcedelnpdeakaaaW.PrintMore
open Go.Proofs.Ytcedelnpdeakaaa.Crc

/-- Bit number i of a list of bytes, each byte's highest bit first. -/
def bitAt (y : List Int) (i : Nat) : Bool := ((y.getD (i / 8) 0).toNat).testBit (7 - i % 8)
def bitsOf (y : List Int) : List Bool := (List.range (8 * y.length)).map (bitAt y)

theorem bitsOf_cons (c : Nat) (y : List Int) : bitsOf ((c : Int) :: y) = lowbits c 8 ++ bitsOf y := by
  unfold bitsOf
  rw [List.length_cons, show 8 * (y.length + 1) = 8 + 8 * y.length by omega, List.range_add, List.map_append, List.map_map]
  congr 1
  apply List.map_congr_left
  intro i _
  unfold bitAt
  show (((↑c :: y).getD ((8 + i) / 8) 0).toNat).testBit (7 - (8 + i) % 8) = _
  rw [show (8 + i) / 8 = i / 8 + 1 by omega, show (8 + i) % 8 = i % 8 by omega]
  rfl

theorem feed_bits : ∀ (y : List Int) (v : BitVec 16), (∀ x ∈ y, 0 ≤ x ∧ x ≤ 255) → feed v (bitsOf y) = upd v y
  | [], _, _ => rfl
  | x :: y, v, h => by
    have hx := h x (by simp)
    obtain ⟨c, rfl⟩ := Int.eq_ofNat_of_zero_le hx.1
    rw [bitsOf_cons, feed_append, feed_byte v c (by omega)]
    exact feed_bits y _ (fun z hz => h z (by simp [hz]))

theorem shr_bit : ∀ b : Fin 8, shr .u8 128 ((b.val : Nat) : Int) = ((2 ^ (7 - b.val) : Nat) : Int) := by decide

/-- One bit of a byte turned. -/
theorem bitAt_set (y : List Int) (j b i : Nat) (hj : j < y.length) (hb : b < 8) (hwf : ∀ x ∈ y, 0 ≤ x ∧ x ≤ 255) :
    bitAt (y.set j (Go.bits .xor .u8 (rd y (j : Int)) (shr .u8 128 (b : Int)))) i = (bitAt y i ^^ decide (i = 8 * j + b)) := by
  have hr : rd y (j : Int) = y[j] := by
    unfold rd
    rw [Int.toNat_natCast, List.getD_eq_getElem?_getD, List.getElem?_eq_getElem hj]
    rfl
  have hx := hwf y[j] (List.getElem_mem hj)
  obtain ⟨c, hc⟩ := Int.eq_ofNat_of_zero_le hx.1
  have hp : 2 ^ (7 - b) < 256 := Nat.lt_of_le_of_lt (Nat.pow_le_pow_right (by omega) (show 7 - b ≤ 7 by omega)) (by decide)
  have hs := shr_bit ⟨b, hb⟩
  simp only at hs
  rw [hr, hc, hs, u8_xor_nat _ _ (by omega) hp]
  unfold bitAt
  by_cases h : i / 8 = j
  · rw [h]
    have h1 : (y.set j (((c ^^^ 2 ^ (7 - b) : Nat)) : Int)).getD j 0 = (((c ^^^ 2 ^ (7 - b) : Nat)) : Int) := by
      rw [List.getD_eq_getElem?_getD, List.getElem?_set_self hj]
      rfl
    have h2 : y.getD j 0 = (c : Int) := by
      rw [List.getD_eq_getElem?_getD, List.getElem?_eq_getElem hj, ← hc]
      rfl
    rw [h1, h2, Int.toNat_natCast, Int.toNat_natCast, Nat.testBit_xor, Nat.testBit_two_pow]
    congr 1
    have : (7 - b = 7 - i % 8) ↔ i = 8 * j + b := by omega
    simp only [this]
  · have h1 : (y.set j (((c ^^^ 2 ^ (7 - b) : Nat)) : Int)).getD (i / 8) 0 = y.getD (i / 8) 0 := by
      rw [List.getD_eq_getElem?_getD, List.getElem?_set_ne (by omega), ← List.getD_eq_getElem?_getD]
    rw [h1, decide_eq_false (by omega)]
    simp

theorem wf_set (y : List Int) (j b : Nat) (hj : j < y.length) (hb : b < 8) (hwf : ∀ x ∈ y, 0 ≤ x ∧ x ≤ 255) :
    ∀ x ∈ y.set j (Go.bits .xor .u8 (rd y (j : Int)) (shr .u8 128 (b : Int))), 0 ≤ x ∧ x ≤ 255 := by
  have hr : rd y (j : Int) = y[j] := by
    unfold rd
    rw [Int.toNat_natCast, List.getD_eq_getElem?_getD, List.getElem?_eq_getElem hj]
    rfl
  have hx := hwf y[j] (List.getElem_mem hj)
  obtain ⟨c, hc⟩ := Int.eq_ofNat_of_zero_le hx.1
  have hp : 2 ^ (7 - b) < 256 := Nat.lt_of_le_of_lt (Nat.pow_le_pow_right (by omega) (show 7 - b ≤ 7 by omega)) (by decide)
  have hs := shr_bit ⟨b, hb⟩
  simp only at hs
  rw [hr, hc, hs, u8_xor_nat _ _ (by omega) hp]
  intro x hx
  rcases List.mem_or_eq_of_mem_set hx with h | h
  · exact hwf x h
  · have : c ^^^ 2 ^ (7 - b) < 2 ^ 8 := Nat.xor_lt_two_pow (by omega) (by omega)
    omega

/-- Does the pattern turn the bit number j of the window? -/
def patBit (p : Nat) (j : Nat) : Bool := decide (p / 2 ^ (15 - j) % 2 = 1)

/-- What holds behind the first kk bits of the window. -/
structure Flipped (l : List Int) (s p kk : Nat) (y : List Int) (ch : Bool) : Prop where
  len : y.length = l.length
  wf : ∀ x ∈ y, 0 ≤ x ∧ x ≤ 255
  bits : ∀ i, i < 8 * l.length → bitAt y i = (bitAt l i ^^ (decide (s ≤ i ∧ i < s + kk) && patBit p (i - s)))
  chg : ch = true → ∃ j, j < kk ∧ s + j < 8 * l.length ∧ patBit p j = true

theorem w1 (a b : Nat) (h : a + b < 100000) : wrap64 ((a : Int) + (b : Int)) = ((a + b : Nat) : Int) := by
  unfold wrap64
  omega
theorem w2 (a : Nat) (h : a < 100000) : wrap64 (Int.tdiv (a : Int) 8) = ((a / 8 : Nat) : Int) := by
  rw [Int.tdiv_eq_ediv_of_nonneg (by omega)]
  unfold wrap64
  omega
theorem w3 (a : Nat) : Int.tmod (a : Int) 8 = ((a % 8 : Nat) : Int) := by
  rw [Int.tmod_eq_emod_of_nonneg (by omega)]
  omega
theorem w4 (a : Nat) (h : a < 16) : wrap64 (15 - (a : Int)) = ((15 - a : Nat) : Int) := by
  unfold wrap64
  omega
theorem w5 (p a : Nat) (h : a < 16) : Int.tmod (shr .u16 (p : Int) ((15 - a : Nat) : Int)) 2 = if patBit p a then 1 else 0 := by
  have : shr .u16 (p : Int) ((15 - a : Nat) : Int) = (p : Int) / 2 ^ (15 - a) := by
    unfold shr
    rw [Int.toNat_natCast, show min (15 - a) IntKind.u16.bits = 15 - a by show min (15 - a) 16 = 15 - a; omega]
  rw [this, tmod_bit, Nat.testBit_eq_decide_div_mod_eq]
  rfl
theorem flip_round (s p kk k : Nat) (y : List Int) (ch : Bool) (hs : s < 10000) (hk : kk < 16) :
    trickleref02_Flip.l0 (k + 1) (s : Int) (p : Int) y ch (kk : Int) =
      if (s + kk) / 8 < y.length then
        if patBit p kk = true then trickleref02_Flip.l0 k (s : Int) (p : Int) (y.set ((s + kk) / 8) (Go.bits .xor .u8 (rd y (((s + kk) / 8 : Nat) : Int)) (shr .u8 128 (((s + kk) % 8 : Nat) : Int)))) true ((kk + 1 : Nat) : Int)
        else trickleref02_Flip.l0 k (s : Int) (p : Int) y ch ((kk + 1 : Nat) : Int)
      else trickleref02_Flip.l0 k (s : Int) (p : Int) y ch ((kk + 1 : Nat) : Int) := by
  rw [trickleref02_Flip.l0.eq_2, if_pos (by omega), w1 s kk (by omega), w2 (s + kk) (by omega), w3, w4 kk hk, w5 p kk hk]
  have e5 : wrap64 ((kk : Int) + 1) = ((kk + 1 : Nat) : Int) := w1 kk 1 (by omega)
  rw [e5]
  generalize (s + kk) / 8 = q
  generalize (s + kk) % 8 = b
  have z1 : (0 : Int) ≤ (q : Int) := Int.natCast_nonneg q
  have z2 : (0 : Int) ≤ (b : Int) := Int.natCast_nonneg b
  have z3 : (0 : Int) ≤ ((15 - kk : Nat) : Int) := Int.natCast_nonneg _
  rw [if_pos z1, if_pos z2, if_pos z3, Int.toNat_natCast]
  have z4 : ((q : Int) < (y.length : Int)) = (q < y.length) := by simp
  simp only [z4]
  cases patBit p kk <;> simp

theorem flip_keep {l : List Int} {s p kk : Nat} {y : List Int} {ch : Bool} (hf : Flipped l s p kk y ch) (hpb : s + kk < 8 * l.length → patBit p kk = false) : Flipped l s p (kk + 1) y ch := by
  refine ⟨hf.len, hf.wf, ?_, fun h => ?_⟩
  · intro i hi
    rw [hf.bits i hi]
    by_cases hik : i = s + kk
    · have hz : patBit p (i - s) = false := by rw [show i - s = kk by omega]; exact hpb (by omega)
      rw [hz, Bool.and_false, Bool.and_false]
    · have : (s ≤ i ∧ i < s + (kk + 1)) ↔ (s ≤ i ∧ i < s + kk) := by omega
      simp only [this]
  · obtain ⟨j, h1, h2, h3⟩ := hf.chg h
    exact ⟨j, by omega, h2, h3⟩

theorem flip_turn {l : List Int} {s p kk : Nat} {y : List Int} {ch : Bool} (hf : Flipped l s p kk y ch) (hin : s + kk < 8 * l.length) (hpb : patBit p kk = true) :
    Flipped l s p (kk + 1) (y.set ((s + kk) / 8) (Go.bits .xor .u8 (rd y (((s + kk) / 8 : Nat) : Int)) (shr .u8 128 (((s + kk) % 8 : Nat) : Int)))) true := by
  have hlen := hf.len
  have hq : (s + kk) / 8 < y.length := by omega
  have hb : (s + kk) % 8 < 8 := by omega
  have hd : 8 * ((s + kk) / 8) + (s + kk) % 8 = s + kk := by omega
  refine ⟨?_, wf_set _ _ _ hq hb hf.wf, ?_, fun _ => ⟨kk, by omega, hin, hpb⟩⟩
  · rw [List.length_set]
    exact hlen
  · intro i hi
    rw [bitAt_set _ _ _ i hq hb hf.wf, hf.bits i hi, hd]
    by_cases hik : i = s + kk
    · subst hik
      rw [show s + kk - s = kk by omega, hpb]
      simp
    · have : (s ≤ i ∧ i < s + (kk + 1)) ↔ (s ≤ i ∧ i < s + kk) := by omega
      simp only [this, decide_eq_false hik, Bool.xor_false]

theorem flip_loop (l : List Int) (hl : l.length ≤ 1000) (s p : Nat) (hs : s < 8 * l.length) : ∀ (d kk k : Nat) (y : List Int) (ch : Bool), kk + d = 16 → d < k → Flipped l s p kk y ch →
    ∃ y' ch', trickleref02_Flip.l0 k (s : Int) (p : Int) y ch (kk : Int) = some (y', ch') ∧ Flipped l s p 16 y' ch'
  | 0, kk, k, y, ch, h, hk, hf => by
    obtain ⟨k, rfl⟩ : ∃ m, k = m + 1 := ⟨k - 1, by omega⟩
    have : kk = 16 := by omega
    subst this
    rw [trickleref02_Flip.l0.eq_2, if_neg (by omega)]
    exact ⟨y, ch, rfl, hf⟩
  | d + 1, kk, k, y, ch, h, hk, hf => by
    obtain ⟨k, rfl⟩ : ∃ m, k = m + 1 := ⟨k - 1, by omega⟩
    rw [flip_round s p kk k y ch (by omega) (by omega)]
    have hlen := hf.len
    by_cases hin : s + kk < 8 * l.length
    · rw [if_pos (by omega)]
      cases hpb : patBit p kk with
      | true =>
        rw [if_pos rfl]
        exact flip_loop l hl s p hs d (kk + 1) k _ true (by omega) (by omega) (flip_turn hf hin hpb)
      | false =>
        rw [if_neg (by decide)]
        exact flip_loop l hl s p hs d (kk + 1) k y ch (by omega) (by omega) (flip_keep hf fun _ => hpb)
    · rw [if_neg (by omega)]
      exact flip_loop l hl s p hs d (kk + 1) k y ch (by omega) (by omega) (flip_keep hf fun h => absurd h hin)

/-- The register behind what has been turned: not 0 if the register behind the whole was. -/
theorem flipped_tells {l y : List Int} {s p : Nat} (hs : s < 8 * l.length) (hwf : ∀ x ∈ l, 0 ≤ x ∧ x ≤ 255) (hf : Flipped l s p 16 y true) (v : BitVec 16) (h0 : upd v l = 0#16) : upd v y ≠ 0#16 := by
  intro hy
  have hd : feed (v ^^^ v) (List.zipWith (· ^^ ·) (bitsOf l) (bitsOf y)) = feed v (bitsOf l) ^^^ feed v (bitsOf y) := feed_xor _ _ _ _ (by simp [bitsOf, hf.len])
  rw [feed_bits l v hwf, feed_bits y v hf.wf, h0, hy, BitVec.xor_self, BitVec.xor_self] at hd
  have hz : List.zipWith (· ^^ ·) (bitsOf l) (bitsOf y) = (List.range (8 * l.length)).map fun i => decide (s ≤ i ∧ i < s + 16) && patBit p (i - s) := by
    unfold bitsOf
    rw [hf.len]
    apply List.ext_getElem
    · simp
    · intro i h1 h2
      simp only [List.length_map, List.length_range] at h2
      simp only [List.getElem_zipWith, List.getElem_map, List.getElem_range]
      rw [hf.bits i h2]
      cases bitAt l i <;> cases (decide (s ≤ i ∧ i < s + 16) && patBit p (i - s)) <;> rfl
  rw [hz] at hd
  have hsplit : List.range (8 * l.length) = List.range s ++ ((List.range (min 16 (8 * l.length - s))).map (s + ·) ++ (List.range (8 * l.length - s - min 16 (8 * l.length - s))).map (s + min 16 (8 * l.length - s) + ·)) := by
    conv => lhs; rw [show 8 * l.length = s + (min 16 (8 * l.length - s) + (8 * l.length - s - min 16 (8 * l.length - s))) by omega]
    rw [List.range_add, List.range_add, List.map_append, List.map_map]
    congr 3
    funext x
    simp [Nat.add_assoc]
  rw [hsplit, List.map_append, List.map_append, List.map_map, List.map_map, feed_append, feed_append] at hd
  have ha : (List.range s).map (fun i => decide (s ≤ i ∧ i < s + 16) && patBit p (i - s)) = List.replicate s false := by
    rw [List.eq_replicate_iff]
    refine ⟨by simp, fun b hb => ?_⟩
    obtain ⟨i, hi, rfl⟩ := List.mem_map.1 hb
    have := List.mem_range.1 hi
    rw [decide_eq_false (by omega)]
    rfl
  have hc : (List.range (8 * l.length - s - min 16 (8 * l.length - s))).map ((fun i => decide (s ≤ i ∧ i < s + 16) && patBit p (i - s)) ∘ (s + min 16 (8 * l.length - s) + ·)) = List.replicate (8 * l.length - s - min 16 (8 * l.length - s)) false := by
    rw [List.eq_replicate_iff]
    refine ⟨by simp, fun b hb => ?_⟩
    obtain ⟨i, hi, rfl⟩ := List.mem_map.1 hb
    have := List.mem_range.1 hi
    show (decide (s ≤ s + min 16 (8 * l.length - s) + i ∧ s + min 16 (8 * l.length - s) + i < s + 16) && _) = false
    rw [decide_eq_false (by omega)]
    rfl
  rw [ha, hc, feed_falses, feed_falses, steps_zero] at hd
  have hw := feed_window _ (by simp; omega) (steps_inj0 _ _ hd)
  obtain ⟨j, h1, h2, h3⟩ := hf.chg rfl
  have := hw ((fun i => decide (s ≤ i ∧ i < s + 16) && patBit p (i - s)) (s + j)) (List.mem_map.2 ⟨j, List.mem_range.2 (by omega), rfl⟩)
  simp only [show s + j - s = j by omega, h3, Bool.and_true, decide_eq_false_iff_not] at this
  omega

theorem ref_flip (l : List Int) (hl : l.length ≤ 1000) (hwf : ∀ x ∈ l, 0 ≤ x ∧ x ≤ 255) (s p : Nat) (hs : s < 8 * l.length) (k : Nat) (hk : 17 ≤ k) :
    ∃ y ch, trickleref02_Flip.f k l (s : Int) (p : Int) = some (y, ch) ∧ Flipped l s p 16 y ch := by
  unfold trickleref02_Flip.f
  simp only [Option.bind_some, List.length_nil, List.nil_append, Nat.zero_add]
  rw [if_pos (by omega)]
  refine flip_loop l hl s p hs 16 0 k l false (by omega) (by omega) ⟨rfl, hwf, fun i _ => ?_, fun h => by cases h⟩
  rw [decide_eq_false (by omega)]
  simp

/-- A list whose register is not 0 behind it bears no right sum. -/
theorem summed_of (l : List Int) (h : 2 ≤ l.length) (h0 : upd 0xFFFF#16 l ≠ 0#16) : checked l = ([], 4) := by
  unfold checked
  rw [if_neg (by omega), if_neg]
  intro e
  exact h0 (by rw [← e]; exact summed_zero _)
end Go.Proofs.Ytcedelnpdeakaaa.QAll

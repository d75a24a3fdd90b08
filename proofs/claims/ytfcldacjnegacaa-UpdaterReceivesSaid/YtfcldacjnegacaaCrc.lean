/- The algebra of the 16-bit register: one step is linear and loses nothing; what follows for strings of bytes. No program in sight. -/
namespace Go.Proofs.Ytfcldacjnegacaa.Crc

/-- One step of the register. -/
def step (x : BitVec 16) : BitVec 16 := if x.msb then (x <<< 1) ^^^ 0x1021#16 else x <<< 1
def steps : Nat → BitVec 16 → BitVec 16
  | 0, x => x
  | n + 1, x => steps n (step x)

theorem step_xor (x y : BitVec 16) : step (x ^^^ y) = step x ^^^ step y := by
  unfold step
  rw [BitVec.msb_xor, BitVec.shiftLeft_xor_distrib]
  cases x.msb <;> cases y.msb
  · simp
  · simp [BitVec.xor_assoc]
  · simp only [Bool.xor_false, ↓reduceIte, Bool.false_eq_true]
    rw [BitVec.xor_assoc, BitVec.xor_comm (y <<< 1), ← BitVec.xor_assoc]
  · simp only [Bool.xor_self, Bool.false_eq_true, ↓reduceIte]
    rw [BitVec.xor_assoc, ← BitVec.xor_assoc 0x1021#16, BitVec.xor_comm 0x1021#16 (y <<< 1), BitVec.xor_assoc, BitVec.xor_self]
    simp
theorem steps_xor : ∀ (n : Nat) (x y : BitVec 16), steps n (x ^^^ y) = steps n x ^^^ steps n y
  | 0, _, _ => rfl
  | n + 1, x, y => by
    show steps n (step (x ^^^ y)) = _
    rw [step_xor, steps_xor n]
    rfl
theorem step_zero : step 0#16 = 0#16 := by decide
theorem steps_zero : ∀ n : Nat, steps n 0#16 = 0#16
  | 0 => rfl
  | n + 1 => by
    show steps n (step 0#16) = _
    rw [step_zero, steps_zero n]
theorem step_inj0 (x : BitVec 16) (h : step x = 0#16) : x = 0#16 := by
  unfold step at h
  split at h
  · have := congrArg (fun v : BitVec 16 => v.getLsbD 0) h
    simp at this
  · rename_i hm
    apply BitVec.eq_of_getLsbD_eq
    intro i hi
    rcases Nat.lt_or_ge i 15 with h1 | h1
    · have := congrArg (fun v : BitVec 16 => v.getLsbD (i + 1)) h
      simp at this
      have h2 := this (by omega)
      simp [h2]
    · have h15 : i = 15 := by omega
      subst h15
      rw [BitVec.msb_eq_getLsbD_last] at hm
      simpa using hm
theorem steps_inj0 : ∀ (n : Nat) (x : BitVec 16), steps n x = 0#16 → x = 0#16
  | 0, _, h => h
  | n + 1, x, h => step_inj0 x (steps_inj0 n _ h)

/-- A byte into the register. -/
def up (x : BitVec 16) (c : Int) : BitVec 16 := steps 8 (x ^^^ (BitVec.ofInt 16 c <<< 8))
def upd (x : BitVec 16) (l : List Int) : BitVec 16 := l.foldl up x

theorem upd_append (x : BitVec 16) (a b : List Int) : upd x (a ++ b) = upd (upd x a) b := List.foldl_append

/-- Whether two lists of bytes and their exclusive or stand index by index. -/
def Xor3 : List Int → List Int → List Int → Prop
  | [], [], [] => True
  | a :: as, b :: bs, c :: cs => BitVec.ofInt 16 c = BitVec.ofInt 16 a ^^^ BitVec.ofInt 16 b ∧ Xor3 as bs cs
  | _, _, _ => False

theorem upd_xor : ∀ (a b c : List Int) (x y : BitVec 16), Xor3 a b c → upd (x ^^^ y) c = upd x a ^^^ upd y b
  | [], [], [], _, _, _ => rfl
  | a :: as, b :: bs, c :: cs, x, y, h => by
    obtain ⟨h1, h2⟩ := h
    show upd (up (x ^^^ y) c) cs = upd (up x a) as ^^^ upd (up y b) bs
    have : up (x ^^^ y) c = up x a ^^^ up y b := by
      unfold up
      rw [h1, ← steps_xor, BitVec.shiftLeft_xor_distrib]
      congr 1
      ac_rfl
    rw [this]
    exact upd_xor as bs cs _ _ h2
  | [], [], _ :: _, _, _, h => h.elim
  | [], _ :: _, _, _, _, h => h.elim
  | _ :: _, [], _, _, _, h => h.elim
  | _ :: _, _ :: _, [], _, _, h => h.elim
theorem xor3_zeros : ∀ b : List Int, Xor3 (List.replicate b.length 0) b b
  | [] => trivial
  | b :: bs => ⟨by simp, xor3_zeros bs⟩

/-- The register behind b, begun at x ^^^ y: zeros begun at x, and b begun at y. -/
theorem upd_zeros (x y : BitVec 16) (b : List Int) : upd (x ^^^ y) b = upd x (List.replicate b.length 0) ^^^ upd y b := upd_xor _ _ _ x y (xor3_zeros b)

theorem low_byte : ∀ c : Fin 256, steps 8 (BitVec.ofNat 16 c.val) = BitVec.ofNat 16 c.val <<< 8 := by decide +kernel

/-- A sum's own two bytes behind a string bring the register to 0. -/
theorem upd_own (s : BitVec 16) : upd s [((s.toNat / 256 : Nat) : Int), ((s.toNat % 256 : Nat) : Int)] = 0#16 := by
  have hs : s.toNat < 65536 := s.isLt
  show up (up s _) _ = 0#16
  have h1 : up s ((s.toNat / 256 : Nat) : Int) = BitVec.ofNat 16 (s.toNat % 256) <<< 8 := by
    unfold up
    have : s ^^^ (BitVec.ofInt 16 ((s.toNat / 256 : Nat) : Int) <<< 8) = BitVec.ofNat 16 (s.toNat % 256) := by
      have e : s = (BitVec.ofInt 16 ((s.toNat / 256 : Nat) : Int) <<< 8) ^^^ BitVec.ofNat 16 (s.toNat % 256) := by
        apply BitVec.eq_of_toNat_eq
        rw [BitVec.toNat_xor, BitVec.toNat_shiftLeft, BitVec.ofInt_natCast, BitVec.toNat_ofNat, BitVec.toNat_ofNat]
        rw [Nat.mod_eq_of_lt (show s.toNat / 256 < 2 ^ 16 by omega), Nat.mod_eq_of_lt (show s.toNat % 256 < 2 ^ 16 by omega), Nat.shiftLeft_eq, Nat.mod_eq_of_lt (show s.toNat / 256 * 2 ^ 8 < 2 ^ 16 by omega)]
        have hx : s.toNat / 256 * 2 ^ 8 ^^^ s.toNat % 256 = s.toNat / 256 * 2 ^ 8 + s.toNat % 256 := by
          rw [Nat.mul_comm, Nat.two_pow_add_eq_or_of_lt (show s.toNat % 256 < 2 ^ 8 by omega)]
          apply Nat.eq_of_testBit_eq
          intro i
          rw [Nat.testBit_xor, Nat.testBit_or, Nat.testBit_two_pow_mul]
          rcases Nat.lt_or_ge i 8 with h | h
          · simp [show ¬ 8 ≤ i by omega]
          · have : (s.toNat % 256).testBit i = false := Nat.testBit_lt_two_pow (Nat.lt_of_lt_of_le (show s.toNat % 256 < 2 ^ 8 by omega) (Nat.pow_le_pow_right (by omega) h))
            simp [this]
        rw [hx]
        omega
      calc s ^^^ (BitVec.ofInt 16 ((s.toNat / 256 : Nat) : Int) <<< 8)
          = ((BitVec.ofInt 16 ((s.toNat / 256 : Nat) : Int) <<< 8) ^^^ BitVec.ofNat 16 (s.toNat % 256)) ^^^ (BitVec.ofInt 16 ((s.toNat / 256 : Nat) : Int) <<< 8) := by rw [← e]
        _ = BitVec.ofNat 16 (s.toNat % 256) := by rw [BitVec.xor_comm, ← BitVec.xor_assoc, BitVec.xor_self]; simp
    rw [this]
    exact low_byte ⟨s.toNat % 256, by omega⟩
  rw [h1]
  unfold up
  rw [BitVec.ofInt_natCast, BitVec.xor_self]
  exact steps_zero 8

/-! ### Bits -/
/-- One bit of input: the reference's step. -/
def bit (x : BitVec 16) (b : Bool) : BitVec 16 := if x.msb = b then x <<< 1 else (x <<< 1) ^^^ 0x1021#16
def feed (x : BitVec 16) (l : List Bool) : BitVec 16 := l.foldl bit x
theorem feed_append (x : BitVec 16) (a b : List Bool) : feed x (a ++ b) = feed (feed x a) b := List.foldl_append

theorem bit_xor (x y : BitVec 16) (a b : Bool) : bit (x ^^^ y) (a ^^ b) = bit x a ^^^ bit y b := by
  unfold bit
  rw [BitVec.msb_xor, BitVec.shiftLeft_xor_distrib]
  cases x.msb <;> cases y.msb <;> cases a <;> cases b <;> simp only [Bool.xor_false, Bool.xor_true, Bool.false_eq_true, Bool.true_eq_false, Bool.not_false, Bool.not_true, ↓reduceIte] <;> first | rfl | ac_rfl | (rw [show x <<< 1 ^^^ 4129#16 ^^^ (y <<< 1 ^^^ 4129#16) = x <<< 1 ^^^ y <<< 1 ^^^ (4129#16 ^^^ 4129#16) by ac_rfl, BitVec.xor_self]; simp)
theorem bit_false (x : BitVec 16) : bit x false = step x := by
  unfold bit step
  cases x.msb <;> simp
theorem feed_xor : ∀ (a b : List Bool) (x y : BitVec 16), a.length = b.length → feed (x ^^^ y) (List.zipWith (· ^^ ·) a b) = feed x a ^^^ feed y b
  | [], [], _, _, _ => rfl
  | a :: as, b :: bs, x, y, h => by
    show feed (bit (x ^^^ y) (a ^^ b)) _ = feed (bit x a) as ^^^ feed (bit y b) bs
    rw [bit_xor]
    exact feed_xor as bs _ _ (by simpa using h)
  | [], _ :: _, _, _, h => by simp at h
  | _ :: _, [], _, _, h => by simp at h
theorem feed_falses : ∀ (n : Nat) (x : BitVec 16), feed x (List.replicate n false) = steps n x
  | 0, _ => rfl
  | n + 1, x => by
    show feed (bit x false) (List.replicate n false) = _
    rw [bit_false, feed_falses n]
    rfl

/-- The word of a list of bits, the first one highest. -/
def word : List Bool → BitVec 16
  | [] => 0#16
  | b :: l => (if b then 0x8000#16 else 0#16) ^^^ (word l >>> 1)

theorem word_low : ∀ (l : List Bool) (i : Nat), l.length + i < 16 → (word l).getLsbD i = false
  | [], i, _ => by simp [word]
  | b :: l, i, h => by
    simp only [List.length_cons] at h
    unfold word
    rw [BitVec.getLsbD_xor, BitVec.getLsbD_ushiftRight, Nat.add_comm 1 i, word_low l (i + 1) (by omega)]
    have : (if b = true then 32768#16 else 0#16).getLsbD i = false := by
      cases b
      · simp
      · have : i < 15 := by omega
        rw [if_pos rfl]
        show (32768#16).getLsbD i = false
        have hall : ∀ j : Fin 15, (32768#16).getLsbD j.val = false := by decide
        exact hall ⟨i, this⟩
    simp [this]

theorem feed_word : ∀ (l : List Bool) (x : BitVec 16), l.length ≤ 16 → feed x l = steps l.length (x ^^^ word l)
  | [], x, _ => by simp [feed, word, steps]
  | b :: l, x, h => by
    simp only [List.length_cons] at h
    show feed (bit x b) l = steps l.length (step (x ^^^ word (b :: l)))
    rw [feed_word l _ (by omega)]
    congr 1
    rw [show word (b :: l) = (if b then 0x8000#16 else 0#16) ^^^ (word l >>> 1) from rfl]
    rw [← BitVec.xor_assoc, step_xor]
    have h1 : step (word l >>> 1) = word l := by
      unfold step
      have hm : (word l >>> 1).msb = false := by
        rw [BitVec.msb_eq_getLsbD_last, BitVec.getLsbD_ushiftRight]
        simp
      rw [hm]
      apply BitVec.eq_of_getLsbD_eq
      intro i hi
      rw [if_neg (by simp), BitVec.getLsbD_shiftLeft]
      rcases Nat.eq_zero_or_pos i with rfl | h0
      · rw [word_low l 0 (by omega)]
        simp
      · simp [hi, show ¬ i < 1 by omega, BitVec.getLsbD_ushiftRight, show 1 + (i - 1) = i by omega]
    rw [h1]
    congr 1
    have h2 := bit_xor x 0#16 false b
    have h3 : bit 0#16 b = step (if b then 0x8000#16 else 0#16) := by cases b <;> decide
    simp only [BitVec.xor_zero, Bool.false_xor] at h2
    rw [h2, h3, bit_false, step_xor]

theorem word_inj0 : ∀ l : List Bool, l.length ≤ 16 → word l = 0#16 → ∀ b ∈ l, b = false
  | [], _, _, b, hb => by simp at hb
  | b :: l, h, h0, c, hc => by
    simp only [List.length_cons] at h
    have hb : b = false := by
      have := congrArg (fun v : BitVec 16 => v.getLsbD 15) h0
      unfold word at this
      simp only [BitVec.getLsbD_xor, BitVec.getLsbD_ushiftRight] at this
      cases b
      · rfl
      · have h16 : (word l).getLsbD (1 + 15) = false := by simp
        rw [h16] at this
        simp at this
    have hw : word l = 0#16 := by
      unfold word at h0
      rw [hb] at h0
      simp at h0
      apply BitVec.eq_of_getLsbD_eq
      intro i hi
      rcases Nat.eq_zero_or_pos i with rfl | hp
      · rw [word_low l 0 (by omega)]
        simp
      · have := congrArg (fun v : BitVec 16 => v.getLsbD (i - 1)) h0
        simp only [BitVec.getLsbD_ushiftRight, show 1 + (i - 1) = i by omega] at this
        rw [this]
        simp
    rcases List.mem_cons.1 hc with rfl | hc
    · exact hb
    · exact word_inj0 l (by omega) hw c hc

/-- A window of at most 16 bits that is not all false does not leave the register 0. -/
theorem feed_window (l : List Bool) (h : l.length ≤ 16) (h0 : feed 0#16 l = 0#16) : ∀ b ∈ l, b = false := by
  rw [feed_word l _ h] at h0
  have := steps_inj0 _ _ h0
  simp only [BitVec.zero_xor] at this
  exact word_inj0 l h this
end Go.Proofs.Ytfcldacjnegacaa.Crc

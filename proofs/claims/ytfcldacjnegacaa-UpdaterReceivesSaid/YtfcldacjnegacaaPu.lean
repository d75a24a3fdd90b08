/- The device's pure laws: what writes leave, headers, stored chunks. No program in sight. -/
import Derived.Test.YtfcldacjnegacaaUpQ
namespace Go.Proofs.Ytfcldacjnegacaa.Up
open Go.RowKit Go.Proofs.YtfcldacjnegacaaW.PrintWords
set_option linter.unusedVariables false
set_option linter.unusedSimpArgs false
/-- A byte. -/
abbrev G (B : List Int) (j : Nat) : Int := B.getD j 0
/-- l written over B from a on. -/
def ins (B : List Int) (a : Nat) : List Int → List Int
  | [] => B
  | x :: l => ins (B.set a x) (a + 1) l
theorem ins_len : ∀ (l : List Int) (B : List Int) (a : Nat), (ins B a l).length = B.length
  | [], _, _ => rfl
  | x :: l, B, a => by
    show (ins (B.set a x) (a + 1) l).length = _
    rw [ins_len l, List.length_set]
theorem G_set (B : List Int) (a j : Nat) (x : Int) (h : a < B.length) : G (B.set a x) j = if a = j then x else G B j := by
  show (B.set a x).getD j 0 = if a = j then x else B.getD j 0
  simp only [List.getD_eq_getElem?_getD]
  rw [List.getElem?_set]
  by_cases e : a = j
  · subst e
    simp [h]
  · simp [e]
theorem G_ins : ∀ (l : List Int) (B : List Int) (a j : Nat), a + l.length ≤ B.length → G (ins B a l) j = if a ≤ j ∧ j < a + l.length then G l (j - a) else G B j
  | [], B, a, j, _ => by
    rw [if_neg (by rw [List.length_nil]; omega)]
    rfl
  | x :: l, B, a, j, h => by
    simp only [List.length_cons] at h
    show G (ins (B.set a x) (a + 1) l) j = _
    rw [G_ins l (B.set a x) (a + 1) j (by rw [List.length_set]; omega), G_set B a j x (by omega), List.length_cons]
    by_cases e : a = j
    · subst e
      rw [if_neg (by omega), if_pos rfl, if_pos (by omega), Nat.sub_self]
      rfl
    · rw [if_neg e]
      by_cases h1 : a + 1 ≤ j ∧ j < a + 1 + l.length
      · rw [if_pos h1, if_pos (by omega), show j - a = (j - (a + 1)) + 1 by omega]
        rfl
      · rw [if_neg h1, if_neg (by omega)]
theorem G_out {l B : List Int} {a j : Nat} (h : a + l.length ≤ B.length) (hj : j < a ∨ a + l.length ≤ j) : G (ins B a l) j = G B j := by
  rw [G_ins l B a j h, if_neg (by omega)]
theorem G_in {l B : List Int} {a j : Nat} (h : a + l.length ≤ B.length) (hj : j < l.length) : G (ins B a l) (a + j) = G l j := by
  rw [G_ins l B a (a + j) h, if_pos (by omega), Nat.add_sub_cancel_left]
/-- What writes leave on a device that is on: all, or a part and the power is off. -/
theorem wrs_spec : ∀ (l : List Int) (B : List Int) (a : Nat) (k : Int), -1 ≤ k →
    ((k < 0 ∨ (l.length : Int) ≤ k) ∧ Dv.wrs ⟨B, false, k⟩ a l = (⟨ins B a l, false, if k < 0 then k else k - l.length⟩, true)) ∨
    (∃ n : Nat, k = (n : Int) ∧ n < l.length ∧ Dv.wrs ⟨B, false, k⟩ a l = (⟨ins B a (l.take n), true, 0⟩, false))
  | [], B, a, k, hk => by
    refine .inl ⟨?_, ?_⟩
    · simp; omega
    · unfold Dv.wrs ins
      by_cases h : k < 0 <;> simp [h]
  | x :: l, B, a, k, hk => by
    by_cases h0 : k = 0
    · subst h0
      refine .inr ⟨0, rfl, by simp, ?_⟩
      unfold Dv.wrs Dv.wr
      simp [ins]
    · have hw : Dv.wr ⟨B, false, k⟩ a x = (⟨B.set a x, false, if 0 < k then k - 1 else k⟩, true) := by
        unfold Dv.wr
        rw [if_neg (by simp), if_neg h0]
      have hstep : Dv.wrs ⟨B, false, k⟩ a (x :: l) = Dv.wrs ⟨B.set a x, false, if 0 < k then k - 1 else k⟩ (a + 1) l := by
        conv => lhs; unfold Dv.wrs
        rw [hw]
        simp
      rw [hstep]
      rcases wrs_spec l (B.set a x) (a + 1) (if 0 < k then k - 1 else k) (by split <;> omega) with ⟨h1, h2⟩ | ⟨n, h1, h2, h3⟩
      · refine .inl ⟨?_, ?_⟩
        · simp only [List.length_cons]
          split at h1 <;> omega
        · rw [h2]
          have e : (if (if 0 < k then k - 1 else k) < 0 then (if 0 < k then k - 1 else k) else (if 0 < k then k - 1 else k) - (l.length : Int)) = if k < 0 then k else k - ((x :: l).length : Int) := by
            simp only [List.length_cons]
            by_cases hp : 0 < k
            · rw [if_pos hp, if_neg (by omega), if_neg (by omega)]; omega
            · rw [if_neg hp, if_pos (by omega), if_pos (by omega)]
          rw [e]
          rfl
      · have hp : 0 < k := by
          by_cases hp : 0 < k
          · exact hp
          · rw [if_neg hp] at h1; omega
        rw [if_pos hp] at h1 h3
        refine .inr ⟨n + 1, by omega, by simp; omega, ?_⟩
        rw [if_pos hp, h3]
        rfl
/-- A device that never fails. -/
abbrev on (B : List Int) : Dv := ⟨B, false, -1⟩
theorem wrs_on (B : List Int) (a : Nat) (l : List Int) : (on B).wrs a l = (on (ins B a l), true) := by
  rcases wrs_spec l B a (-1) (by omega) with ⟨_, h⟩ | ⟨n, h, _⟩
  · rw [h]; simp
  · omega
/-! ### Numbers of the progress -/
theorem rds_on {d : Dv} (ho : d.off = false) (a n : Nat) : d.rds a n = (d.B.drop a).take n := by
  unfold Dv.rds
  rw [if_neg (by rw [ho]; simp)]
theorem take_G : ∀ (n : Nat) (B : List Int) (a : Nat), a + n ≤ B.length → (B.drop a).take n = (List.range n).map (fun t => G B (a + t)) := by
  intro n B a h
  apply List.ext_getElem
  · rw [List.length_take, List.length_drop, List.length_map, List.length_range]; omega
  · intro i h1 h2
    have hi : a + i < B.length := by rw [List.length_take, List.length_drop] at h1; omega
    simp only [List.getElem_take, List.getElem_drop, List.getElem_map, List.getElem_range]
    show B[a + i] = B.getD (a + i) 0
    rw [List.getD_eq_getElem?_getD, List.getElem?_eq_getElem hi]
    rfl
theorem num_G {d : Dv} (ho : d.off = false) (i n : Nat) (h : 3840 + i + n ≤ d.B.length) : d.num i n = le ((List.range n).map (fun t => G d.B (3840 + i + t))) := by
  unfold Dv.num
  rw [rds_on ho, take_G n d.B _ h]
/-- The bytes of a transfer's head. -/
structure Hd (B : List Int) (v l s : Int) (c : Nat) : Prop where
  a : G B 3840 = 1
  v : le [G B 3841, G B 3842, G B 3843, G B 3844] = v
  l : le [G B 3845, G B 3846] = l
  s : le [G B 3847, G B 3848] = s
  c : G B 3849 = (c : Int)
section
variable {d : Dv} {N c : Nat}
theorem n01 (ho : d.off = false) (h : 4096 ≤ d.B.length) : d.num 0 1 = G d.B 3840 := by
  rw [num_G ho 0 1 (by omega)]
  show G d.B 3840 + 256 * 0 = _
  omega
theorem n14 (ho : d.off = false) (h : 4096 ≤ d.B.length) : d.num 1 4 = le [G d.B 3841, G d.B 3842, G d.B 3843, G d.B 3844] := num_G ho 1 4 (by omega)
theorem n52 (ho : d.off = false) (h : 4096 ≤ d.B.length) : d.num 5 2 = le [G d.B 3845, G d.B 3846] := num_G ho 5 2 (by omega)
theorem n72 (ho : d.off = false) (h : 4096 ≤ d.B.length) : d.num 7 2 = le [G d.B 3847, G d.B 3848] := num_G ho 7 2 (by omega)
theorem n91 (ho : d.off = false) (h : 4096 ≤ d.B.length) : d.num 9 1 = G d.B 3849 := by
  rw [num_G ho 9 1 (by omega)]
  show G d.B 3849 + 256 * 0 = _
  omega
theorem n16 (ho : d.off = false) (h : 4096 ≤ d.B.length) (k : Nat) (hk : k < 240) : d.num (16 + k) 1 = G d.B (3856 + k) := by
  rw [num_G ho (16 + k) 1 (by omega)]
  show G d.B (3840 + (16 + k) + 0) + 256 * 0 = _
  rw [show 3840 + (16 + k) + 0 = 3856 + k by omega]
  omega
theorem act_iff (ho : d.off = false) (h : 4096 ≤ d.B.length) : d.act (c : Int) = true ↔ G d.B 3840 = 1 ∧ 1 ≤ le [G d.B 3845, G d.B 3846] ∧ le [G d.B 3845, G d.B 3846] ≤ 6144 ∧ G d.B 3849 = (c : Int) := by
  unfold Dv.act
  rw [n01 ho h, n52 ho h, n91 ho h]
  simp only [Bool.and_eq_true, decide_eq_true_eq]
  constructor
  · rintro ⟨⟨⟨a, b⟩, c⟩, d⟩; exact ⟨a, b, c, d⟩
  · rintro ⟨a, b, c, d⟩; exact ⟨⟨⟨a, b⟩, c⟩, d⟩
theorem Hd.act {v l s : Int} (ho : d.off = false) (h : 4096 ≤ d.B.length) (hh : Hd d.B v l s c) (h1 : 1 ≤ l) (h2 : l ≤ 6144) : d.act (c : Int) = true := by
  rw [act_iff ho h, hh.l]
  exact ⟨hh.a, h1, h2, hh.c⟩
theorem act_off (ho : d.off = true) (chunk : Int) : d.act chunk = false := by
  cases h : d.act chunk with
  | false => rfl
  | true => have := act_on h; rw [ho] at this; cases this
/-- Whether chunk i is stored, of the bytes. -/
def stB (B : List Int) (i : Nat) : Bool := decide (G B (3856 + i / 8) / 2 ^ (i % 8) % 2 = 1)
theorem st_on (ho : d.off = false) (h : 4096 ≤ d.B.length) (i : Nat) (hi : i < 1900) : d.st i = stB d.B i := by
  unfold Dv.st stB
  rw [n16 ho h (i / 8) (by omega)]
end
theorem Hd.congr {B B' : List Int} {v l s : Int} {c : Nat} (h : Hd B v l s c) (e : ∀ j, 3840 ≤ j → j < 3850 → G B' j = G B j) : Hd B' v l s c := by
  obtain ⟨h1, h2, h3, h4, h5⟩ := h
  refine ⟨?_, ?_, ?_, ?_, ?_⟩
  · rw [e _ (by omega) (by omega)]; exact h1
  · rw [e _ (by omega) (by omega), e _ (by omega) (by omega), e _ (by omega) (by omega), e _ (by omega) (by omega)]; exact h2
  · rw [e _ (by omega) (by omega), e _ (by omega) (by omega)]; exact h3
  · rw [e _ (by omega) (by omega), e _ (by omega) (by omega)]; exact h4
  · rw [e _ (by omega) (by omega)]; exact h5
/-! ### Bits -/
theorem orb_bit8 : ∀ x : Fin 256, ∀ k j : Fin 8, decide (orb ((x.val : Nat) : Int) k.val / 2 ^ j.val % 2 = 1) = (decide (((x.val : Nat) : Int) / 2 ^ j.val % 2 = 1) || decide (j.val = k.val)) := by decide +kernel
theorem orb_bit (x : Int) (h0 : 0 ≤ x) (h1 : x < 256) (k j : Nat) (hk : k < 8) (hj : j < 8) : decide (orb x k / 2 ^ j % 2 = 1) = (decide (x / 2 ^ j % 2 = 1) || decide (j = k)) := by
  obtain ⟨n, rfl⟩ := Int.eq_ofNat_of_zero_le h0
  exact orb_bit8 ⟨n, by omega⟩ ⟨k, hk⟩ ⟨j, hj⟩
theorem G_byte {N : Nat} {d : Dv} (h : d.Ok N) (j : Nat) : 0 ≤ G d.B j ∧ G d.B j < 256 := by
  show 0 ≤ d.B.getD j 0 ∧ d.B.getD j 0 < 256
  rw [List.getD_eq_getElem?_getD]
  cases hj : d.B[j]? with
  | none => simp
  | some x => exact h.byte x (List.mem_of_getElem? hj)
/-! ### Storing a chunk -/
/-- The bytes behind a chunk that was stored whole. -/
def putB (B : List Int) (sl c i : Nat) (xs : List Int) : List Int := ins (ins B (sl + i * c) xs) (3856 + i / 8) [orb (G B (3856 + i / 8)) (i % 8)]
theorem putB_len (B : List Int) (sl c i : Nat) (xs : List Int) : (putB B sl c i xs).length = B.length := by unfold putB; rw [ins_len, ins_len]
theorem ins_ok {N : Nat} {B : List Int} {o : Bool} {k : Int} (h : Dv.Ok N ⟨B, o, k⟩) {a : Nat} {l : List Int} (hl : ∀ x ∈ l, 0 ≤ x ∧ x < 256) {o' : Bool} {k' : Int} (h1 : -1 ≤ k') (h2 : k' ≤ 1000) : Dv.Ok N ⟨ins B a l, o', k'⟩ := by
  refine ⟨by rw [ins_len]; exact h.len, h1, h2, ?_⟩
  have : ∀ (l : List Int) (B : List Int) (a : Nat), (∀ x ∈ B, 0 ≤ x ∧ x < 256) → (∀ x ∈ l, 0 ≤ x ∧ x < 256) → ∀ x ∈ ins B a l, 0 ≤ x ∧ x < 256 := by
    intro l
    induction l with
    | nil => exact fun B a hB _ => hB
    | cons y l ih =>
      intro B a hB hl
      refine ih (B.set a y) (a + 1) (fun x hx => ?_) (fun x hx => hl x (by simp [hx]))
      rcases List.mem_or_eq_of_mem_set hx with hx | rfl
      · exact hB x hx
      · exact hl _ (by simp)
  exact this l B a h.byte hl
theorem putB_G {B : List Int} {c i : Nat} {xs : List Int} (hB : 10240 ≤ B.length) (hi : i < 1900) (hx : 4096 + i * c + xs.length ≤ 10240) (j : Nat) (hj : j < 3856 ∨ 4096 ≤ j) :
    G (putB B 4096 c i xs) j = if 4096 + i * c ≤ j ∧ j < 4096 + i * c + xs.length then G xs (j - (4096 + i * c)) else G B j := by
  unfold putB
  rw [G_out (by rw [ins_len]; simp; omega) (by simp; omega), G_ins _ _ _ _ (by omega)]
theorem putB_st {N : Nat} {B : List Int} {o : Bool} {k : Int} {c i : Nat} {xs : List Int} (h : Dv.Ok N ⟨B, o, k⟩) (hB : 10240 ≤ B.length) (hi : i < 1900) (hx : 4096 + i * c + xs.length ≤ 10240) (j : Nat) (hj : j < 1900) :
    stB (putB B 4096 c i xs) j = (stB B j || decide (j = i)) := by
  have hb := G_byte h (3856 + i / 8)
  unfold stB putB
  by_cases e : j / 8 = i / 8
  · rw [e]
    have h1 := G_in (l := [orb (G B (3856 + i / 8)) (i % 8)]) (B := ins B (4096 + i * c) xs) (a := 3856 + i / 8) (j := 0) (by rw [ins_len]; simp; omega) (by simp)
    rw [Nat.add_zero] at h1
    rw [h1]
    show decide (orb (G B (3856 + i / 8)) (i % 8) / 2 ^ (j % 8) % 2 = 1) = _
    rw [orb_bit _ hb.1 hb.2 _ _ (Nat.mod_lt _ (by decide)) (Nat.mod_lt _ (by decide))]
    congr 1
    by_cases e2 : j = i
    · simp [e2]
    · have : ¬ j % 8 = i % 8 := by omega
      simp [e2, this]
  · rw [G_out (by rw [ins_len]; simp; omega) (by simp; omega), G_out (by omega) (by omega)]
    have : ¬ j = i := by rintro rfl; exact e rfl
    simp [this]
theorem store_spec {N : Nat} {B : List Int} {k : Int} {c i : Nat} {xs : List Int} {l : Nat} (h : Dv.Ok N ⟨B, false, k⟩) (hN : N = 10240) (hc : 4 ≤ c) (hact : Dv.act ⟨B, false, k⟩ (c : Int) = true) (hl : le [G B 3845, G B 3846] = (l : Int))
    (hi : i < nch l c) (hx : xs.length = clen l c i) (hs : stB B i = false) :
    ((k < 0 ∨ (xs.length : Int) < k) ∧ ∃ k', (k < 0 → k' = k) ∧ -1 ≤ k' ∧ k' ≤ 1000 ∧ Dv.store ⟨B, false, k⟩ 4096 c (i : Int) xs = (⟨putB B 4096 c i xs, false, k'⟩, 0)) ∨
    (∃ n : Nat, n ≤ xs.length ∧ 0 ≤ k ∧ k ≤ xs.length ∧ Dv.store ⟨B, false, k⟩ 4096 c (i : Int) xs = (⟨ins B (4096 + i * c) (xs.take n), true, 0⟩, 9)) := by
  have hB : B.length = N := h.len
  have hlo : -1 ≤ k := h.lo
  have hhi : k ≤ 1000 := h.hi
  have ha := (act_iff (d := ⟨B, false, k⟩) rfl (show 4096 ≤ B.length by omega)).1 hact
  have hl2 : l ≤ 6144 := by have := ha.2.2.1; rw [hl] at this; omega
  have hq := nch_le hl2 hc
  have hmul := nch_mul hi
  have h52 : Dv.num ⟨B, false, k⟩ 5 2 = (l : Int) := by rw [n52 rfl (show 4096 ≤ B.length by omega)]; exact hl
  have hcl : 4096 + i * c + xs.length ≤ 10240 := by rw [hx]; unfold clen; omega
  have hst : Dv.st ⟨B, false, k⟩ i = false := by rw [st_on rfl (show 4096 ≤ B.length by omega) i (by omega)]; exact hs
  have e0 : Dv.store ⟨B, false, k⟩ 4096 c (i : Int) xs = Dv.put ⟨B, false, k⟩ 4096 c i xs := by
    unfold Dv.store
    rw [if_neg (by rw [hact]; simp), h52, Int.toNat_natCast, Int.toNat_natCast, if_neg (by omega), if_neg (by rw [hst]; simp)]
  rw [e0]
  rcases wrs_spec xs B (4096 + i * c) k hlo with ⟨h1, h2⟩ | ⟨n, h1, h2, h3⟩
  · generalize hk' : (if k < 0 then k else k - (xs.length : Int)) = k' at h2
    have hk2 : (k < 0 → k' = k) ∧ (¬ k < 0 → k' = k - xs.length) := by
      rw [← hk']
      exact ⟨fun h => if_pos h, fun h => if_neg h⟩
    have e1 := put_t (d := ⟨B, false, k⟩) (sl := 4096) (c := c) (i := i) (xs := xs) (by rw [h2])
    rw [h2] at e1
    dsimp only at e1
    have e2 : Dv.num ⟨ins B (4096 + i * c) xs, false, k'⟩ (16 + i / 8) 1 = G B (3856 + i / 8) := by
      rw [n16 rfl (show 4096 ≤ (ins B (4096 + i * c) xs).length by rw [ins_len]; omega) _ (by omega)]
      exact G_out (by omega) (by omega)
    rw [e2] at e1
    rw [e1]
    rcases wrs_spec [orb (G B (3856 + i / 8)) (i % 8)] (ins B (4096 + i * c) xs) (3856 + i / 8) k' (by omega) with ⟨h4, h5⟩ | ⟨n, h4, h5, h6⟩
    · rw [h5]
      refine .inl ⟨by simp at h4; omega, _, ?_, ?_, ?_, rfl⟩
      · intro hk
        rw [hk2.1 hk, if_pos hk]
      · simp only [List.length_cons, List.length_nil] at h4 ⊢
        split <;> omega
      · have hk3 : k' ≤ 1000 := by
          by_cases hk : k < 0
          · rw [hk2.1 hk]; exact hhi
          · rw [hk2.2 hk]; omega
        simp only [List.length_cons, List.length_nil] at h4 ⊢
        split <;> omega
    · rw [h6]
      simp only [List.length_cons, List.length_nil] at h5
      obtain rfl : n = 0 := by omega
      refine .inr ⟨xs.length, Nat.le_refl _, by omega, by omega, ?_⟩
      rw [List.take_length]
      rfl
  · have e1 := put_f (d := ⟨B, false, k⟩) (sl := 4096) (c := c) (i := i) (xs := xs) (by rw [h3])
    rw [e1, h3]
    exact .inr ⟨n, by omega, by omega, by omega, rfl⟩
/-! ### Offering -/
/-- The bytes behind an offer that was written whole. -/
def offB (B : List Int) (v l s : Int) (c m : Nat) : List Int := ins (ins (ins (ins B 3840 [0]) 3856 (List.replicate m 0)) 3841 (head v l s c)) 3840 [1]
theorem offB_len (B : List Int) (v l s : Int) (c m : Nat) : (offB B v l s c m).length = B.length := by unfold offB; rw [ins_len, ins_len, ins_len, ins_len]
theorem head_len (v l s : Int) (c : Nat) : (head v l s c).length = 9 := rfl
theorem off_G {B : List Int} {v l s : Int} {c m : Nat} (hB : 10240 ≤ B.length) (hm : m ≤ 200) (j : Nat) :
    G (offB B v l s c m) j = if j = 3840 then 1 else if 3841 ≤ j ∧ j < 3850 then G (head v l s c) (j - 3841) else if 3856 ≤ j ∧ j < 3856 + m then 0 else G B j := by
  unfold offB
  rw [G_ins _ _ _ _ (by simp only [ins_len, List.length_cons, List.length_nil]; omega), G_ins _ _ _ _ (by simp only [ins_len, head_len]; omega), G_ins _ _ _ _ (by simp only [ins_len, List.length_replicate]; omega), G_ins _ _ _ _ (by simp only [List.length_cons, List.length_nil]; omega), List.length_replicate, head_len]
  simp only [List.length_cons, List.length_nil]
  by_cases h0 : j = 3840
  · subst h0; rfl
  · rw [if_neg (by omega), if_neg h0]
    by_cases h1 : 3841 ≤ j ∧ j < 3850
    · rw [if_pos (by omega), if_pos h1]
    · rw [if_neg (by omega), if_neg h1]
      by_cases h2 : 3856 ≤ j ∧ j < 3856 + m
      · rw [if_pos h2, if_pos h2]
        show (List.replicate m (0 : Int)).getD (j - 3856) 0 = 0
        rw [List.getD_eq_getElem?_getD, List.getElem?_replicate]
        split <;> rfl
      · rw [if_neg h2, if_neg h2, if_neg (by omega)]
theorem off_Hd {B : List Int} {v l s : Int} {c m : Nat} (hB : 10240 ≤ B.length) (hm : m ≤ 200) (hv : 0 ≤ v ∧ v ≤ 2147483647) (hl : 0 ≤ l ∧ l ≤ 6144) (hs : 0 ≤ s ∧ s < 65536) (hc : c < 256) : Hd (offB B v l s c m) v l s c := by
  refine ⟨by rw [off_G hB hm]; rfl, ?_, ?_, ?_, ?_⟩
  · rw [off_G hB hm, off_G hB hm, off_G hB hm, off_G hB hm]
    show v % 256 + 256 * (v / 256 % 256 + 256 * (v / 65536 % 256 + 256 * (v / 16777216 % 256 + 256 * 0))) = v
    omega
  · rw [off_G hB hm, off_G hB hm]
    show l % 256 + 256 * (l / 256 % 256 + 256 * 0) = l
    omega
  · rw [off_G hB hm, off_G hB hm]
    show s % 256 + 256 * (s / 256 % 256 + 256 * 0) = s
    omega
  · rw [off_G hB hm]
    show (c : Int) % 256 = (c : Int)
    omega
theorem off_st {B : List Int} {v l s : Int} {c m : Nat} (hB : 10240 ≤ B.length) (hm : m ≤ 200) (i : Nat) (hi : i < 8 * m) : stB (offB B v l s c m) i = false := by
  unfold stB
  rw [off_G hB hm, if_neg (by omega), if_neg (by omega), if_pos (by omega)]
  simp
theorem seq_spec {B : List Int} {k : Int} (hk : -1 ≤ k) (hk2 : k ≤ 1000) (v l s : Int) (c m : Nat) (hB : 10240 ≤ B.length) (hm : m ≤ 200) :
    (∃ k', (k < 0 → k' = k) ∧ -1 ≤ k' ∧ k' ≤ 1000 ∧ Dv.seq ⟨B, false, k⟩ (offL v l s c m) = (⟨offB B v l s c m, false, k'⟩, true)) ∨
    (0 ≤ k ∧ ∃ B', (B' = B ∨ G B' 3840 = 0) ∧ B'.length = B.length ∧ Dv.seq ⟨B, false, k⟩ (offL v l s c m) = (⟨B', true, 0⟩, false)) := by
  have norm : ∀ (B : List Int) (a : Nat) (x : List Int) (k : Int), -1 ≤ k → k ≤ 1000 → (∃ k', (k < 0 → k' = k) ∧ -1 ≤ k' ∧ k' ≤ 1000 ∧ Dv.wrs ⟨B, false, k⟩ a x = (⟨ins B a x, false, k'⟩, true)) ∨ (0 ≤ k ∧ ∃ n : Nat, n < x.length ∧ Dv.wrs ⟨B, false, k⟩ a x = (⟨ins B a (x.take n), true, 0⟩, false)) := by
    intro B a x k h1 h2
    rcases wrs_spec x B a k h1 with ⟨h3, h4⟩ | ⟨n, h3, h4, h5⟩
    · refine .inl ⟨_, ?_, ?_, ?_, h4⟩
      · intro h; rw [if_pos h]
      · split <;> omega
      · split <;> omega
    · exact .inr ⟨by omega, n, h4, h5⟩
  unfold offL
  rcases norm B 3840 [0] k hk hk2 with ⟨k1, a1, a2, a3, a4⟩ | ⟨a1, n, a2, a3⟩
  · rw [seq_t (by rw [a4]), a4]
    dsimp only
    rcases norm (ins B 3840 [0]) 3856 (List.replicate m 0) k1 a2 a3 with ⟨k2, b1, b2, b3, b4⟩ | ⟨b1, n, b2, b3⟩
    · rw [seq_t (by rw [b4]), b4]
      dsimp only
      rcases norm (ins (ins B 3840 [0]) 3856 (List.replicate m 0)) 3841 (head v l s c) k2 b2 b3 with ⟨k3, c1, c2, c3, c4⟩ | ⟨c1, n, c2, c3⟩
      · rw [seq_t (by rw [c4]), c4]
        dsimp only
        rcases norm (ins (ins (ins B 3840 [0]) 3856 (List.replicate m 0)) 3841 (head v l s c)) 3840 [1] k3 c2 c3 with ⟨k4, d1, d2, d3, d4⟩ | ⟨d1, n, d2, d3⟩
        · rw [seq_one, d4]
          exact .inl ⟨k4, fun h => by rw [d1 (by rw [c1 (by rw [b1 (by rw [a1 h]; exact h), a1 h]; exact h), b1 (by rw [a1 h]; exact h), a1 h]; exact h), c1 (by rw [b1 (by rw [a1 h]; exact h), a1 h]; exact h), b1 (by rw [a1 h]; exact h), a1 h], d2, d3, rfl⟩
        · rw [seq_one, d3]
          have hk0 : 0 ≤ k := by
            by_cases h : k < 0
            · have h1 := a1 h; have h2 := b1 (by omega); have h3 := c1 (by omega); omega
            · omega
          refine .inr ⟨hk0, _, .inr ?_, ?_, rfl⟩
          · simp only [List.length_cons, List.length_nil] at d2
            obtain rfl : n = 0 := by omega
            show G (ins (ins (ins B 3840 [0]) 3856 (List.replicate m 0)) 3841 (head v l s c)) 3840 = 0
            rw [G_out (by simp only [ins_len, head_len]; omega) (by omega), G_out (by simp only [ins_len, List.length_replicate]; omega) (by omega), G_ins _ _ _ _ (by simp only [List.length_cons, List.length_nil]; omega), if_pos (by simp)]
            rfl
          · simp only [ins_len]
      · rw [seq_f (by rw [c3]), c3]
        have hk0 : 0 ≤ k := by
          by_cases h : k < 0
          · have h1 := a1 h; have h2 := b1 (by omega); omega
          · omega
        refine .inr ⟨hk0, _, .inr ?_, ?_, rfl⟩
        · rw [G_out (by simp only [ins_len, List.length_take, head_len]; omega) (by omega), G_out (by simp only [ins_len, List.length_replicate]; omega) (by omega), G_ins _ _ _ _ (by simp only [List.length_cons, List.length_nil]; omega), if_pos (by simp)]
          rfl
        · simp only [ins_len]
    · rw [seq_f (by rw [b3]), b3]
      have hk0 : 0 ≤ k := by
        by_cases h : k < 0
        · have h1 := a1 h; omega
        · omega
      refine .inr ⟨hk0, _, .inr ?_, ?_, rfl⟩
      · rw [G_out (by simp only [ins_len, List.length_take, List.length_replicate]; omega) (by omega), G_ins _ _ _ _ (by simp only [List.length_cons, List.length_nil]; omega), if_pos (by simp)]
        rfl
      · simp only [ins_len]
  · rw [seq_f (by rw [a3]), a3]
    simp only [List.length_cons, List.length_nil] at a2
    obtain rfl : n = 0 := by omega
    exact .inr ⟨a1, _, .inl rfl, rfl, rfl⟩
theorem offer_new {d : Dv} {c : Nat} {v l s : Int} (hb : badO v l = false) (h1 : ¬ (d.act (c : Int) = true ∧ (d.num 1 4 == v && (d.num 5 2 == l && d.num 7 2 == s)) = true)) (h2 : ¬ (d.act (c : Int) = true ∧ v < d.num 1 4)) :
    d.offer c v l s = seqR (d.seq (offL v l s c ((nch l.toNat c + 7) / 8))) := by
  unfold Dv.offer
  rw [if_neg (by rw [hb]; simp), if_neg h1, if_neg h2]
theorem bad_ok {v l : Int} (h1 : 1 ≤ v) (h2 : v ≤ 2147483647) (h3 : 1 ≤ l) (h4 : l ≤ 6144) : badO v l = false := by
  unfold badO
  simp
  omega
theorem nch_bits {l c : Nat} (hl : l ≤ 6144) (hc : 4 ≤ c) : (nch l c + 7) / 8 ≤ 200 ∧ nch l c ≤ 8 * ((nch l c + 7) / 8) := by
  have := nch_le hl hc
  omega
/-- An offer on a device without a transfer that never fails. -/
theorem offer_on {B : List Int} {c : Nat} {v l s : Int} (hB : 10240 ≤ B.length) (hc : 4 ≤ c) (hv1 : 1 ≤ v) (hv2 : v ≤ 2147483647) (hl1 : 1 ≤ l) (hl2 : l ≤ 6144) (hact : (on B).act (c : Int) = false) :
    (on B).offer c v l s = (on (offB B v l s c ((nch l.toNat c + 7) / 8)), 0) := by
  obtain ⟨hm, _⟩ := nch_bits (l := l.toNat) (by omega) hc
  rw [offer_new (bad_ok hv1 hv2 hl1 hl2) (by rw [hact]; simp) (by rw [hact]; simp)]
  rcases seq_spec (B := B) (k := -1) (by omega) (by omega) v l s c _ hB hm with ⟨k', h1, _, _, h2⟩ | ⟨h, _⟩
  · rw [h2, h1 (by omega)]
    rfl
  · omega
end Go.Proofs.Ytfcldacjnegacaa.Up

/- Stable merging in place, over lists alone: swaps, rotations, the symmetric merge. -/
import Derived.Test.YtlklcfaejmeljaaWWords
namespace Go.Proofs.Ytlklcfaejmeljaa.Srt
set_option linter.unusedVariables false
set_option linter.unusedSimpArgs false

/-- Element k, 0 beyond the end. -/
abbrev at_ (xs : List Int) (k : Nat) : Int := xs.getD k 0
theorem at_eq {xs : List Int} {k : Nat} (h : k < xs.length) : at_ xs k = xs[k] := by
  show xs.getD k 0 = _
  rw [List.getD_eq_getElem?_getD, List.getElem?_eq_getElem h]; rfl
theorem at_set {xs : List Int} {i k : Nat} {x : Int} (h : i < xs.length) : at_ (xs.set i x) k = if i = k then x else at_ xs k := by
  show (xs.set i x).getD k 0 = _
  rw [List.getD_eq_getElem?_getD, List.getElem?_set]
  by_cases e : i = k
  · subst e; rw [if_pos rfl, if_pos rfl, if_pos h]; rfl
  · rw [if_neg e, if_neg e, ← List.getD_eq_getElem?_getD]
theorem ext_at {xs ys : List Int} (hl : xs.length = ys.length) (h : ∀ k, k < xs.length → at_ xs k = at_ ys k) : xs = ys := by
  apply List.ext_getElem hl
  intro i h1 h2
  have := h i h1
  rwa [at_eq h1, at_eq h2] at this
/-- Two elements change places. -/
def sw (xs : List Int) (i j : Nat) : List Int := (xs.set i (at_ xs j)).set j (at_ xs i)
theorem sw_len (xs : List Int) (i j : Nat) : (sw xs i j).length = xs.length := by simp [sw]
theorem sw_at {xs : List Int} {i j : Nat} (hi : i < xs.length) (hj : j < xs.length) (k : Nat) : at_ (sw xs i j) k = if j = k then at_ xs i else if i = k then at_ xs j else at_ xs k := by
  unfold sw
  rw [at_set (by simpa using hj), at_set hi]
theorem sw_perm {xs : List Int} {i j : Nat} (hi : i < xs.length) (hj : j < xs.length) : (sw xs i j).Perm xs := by
  unfold sw
  rw [at_eq hi, at_eq hj]
  exact List.set_set_perm hi hj
/-- n elements from a on change places with n elements from b on. -/
def swp (xs : List Int) (a b : Nat) : Nat → List Int
  | 0 => xs
  | n + 1 => sw (swp xs a b n) (a + n) (b + n)
theorem swp_len (xs : List Int) (a b : Nat) : ∀ n, (swp xs a b n).length = xs.length
  | 0 => rfl
  | n + 1 => by show (sw _ _ _).length = _; rw [sw_len, swp_len xs a b n]
theorem swp_perm {xs : List Int} {a b : Nat} : ∀ n, a + n ≤ xs.length → b + n ≤ xs.length → (swp xs a b n).Perm xs
  | 0, _, _ => List.Perm.refl _
  | n + 1, h1, h2 => (sw_perm (by rw [swp_len]; omega) (by rw [swp_len]; omega)).trans (swp_perm n (by omega) (by omega))
theorem swp_at {xs : List Int} {a b : Nat} : ∀ n, a + n ≤ b → b + n ≤ xs.length → ∀ k, at_ (swp xs a b n) k = if a ≤ k ∧ k < a + n then at_ xs (b + (k - a)) else if b ≤ k ∧ k < b + n then at_ xs (a + (k - b)) else at_ xs k
  | 0, h1, h2, k => by rw [if_neg (by omega), if_neg (by omega)]; rfl
  | n + 1, h1, h2, k => by
    show at_ (sw _ _ _) k = _
    rw [sw_at (by rw [swp_len]; omega) (by rw [swp_len]; omega)]
    have ih := swp_at (xs := xs) (a := a) (b := b) n (by omega) (by omega)
    by_cases e1 : b + n = k
    · subst e1
      rw [if_pos rfl, ih, if_neg (by omega), if_neg (by omega), if_neg (by omega), if_pos (by omega)]
      congr 1; omega
    · rw [if_neg e1]
      by_cases e2 : a + n = k
      · subst e2
        rw [if_pos rfl, ih, if_neg (by omega), if_neg (by omega), if_pos (by omega)]
        congr 1; omega
      · rw [if_neg e2, ih]
        by_cases e3 : a ≤ k ∧ k < a + n
        · rw [if_pos e3, if_pos (by omega)]
        · rw [if_neg e3, if_neg (show ¬ (a ≤ k ∧ k < a + (n + 1)) by omega)]
          by_cases e4 : b ≤ k ∧ k < b + n
          · rw [if_pos e4, if_pos (by omega)]
          · rw [if_neg e4, if_neg (by omega)]

/-- Element k after [a, m) and [m, b) have changed places. -/
def rotF (xs : List Int) (a m b k : Nat) : Int :=
  if a ≤ k ∧ k < a + (b - m) then at_ xs (k + (m - a)) else if a + (b - m) ≤ k ∧ k < b then at_ xs (k - (b - m)) else at_ xs k
theorem rot_gt {xs : List Int} {m i j k : Nat} (hi : j < i) (hm : i ≤ m) (hj : m + j ≤ xs.length) : rotF xs (m - i) m (m + j) k = rotF (swp xs (m - i) m j) (m - (i - j)) m (m + j) k := by
  unfold rotF
  have h := swp_at (xs := xs) (a := m - i) (b := m) j (by omega) (by omega)
  simp only [h]
  by_cases e1 : m - i ≤ k ∧ k < m - i + (m + j - m)
  · rw [if_pos e1, if_neg (by omega), if_neg (by omega), if_pos (by omega)]
    congr 1; omega
  · rw [if_neg e1]
    by_cases e2 : m - i + (m + j - m) ≤ k ∧ k < m + j
    · rw [if_pos e2]
      by_cases e3 : m - (i - j) ≤ k ∧ k < m - (i - j) + (m + j - m)
      · rw [if_pos e3]
        by_cases e4 : k + (m - (m - (i - j))) < m
        · rw [if_neg (by omega), if_neg (by omega)]
          exact absurd e4 (by omega)
        · rw [if_neg (by omega), if_pos (by omega)]
          congr 1; omega
      · rw [if_neg e3, if_pos (by omega), if_neg (by omega), if_neg (by omega)]
    · rw [if_neg e2, if_neg (by omega), if_neg (by omega), if_neg (by omega), if_neg (by omega)]
theorem rot_lt {xs : List Int} {m i j k : Nat} (hi : i < j) (hm : i ≤ m) (hj : m + j ≤ xs.length) : rotF xs (m - i) m (m + j) k = rotF (swp xs (m - i) (m + j - i) i) (m - i) m (m + (j - i)) k := by
  unfold rotF
  have h := swp_at (xs := xs) (a := m - i) (b := m + j - i) i (by omega) (by omega)
  simp only [h]
  by_cases e1 : m - i ≤ k ∧ k < m - i + (m + j - m)
  · rw [if_pos e1]
    by_cases e3 : k < m - i + (m + (j - i) - m)
    · rw [if_pos (by omega)]
      by_cases e4 : k + (m - (m - i)) < m + j - i
      · rw [if_neg (by omega), if_neg (by omega)]
      · exact absurd e4 (by omega)
    · rw [if_neg (by omega)]
      by_cases e5 : k < m + (j - i)
      · rw [if_pos (by omega), if_pos (by omega)]
        congr 1; omega
      · exact absurd e5 (by omega)
  · rw [if_neg e1]
    by_cases e2 : m - i + (m + j - m) ≤ k ∧ k < m + j
    · rw [if_pos e2, if_neg (by omega)]
      by_cases e5 : k < m + (j - i)
      · exact absurd e5 (by omega)
      · rw [if_neg (by omega), if_neg (by omega), if_pos (by omega)]
        congr 1; omega
    · rw [if_neg e2, if_neg (by omega), if_neg (by omega), if_neg (by omega), if_neg (by omega)]
theorem rot_eq {xs : List Int} {m i k : Nat} (hm : i ≤ m) (hj : m + i ≤ xs.length) : rotF xs (m - i) m (m + i) k = at_ (swp xs (m - i) m i) k := by
  rw [swp_at i (by omega) (by omega)]
  unfold rotF
  by_cases e1 : m - i ≤ k ∧ k < m - i + i
  · rw [if_pos (by omega), if_pos e1]
    congr 1; omega
  · rw [if_neg (by omega), if_neg e1]
    by_cases e2 : m ≤ k ∧ k < m + i
    · rw [if_pos (by omega), if_pos e2]
      congr 1; omega
    · rw [if_neg (by omega), if_neg e2]

/-! ## The order -/
/-- A strict weak order. -/
structure SWO (lt : Int → Int → Prop) : Prop where
  asym : ∀ x y, lt x y → ¬ lt y x
  neg : ∀ x y z, lt x z → lt x y ∨ lt y z
/-- The order of the elements, those that are alike by their own value. -/
def R (lt : Int → Int → Prop) (x y : Int) : Prop := lt x y ∨ (¬ lt y x ∧ x < y)
theorem R.trans {lt : Int → Int → Prop} (h : SWO lt) {x y z : Int} (h1 : R lt x y) (h2 : R lt y z) : R lt x z := by
  have a1 := h.asym x y
  have a2 := h.asym y z
  have a3 := h.asym x z
  have n1 := h.neg x y z
  have n2 := h.neg x z y
  have n3 := h.neg y x z
  have n4 := h.neg z x y
  have n5 := h.neg z y x
  have n6 := h.neg y z x
  unfold R at *
  by_cases p1 : lt x y <;> by_cases p2 : lt y z <;> by_cases p3 : lt x z <;> by_cases p4 : lt y x <;> by_cases p5 : lt z y <;> by_cases p6 : lt z x <;> simp_all <;> omega
theorem R.irrefl {lt : Int → Int → Prop} (h : SWO lt) {x : Int} (h1 : R lt x x) : False := by
  have a1 := h.asym x x
  unfold R at h1
  by_cases p1 : lt x x <;> simp_all
/-- The elements of [a, b) are in order. -/
def Ord (lt : Int → Int → Prop) (xs : List Int) (a b : Nat) : Prop := ∀ i j, a ≤ i → i < j → j < b → R lt (at_ xs i) (at_ xs j)
/-- Each element of [a, m) has a smaller value than each of [m, b). -/
def Fst (xs : List Int) (a m b : Nat) : Prop := ∀ i j, a ≤ i → i < m → m ≤ j → j < b → at_ xs i < at_ xs j
/-- [a, b) holds the elements that it held, all else is as it was. -/
structure Same (xs ys : List Int) (a b : Nat) : Prop where
  len : ys.length = xs.length
  perm : ys.Perm xs
  out : ∀ k, k < a ∨ b ≤ k → at_ ys k = at_ xs k
  mem : ∀ k, a ≤ k → k < b → ∃ q, a ≤ q ∧ q < b ∧ at_ ys k = at_ xs q
theorem Same.refl (xs : List Int) (a b : Nat) : Same xs xs a b := ⟨rfl, List.Perm.refl _, fun _ _ => rfl, fun k h1 h2 => ⟨k, h1, h2, rfl⟩⟩
theorem Same.trans {xs ys zs : List Int} {a b : Nat} (h : Same xs ys a b) (h' : Same ys zs a b) : Same xs zs a b :=
  ⟨h'.len.trans h.len, h'.perm.trans h.perm, fun k hk => (h'.out k hk).trans (h.out k hk), fun k h1 h2 => by
    obtain ⟨q, q1, q2, q3⟩ := h'.mem k h1 h2
    obtain ⟨r, r1, r2, r3⟩ := h.mem q q1 q2
    exact ⟨r, r1, r2, q3.trans r3⟩⟩
theorem Same.wide {xs ys : List Int} {a b a' b' : Nat} (h : Same xs ys a b) (ha : a' ≤ a) (hb : b ≤ b') : Same xs ys a' b' :=
  ⟨h.len, h.perm, fun k hk => h.out k (by omega), fun k h1 h2 => by
    by_cases e : a ≤ k ∧ k < b
    · obtain ⟨q, q1, q2, q3⟩ := h.mem k e.1 e.2
      exact ⟨q, by omega, by omega, q3⟩
    · exact ⟨k, h1, h2, h.out k (by omega)⟩⟩
theorem Same.sw {xs : List Int} {a b i j : Nat} (hb : b ≤ xs.length) (hi : a ≤ i) (hi' : i < b) (hj : a ≤ j) (hj' : j < b) : Same xs (sw xs i j) a b :=
  ⟨sw_len _ _ _, sw_perm (by omega) (by omega), fun k hk => by rw [sw_at (by omega) (by omega), if_neg (by omega), if_neg (by omega)], fun k h1 h2 => by
    rw [sw_at (by omega) (by omega)]
    by_cases e1 : j = k
    · exact ⟨i, hi, hi', by rw [if_pos e1]⟩
    · by_cases e2 : i = k
      · exact ⟨j, hj, hj', by rw [if_neg e1, if_pos e2]⟩
      · exact ⟨k, h1, h2, by rw [if_neg e1, if_neg e2]⟩⟩
theorem Same.swp {xs : List Int} {a b i j n : Nat} (hb : b ≤ xs.length) (hi : a ≤ i) (hi' : i + n ≤ b) (hj : a ≤ j) (hj' : j + n ≤ b) : Same xs (swp xs i j n) a b := by
  induction n with
  | zero => exact Same.refl _ _ _
  | succ n ih => exact (ih (by omega) (by omega)).trans (Same.sw (by rw [swp_len]; omega) (by omega) (by omega) (by omega) (by omega))

/-! ## Rotation -/
/-- What a rotation leaves. -/
structure Rot (xs ys : List Int) (a m b : Nat) : Prop where
  same : Same xs ys a b
  fn : ∀ k, at_ ys k = rotF xs a m b k
theorem rotF_same {xs : List Int} {a m b : Nat} (k : Nat) (ham : a ≤ m) (hmb : m ≤ b) (h : a = m ∨ m = b) : rotF xs a m b k = at_ xs k := by
  unfold rotF
  by_cases e1 : a ≤ k ∧ k < a + (b - m)
  · rw [if_pos e1]; congr 1; omega
  · rw [if_neg e1]
    by_cases e2 : a + (b - m) ≤ k ∧ k < b
    · rw [if_pos e2]; congr 1; omega
    · rw [if_neg e2]
theorem Rot.refl {xs : List Int} {a m b : Nat} (ham : a ≤ m) (hmb : m ≤ b) (h : a = m ∨ m = b) : Rot xs xs a m b := ⟨Same.refl _ _ _, fun k => (rotF_same k ham hmb h).symm⟩

/-! ## The symmetric merge -/
/-- The split that the search finds: [a, s) and [m, e) come first. -/
structure Split (lt : Int → Int → Prop) (xs : List Int) (a m b s e : Nat) : Prop where
  s0 : a ≤ s
  s1 : s ≤ m
  e0 : m ≤ e
  e1 : e ≤ b
  h1 : s = a ∨ e = b ∨ R lt (at_ xs (s - 1)) (at_ xs e)
  h2 : e = m ∨ s = m ∨ R lt (at_ xs (e - 1)) (at_ xs s)
theorem Ord.le {lt : Int → Int → Prop} {xs : List Int} {a b i j : Nat} (h : Ord lt xs a b) (h1 : a ≤ i) (h2 : i ≤ j) (h3 : j < b) : i = j ∨ R lt (at_ xs i) (at_ xs j) := by
  rcases Nat.lt_or_ge i j with h' | h'
  · exact .inr (h i j h1 h' h3)
  · exact .inl (by omega)
theorem Split.left {lt : Int → Int → Prop} (hR : SWO lt) {xs : List Int} {a m b s e : Nat} (h : Split lt xs a m b s e) (ho : Ord lt xs a m) (ho' : Ord lt xs m b) {i j : Nat} (hi : a ≤ i) (hi' : i < s) (hj : e ≤ j) (hj' : j < b) : R lt (at_ xs i) (at_ xs j) := by
  have h0 := h.s0
  have h9 := h.s1
  have h8 := h.e0
  rcases h.h1 with h1 | h1 | h1
  · omega
  · omega
  have l1 := ho.le (i := i) (j := s - 1) hi (by omega) (by omega)
  have l2 := ho'.le (i := e) (j := j) (by omega) (by omega) hj'
  rcases l1 with rfl | l1
  · rcases l2 with rfl | l2
    · exact h1
    · exact h1.trans hR l2
  · rcases l2 with rfl | l2
    · exact l1.trans hR h1
    · exact (l1.trans hR h1).trans hR l2
theorem Split.right {lt : Int → Int → Prop} (hR : SWO lt) {xs : List Int} {a m b s e : Nat} (h : Split lt xs a m b s e) (ho : Ord lt xs a m) (ho' : Ord lt xs m b) {i j : Nat} (hi : m ≤ i) (hi' : i < e) (hj : s ≤ j) (hj' : j < m) : R lt (at_ xs i) (at_ xs j) := by
  have h0 := h.s0
  have h9 := h.s1
  have h8 := h.e0
  have h7 := h.e1
  rcases h.h2 with h1 | h1 | h1
  · omega
  · omega
  have l1 := ho'.le (i := i) (j := e - 1) hi (by omega) (by omega)
  have l2 := ho.le (i := s) (j := j) (by omega) (by omega) hj'
  rcases l1 with rfl | l1
  · rcases l2 with rfl | l2
    · exact h1
    · exact h1.trans hR l2
  · rcases l2 with rfl | l2
    · exact l1.trans hR h1
    · exact (l1.trans hR h1).trans hR l2
/-- What the merge asks and leaves. -/
structure Halves (lt : Int → Int → Prop) (xs : List Int) (a m b : Nat) : Prop where
  l : Ord lt xs a m
  r : Ord lt xs m b
  f : Fst xs a m b
/-- Behind the rotation: the two lesser merges may be done. -/
structure Mid (lt : Int → Int → Prop) (ys : List Int) (a s c e b : Nat) : Prop where
  l : Halves lt ys a s c
  r : Halves lt ys c e b
  lt : ∀ i j, a ≤ i → i < c → c ≤ j → j < b → R lt (at_ ys i) (at_ ys j)
theorem mid_of {lt : Int → Int → Prop} (hR : SWO lt) {xs ys : List Int} {a m b s e c : Nat} (h : Halves lt xs a m b) (hs : Split lt xs a m b s e) (hc : c + m = s + e) (hr : Rot xs ys s m e) : Mid lt ys a s c e b := by
  have h0 := hs.s0
  have h9 := hs.s1
  have h8 := hs.e0
  have h7 := hs.e1
  have f1 : ∀ k, k < s → at_ ys k = at_ xs k := fun k hk => hr.same.out k (.inl hk)
  have f4 : ∀ k, e ≤ k → at_ ys k = at_ xs k := fun k hk => hr.same.out k (.inr hk)
  have f2 : ∀ k, s ≤ k → k < c → at_ ys k = at_ xs (k + (m - s)) := fun k k1 k2 => by rw [hr.fn]; unfold rotF; rw [if_pos (by omega)]
  have f3 : ∀ k, c ≤ k → k < e → at_ ys k = at_ xs (k - (e - m)) := fun k k1 k2 => by rw [hr.fn]; unfold rotF; rw [if_neg (by omega), if_pos (by omega)]
  refine ⟨⟨?_, ?_, ?_⟩, ⟨?_, ?_, ?_⟩, ?_⟩
  · intro i j h1 h2 h3
    rw [f1 i (by omega), f1 j (by omega)]
    exact h.l i j h1 h2 (by omega)
  · intro i j h1 h2 h3
    rw [f2 i (by omega) (by omega), f2 j (by omega) (by omega)]
    exact h.r _ _ (by omega) (by omega) (by omega)
  · intro i j h1 h2 h3 h4
    rw [f1 i (by omega), f2 j (by omega) (by omega)]
    exact h.f _ _ (by omega) (by omega) (by omega) (by omega)
  · intro i j h1 h2 h3
    rw [f3 i (by omega) (by omega), f3 j (by omega) (by omega)]
    exact h.l _ _ (by omega) (by omega) (by omega)
  · intro i j h1 h2 h3
    rw [f4 i (by omega), f4 j (by omega)]
    exact h.r _ _ (by omega) (by omega) (by omega)
  · intro i j h1 h2 h3 h4
    rw [f3 i (by omega) (by omega), f4 j (by omega)]
    exact h.f _ _ (by omega) (by omega) (by omega) (by omega)
  · intro i j h1 h2 h3 h4
    by_cases e1 : i < s
    · rw [f1 i e1]
      by_cases e2 : j < e
      · rw [f3 j h3 e2]
        exact h.l _ _ (by omega) (by omega) (by omega)
      · rw [f4 j (by omega)]
        exact hs.left hR h.l h.r (by omega) e1 (by omega) (by omega)
    · rw [f2 i (by omega) h2]
      by_cases e2 : j < e
      · rw [f3 j h3 e2]
        exact hs.right hR h.l h.r (by omega) (by omega) (by omega) (by omega)
      · rw [f4 j (by omega)]
        exact h.r _ _ (by omega) (by omega) (by omega)
/-- What a merge leaves. -/
structure Merged (lt : Int → Int → Prop) (xs ys : List Int) (a b : Nat) : Prop where
  same : Same xs ys a b
  ord : Ord lt ys a b
/-- The left lesser merge has been done. -/
theorem Mid.left {lt : Int → Int → Prop} {ys zs : List Int} {a s c e b : Nat} (h : Mid lt ys a s c e b) (hm : Merged lt ys zs a c) (hac : a ≤ c) (hce : c ≤ e) (heb : e ≤ b) : Ord lt zs a c ∧ Halves lt zs c e b ∧ ∀ i j, a ≤ i → i < c → c ≤ j → j < b → R lt (at_ zs i) (at_ zs j) := by
  have o := fun k (hk : c ≤ k) => hm.same.out k (.inr hk)
  refine ⟨hm.ord, ⟨?_, ?_, ?_⟩, ?_⟩
  · intro i j h1 h2 h3; rw [o i (by omega), o j (by omega)]; exact h.r.l i j h1 h2 h3
  · intro i j h1 h2 h3; rw [o i (by omega), o j (by omega)]; exact h.r.r i j h1 h2 h3
  · intro i j h1 h2 h3 h4; rw [o i (by omega), o j (by omega)]; exact h.r.f i j h1 h2 h3 h4
  · intro i j h1 h2 h3 h4
    obtain ⟨q, q1, q2, q3⟩ := hm.same.mem i h1 h2
    rw [o j h3, q3]
    exact h.lt q j q1 q2 h3 h4
/-- Both have been done. -/
theorem ord_join {lt : Int → Int → Prop} {zs us : List Int} {a c b : Nat} (hac : a ≤ c) (hcb : c ≤ b) (h1 : Ord lt zs a c) (h2 : ∀ i j, a ≤ i → i < c → c ≤ j → j < b → R lt (at_ zs i) (at_ zs j)) (hm : Merged lt zs us c b) : Ord lt us a b := by
  have o := fun k (hk : k < c) => hm.same.out k (.inl hk)
  intro i j hi hij hj
  by_cases e1 : j < c
  · rw [o i (by omega), o j e1]; exact h1 i j hi hij e1
  · by_cases e2 : i < c
    · obtain ⟨q, q1, q2, q3⟩ := hm.same.mem j (by omega) hj
      rw [o i e2, q3]
      exact h2 i q hi e2 q1 q2
    · exact hm.ord i j (by omega) hij hj
/-- A half that needs no merge. -/
theorem Halves.done {lt : Int → Int → Prop} {xs : List Int} {a m b : Nat} (h : Halves lt xs a m b) (he : m ≤ a ∨ b ≤ m) : Merged lt xs xs a b := by
  refine ⟨Same.refl _ _ _, ?_⟩
  intro i j h1 h2 h3
  rcases he with he | he
  · exact h.r i j (by omega) h2 h3
  · exact h.l i j h1 h2 (by omega)

/-! ## One element goes to its place -/
/-- Element a goes up to place p: those between come down. -/
def up (xs : List Int) (a : Nat) : Nat → List Int
  | 0 => xs
  | n + 1 => sw (up xs a n) (a + n) (a + n + 1)
theorem up_len (xs : List Int) (a : Nat) : ∀ n, (up xs a n).length = xs.length
  | 0 => rfl
  | n + 1 => by show (sw _ _ _).length = _; rw [sw_len, up_len xs a n]
theorem up_same {xs : List Int} {a b : Nat} (hb : b ≤ xs.length) : ∀ n, a + n < b → Same xs (up xs a n) a b
  | 0, _ => Same.refl _ _ _
  | n + 1, h => (up_same hb n (by omega)).trans (Same.sw (by rw [up_len]; exact hb) (by omega) (by omega) (by omega) (by omega))
theorem up_at {xs : List Int} {a : Nat} : ∀ n, a + n < xs.length → ∀ k, at_ (up xs a n) k = if k < a then at_ xs k else if k < a + n then at_ xs (k + 1) else if k = a + n then at_ xs a else at_ xs k
  | 0, h, k => by
    show at_ xs k = _
    by_cases e1 : k < a
    · rw [if_pos e1]
    · rw [if_neg e1, if_neg (by omega)]
      by_cases e2 : k = a + 0
      · rw [if_pos e2, e2]; rfl
      · rw [if_neg e2]
  | n + 1, h, k => by
    show at_ (sw _ _ _) k = _
    rw [sw_at (by rw [up_len]; omega) (by rw [up_len]; omega)]
    have ih := up_at (xs := xs) (a := a) n (by omega)
    by_cases e1 : a + n + 1 = k
    · subst e1
      rw [if_pos rfl, ih, if_neg (by omega), if_neg (by omega), if_pos rfl, if_neg (by omega), if_neg (by omega), if_pos (by omega)]
    · rw [if_neg e1]
      by_cases e2 : a + n = k
      · subst e2
        rw [if_pos rfl, ih, if_neg (by omega), if_neg (by omega), if_neg (by omega), if_neg (by omega), if_pos (by omega)]
      · rw [if_neg e2, ih]
        by_cases e3 : k < a
        · rw [if_pos e3, if_pos e3]
        · rw [if_neg e3, if_neg e3]
          by_cases e4 : k < a + n
          · rw [if_pos e4, if_pos (by omega)]
          · rw [if_neg e4, if_neg (by omega), if_neg (by omega), if_neg (by omega)]
/-- Element m goes down to place p. -/
def dn (xs : List Int) (m : Nat) : Nat → List Int
  | 0 => xs
  | n + 1 => sw (dn xs m n) (m - n) (m - n - 1)
theorem dn_len (xs : List Int) (m : Nat) : ∀ n, (dn xs m n).length = xs.length
  | 0 => rfl
  | n + 1 => by show (sw _ _ _).length = _; rw [sw_len, dn_len xs m n]
theorem dn_same {xs : List Int} {a b m : Nat} (hb : b ≤ xs.length) (hm : m < b) : ∀ n, a + n ≤ m → Same xs (dn xs m n) a b
  | 0, _ => Same.refl _ _ _
  | n + 1, h => (dn_same hb hm n (by omega)).trans (Same.sw (by rw [dn_len]; exact hb) (by omega) (by omega) (by omega) (by omega))
theorem dn_at {xs : List Int} {m : Nat} (hm : m < xs.length) : ∀ n, n ≤ m → ∀ k, at_ (dn xs m n) k = if m < k then at_ xs k else if m - n < k then at_ xs (k - 1) else if k = m - n then at_ xs m else at_ xs k
  | 0, h, k => by
    show at_ xs k = _
    by_cases e1 : m < k
    · rw [if_pos e1]
    · rw [if_neg e1, if_neg (by omega)]
      by_cases e2 : k = m - 0
      · rw [if_pos e2, e2]; rfl
      · rw [if_neg e2]
  | n + 1, h, k => by
    show at_ (sw _ _ _) k = _
    rw [sw_at (by rw [dn_len]; omega) (by rw [dn_len]; omega)]
    have ih := dn_at (xs := xs) hm n (by omega)
    by_cases e1 : m - n - 1 = k
    · subst e1
      rw [if_pos rfl, ih, if_neg (by omega), if_neg (by omega), if_pos rfl, if_neg (by omega), if_neg (by omega), if_pos (by omega)]
    · rw [if_neg e1]
      by_cases e2 : m - n = k
      · subst e2
        rw [if_pos rfl, ih, if_neg (by omega), if_neg (by omega), if_neg (by omega), if_neg (by omega), if_pos (by omega)]
      · rw [if_neg e2, ih]
        by_cases e3 : m < k
        · rw [if_pos e3, if_pos e3]
        · rw [if_neg e3, if_neg e3]
          by_cases e4 : m - n < k
          · rw [if_pos e4, if_pos (by omega)]
          · rw [if_neg e4, if_neg (by omega), if_neg (by omega), if_neg (by omega)]
/-- The first element of [a, b) goes behind those of [a + 1, i) that precede it. -/
theorem up_merged {lt : Int → Int → Prop} (hR : SWO lt) {xs : List Int} {a b i : Nat} (hb : b ≤ xs.length) (h : Ord lt xs (a + 1) b) (hi : a + 1 ≤ i) (hib : i ≤ b)
    (h1 : i = a + 1 ∨ R lt (at_ xs (i - 1)) (at_ xs a)) (h2 : i = b ∨ R lt (at_ xs a) (at_ xs i)) : Merged lt xs (up xs a (i - 1 - a)) a b := by
  refine ⟨up_same hb _ (by omega), ?_⟩
  have f := up_at (xs := xs) (a := a) (i - 1 - a) (by omega)
  have low : ∀ k, a + 1 ≤ k → k < i → R lt (at_ xs k) (at_ xs a) := by
    intro k k1 k2
    rcases h1 with h1 | h1
    · omega
    · rcases h.le (i := k) (j := i - 1) k1 (by omega) (by omega) with e | e
      · rw [e]; exact h1
      · exact e.trans hR h1
  have high : ∀ k, i ≤ k → k < b → R lt (at_ xs a) (at_ xs k) := by
    intro k k1 k2
    rcases h2 with h2 | h2
    · omega
    · rcases h.le (i := i) (j := k) hi k1 k2 with e | e
      · rw [← e]; exact h2
      · exact h2.trans hR e
  intro p q h3 h4 h5
  rw [f p, f q, if_neg (show ¬ p < a by omega), if_neg (show ¬ q < a by omega)]
  by_cases e1 : p < a + (i - 1 - a)
  · rw [if_pos e1]
    by_cases e2 : q < a + (i - 1 - a)
    · rw [if_pos e2]; exact h _ _ (by omega) (by omega) (by omega)
    · rw [if_neg e2]
      by_cases e3 : q = a + (i - 1 - a)
      · rw [if_pos e3]; exact low _ (by omega) (by omega)
      · rw [if_neg e3]; exact h _ _ (by omega) (by omega) (by omega)
  · rw [if_neg e1, if_neg (show ¬ q < a + (i - 1 - a) by omega), if_neg (show ¬ q = a + (i - 1 - a) by omega)]
    by_cases e3 : p = a + (i - 1 - a)
    · rw [if_pos e3]; exact high _ (by omega) (by omega)
    · rw [if_neg e3]; exact h _ _ (by omega) (by omega) (by omega)
/-- The last element of [a, m + 1) goes down before those of [i, m) that it precedes. -/
theorem dn_merged {lt : Int → Int → Prop} (hR : SWO lt) {xs : List Int} {a m i : Nat} (hb : m < xs.length) (h : Ord lt xs a m) (hi : a ≤ i) (him : i ≤ m)
    (h1 : i = a ∨ R lt (at_ xs (i - 1)) (at_ xs m)) (h2 : i = m ∨ R lt (at_ xs m) (at_ xs i)) : Merged lt xs (dn xs m (m - i)) a (m + 1) := by
  refine ⟨dn_same hb (by omega) _ (by omega), ?_⟩
  have f := dn_at (xs := xs) (m := m) hb (m - i) (by omega)
  have low : ∀ k, a ≤ k → k < i → R lt (at_ xs k) (at_ xs m) := by
    intro k k1 k2
    rcases h1 with h1 | h1
    · omega
    · rcases h.le (i := k) (j := i - 1) k1 (by omega) (by omega) with e | e
      · rw [e]; exact h1
      · exact e.trans hR h1
  have high : ∀ k, i ≤ k → k < m → R lt (at_ xs m) (at_ xs k) := by
    intro k k1 k2
    rcases h2 with h2 | h2
    · omega
    · rcases h.le (i := i) (j := k) hi k1 k2 with e | e
      · rw [← e]; exact h2
      · exact h2.trans hR e
  intro p q h3 h4 h5
  rw [f p, f q, if_neg (show ¬ m < p by omega), if_neg (show ¬ m < q by omega)]
  by_cases e1 : m - (m - i) < p
  · rw [if_pos e1, if_pos (by omega)]; exact h _ _ (by omega) (by omega) (by omega)
  · rw [if_neg e1]
    by_cases e3 : p = m - (m - i)
    · rw [if_pos e3, if_pos (by omega)]; exact high _ (by omega) (by omega)
    · rw [if_neg e3]
      by_cases e2 : m - (m - i) < q
      · rw [if_pos e2]; exact h _ _ (by omega) (by omega) (by omega)
      · rw [if_neg e2]
        by_cases e4 : q = m - (m - i)
        · rw [if_pos e4]; exact low _ (by omega) (by omega)
        · rw [if_neg e4]; exact h _ _ (by omega) (by omega) (by omega)

/-! ## Two rows in order with the same elements are one row -/
theorem ord_unique {lt : Int → Int → Prop} (hR : SWO lt) : ∀ {xs ys : List Int}, xs.Pairwise (R lt) → ys.Pairwise (R lt) → (∀ x, x ∈ xs ↔ x ∈ ys) → xs = ys
  | [], [], _, _, _ => rfl
  | [], y :: ys, _, _, h => absurd ((h y).2 (by simp)) (by simp)
  | x :: xs, [], _, _, h => absurd ((h x).1 (by simp)) (by simp)
  | x :: xs, y :: ys, h1, h2, h => by
    rw [List.pairwise_cons] at h1 h2
    have e : x = y := by
      rcases List.mem_cons.1 ((h x).1 (by simp)) with e | e
      · exact e
      · rcases List.mem_cons.1 ((h y).2 (by simp)) with e' | e'
        · exact e'.symm
        · exact (R.irrefl hR ((h1.1 y e').trans hR (h2.1 x e))).elim
    subst e
    have : xs = ys := by
      refine ord_unique hR h1.2 h2.2 fun z => ?_
      constructor
      · intro hz
        rcases List.mem_cons.1 ((h z).1 (by simp [hz])) with e | e
        · subst e; exact (R.irrefl hR (h1.1 _ hz)).elim
        · exact e
      · intro hz
        rcases List.mem_cons.1 ((h z).2 (by simp [hz])) with e | e
        · subst e; exact (R.irrefl hR (h2.1 _ hz)).elim
        · exact e
    rw [this]
theorem Ord.pairwise {lt : Int → Int → Prop} {xs : List Int} (h : Ord lt xs 0 xs.length) : xs.Pairwise (R lt) := by
  rw [List.pairwise_iff_getElem]
  intro i j hi hj hij
  have := h i j (by omega) hij hj
  rwa [at_eq hi, at_eq hj] at this
end Go.Proofs.Ytlklcfaejmeljaa.Srt

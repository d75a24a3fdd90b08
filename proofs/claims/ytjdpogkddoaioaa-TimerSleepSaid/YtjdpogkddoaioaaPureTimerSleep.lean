/- TimerSleep, the statement over numbers alone: the program's Sleep answers as the reference does, and something is due when it ends. -/
import Derived.Test.YtjdpogkddoaioaaQSlx2
namespace Go.Proofs.Ytjdpogkddoaioaa.QSl
open Go.RowKit Go.Proofs.YtjdpogkddoaioaaW.PrintWords Go.Proofs.YtjdpogkddoaioaaW.PrintLast Go.Proofs.YtjdpogkddoaioaaW.PrintMore
set_option linter.unusedVariables false
set_option linter.unusedSimpArgs false

theorem sleep_wakes_true : ∀ k, tricklelaw39_wakes.f (k + 1) = some true := by
  intro k
  have h1 : tricklelaw39_wakes.f 1 = some true := by decide +kernel
  induction k with
  | zero => exact h1
  | succ n ih => exact (tricklelaw39_wakes.mono (n + 1)) _ ih

theorem sleep_wrap {x : Int} (h0 : -9223372036854775808 ≤ x) (h1 : x ≤ 9223372036854775807) : wrap64 x = x := by
  unfold wrap64
  omega

/-- The least of a list from a place on, and of one number more. -/
def IsMin (l : List Int) (lo : Int) (i : Int) (m r : Int) : Prop :=
  (r = m ∨ ∃ j, i ≤ j ∧ j < (l.length : Int) ∧ r = rd l j - lo) ∧ r ≤ m ∧ ∀ j, i ≤ j → j < (l.length : Int) → r ≤ rd l j - lo

theorem isMin_step {l : List Int} {lo i m r : Int} (hi : i < (l.length : Int)) (h : IsMin l lo (i + 1) (min m (rd l i - lo)) r) : IsMin l lo i m r := by
  obtain ⟨h1, h2, h3⟩ := h
  refine ⟨?_, by omega, fun j hj hl => ?_⟩
  · rcases h1 with h1 | ⟨j, a, b, c⟩
    · by_cases hm : m ≤ rd l i - lo
      · exact .inl (by omega)
      · exact .inr ⟨i, Int.le_refl _, hi, by omega⟩
    · exact .inr ⟨j, by omega, b, c⟩
  · by_cases e : j = i
    · subst e; omega
    · exact h3 j (by omega) hl

theorem isMin_end {l : List Int} {lo i m : Int} (hi : ¬ i < (l.length : Int)) : IsMin l lo i m m :=
  ⟨.inl rfl, Int.le_refl _, fun j hj hl => absurd hl (by omega)⟩

theorem sleep_min (l : List Int) (hb : ∀ j, 0 ≤ j → j < (l.length : Int) → 0 ≤ rd l j ∧ rd l j ≤ 1099511660543) (hlen : (l.length : Int) ≤ 40) :
    ∀ (n : Nat) (K : Nat) (i m : Int), (l.length : Int) - i ≤ n → n + 1 ≤ K → 0 ≤ i → ∃ r, slices_Min_int64_int64.l0 K l m i = some r ∧ IsMin l 0 i m r := by
  intro n
  induction n with
  | zero =>
    intro K i m h1 h2 h3
    obtain ⟨k, rfl⟩ : ∃ k, K = k + 1 := ⟨K - 1, by omega⟩
    rw [slices_Min_int64_int64.l0.eq_2, if_neg (by omega)]
    exact ⟨m, rfl, isMin_end (by omega)⟩
  | succ n ih =>
    intro K i m h1 h2 h3
    obtain ⟨k, rfl⟩ : ∃ k, K = k + 1 := ⟨K - 1, by omega⟩
    rw [slices_Min_int64_int64.l0.eq_2]
    by_cases hi : i < (l.length : Int)
    · rw [if_pos hi, if_pos h3, sleep_wrap (by omega) (by omega)]
      obtain ⟨r, e, hr⟩ := ih k (i + 1) (mn m (rd l i)) (by omega) (by omega) (by omega)
      refine ⟨r, e, isMin_step hi ?_⟩
      have : mn m (rd l i) = min m (rd l i - 0) := by unfold mn; split <;> omega
      rw [this] at hr
      exact hr
    · rw [if_neg hi]
      exact ⟨m, rfl, isMin_end hi⟩

theorem sleep_ref (l : List Int) (lo hi : Int) (hb : ∀ j, 0 ≤ j → j < (l.length : Int) → 0 ≤ rd l j ∧ rd l j ≤ 1099511660543) (hlen : (l.length : Int) ≤ 40) (h0 : 0 ≤ lo) (h9 : lo ≤ 1099511627776) :
    ∀ (n : Nat) (K : Nat) (i m : Int), (l.length : Int) - i ≤ n → n + 1 ≤ K → 0 ≤ i → ∃ r, trickleref39_Sleep.l0 K l m i lo hi = some (max 0 r, true) ∧ IsMin l lo i m r := by
  intro n
  induction n with
  | zero =>
    intro K i m h1 h2 h3
    obtain ⟨k, rfl⟩ : ∃ k, K = k + 1 := ⟨K - 1, by omega⟩
    rw [trickleref39_Sleep.l0.eq_2, if_neg (by omega)]
    refine ⟨m, ?_, isMin_end (by omega)⟩
    split
    · rw [show max 0 m = 0 by omega]
    · rw [show max 0 m = m by omega]
  | succ n ih =>
    intro K i m h1 h2 h3
    obtain ⟨k, rfl⟩ : ∃ k, K = k + 1 := ⟨K - 1, by omega⟩
    rw [trickleref39_Sleep.l0.eq_2]
    by_cases hi : i < (l.length : Int)
    · have hbi := hb i h3 hi
      rw [if_pos hi, if_pos h3, sleep_wrap (x := i + 1) (by omega) (by omega), sleep_wrap (x := rd l i - lo) (by omega) (by omega)]
      by_cases hm : rd l i - lo < m
      · rw [if_pos hm]
        obtain ⟨r, e, hr⟩ := ih k (i + 1) (rd l i - lo) (by omega) (by omega) (by omega)
        refine ⟨r, e, isMin_step hi ?_⟩
        rw [show min m (rd l i - lo) = rd l i - lo by omega]
        exact hr
      · rw [if_neg hm]
        obtain ⟨r, e, hr⟩ := ih k (i + 1) m (by omega) (by omega) (by omega)
        refine ⟨r, e, isMin_step hi ?_⟩
        rw [show min m (rd l i - lo) = m by omega]
        exact hr
    · rw [if_neg hi]
      refine ⟨m, ?_, isMin_end hi⟩
      split
      · rw [show max 0 m = 0 by omega]
      · rw [show max 0 m = m by omega]

/-- What the sleep is, said of the list: at a nonempty list the wait up to the least release. -/
def IsSleep (l : List Int) (lo : Int) (s : Int) (b : Bool) : Prop :=
  ((l.length : Int) = 0 ∧ s = 0 ∧ b = false) ∨ (0 < (l.length : Int) ∧ b = true ∧ ∃ r, s = max 0 r ∧ (∃ j, 0 ≤ j ∧ j < (l.length : Int) ∧ r = rd l j - lo) ∧ ∀ j, 0 ≤ j → j < (l.length : Int) → r ≤ rd l j - lo)

theorem isMin_all {l : List Int} {lo r : Int} (hp : 0 < (l.length : Int)) (h : IsMin l lo 1 (rd l 0 - lo) r) :
    (∃ j, 0 ≤ j ∧ j < (l.length : Int) ∧ r = rd l j - lo) ∧ ∀ j, 0 ≤ j → j < (l.length : Int) → r ≤ rd l j - lo := by
  obtain ⟨h1, h2, h3⟩ := h
  refine ⟨?_, fun j hj hl => ?_⟩
  · rcases h1 with h1 | ⟨j, a, b, c⟩
    · exact ⟨0, Int.le_refl _, hp, h1⟩
    · exact ⟨j, by omega, b, c⟩
  · by_cases e : j = 0
    · subst e; exact h2
    · exact h3 j (by omega) hl

theorem sleep_same (l : List Int) (lo hi : Int) (hb : ∀ j, 0 ≤ j → j < (l.length : Int) → 0 ≤ rd l j ∧ rd l j ≤ 1099511660543) (hlen : (l.length : Int) ≤ 40) (h0 : 0 ≤ lo) (h9 : lo ≤ 1099511627776)
    (K : Nat) (hK : 50 ≤ K) : ∃ s b, timer_Sleep.f K l lo hi = some (s, b) ∧ trickleref39_Sleep.f K l lo hi = some (s, b) ∧ IsSleep l lo s b := by
  unfold timer_Sleep.f trickleref39_Sleep.f
  by_cases he : (l.length : Int) = 0
  · rw [if_pos he, if_pos he]
    exact ⟨0, false, rfl, rfl, .inl ⟨he, rfl, rfl⟩⟩
  · rw [if_neg he, if_neg he, if_pos (by omega)]
    unfold slices_Min_int64_int64.f
    rw [if_neg (by omega), if_pos (by omega)]
    have hb0 := hb 0 (by omega) (by omega)
    obtain ⟨r, e, hr⟩ := sleep_min l hb hlen 40 K 1 (rd l 0) (by omega) (by omega) (by omega)
    obtain ⟨q, e2, hq⟩ := sleep_ref l lo hi hb hlen h0 h9 40 K 1 (rd l 0 - lo) (by omega) (by omega) (by omega)
    rw [e, sleep_wrap (x := rd l 0 - lo) (by omega) (by omega), e2, Option.bind_some]
    have a := isMin_all (l := l) (lo := 0) (r := r) (by omega) (by rw [Int.sub_zero]; exact hr)
    have b := isMin_all (by omega) hq
    obtain ⟨⟨j, a1, a2, a3⟩, a4⟩ := a
    obtain ⟨⟨i, b1, b2, b3⟩, b4⟩ := b
    have hbj := hb j a1 a2
    have c1 := a4 i b1 b2
    have c2 := b4 j a1 a2
    have hrq : r - lo = q := by omega
    rw [sleep_wrap (x := r - lo) (by omega) (by omega), hrq]
    have hm : mx 0 q = max 0 q := by unfold mx; split <;> omega
    rw [hm]
    exact ⟨max 0 q, true, rfl, rfl, .inr ⟨by omega, rfl, q, rfl, ⟨i, b1, b2, b3⟩, b4⟩⟩

theorem sleep_l1 (l : List Int) (lo hi s : Int) (b : Bool) (hb : ∀ j, 0 ≤ j → j < (l.length : Int) → 0 ≤ rd l j ∧ rd l j ≤ 1099511660543) (hlen : (l.length : Int) ≤ 40) (h0 : 0 ≤ lo) (h9 : lo ≤ 1099511627776)
    (hs : IsSleep l lo s b) : ∀ (n : Nat) (K : Nat) (i : Int) (x y : Bool), (l.length : Int) - i ≤ n → n + 1 ≤ K → 0 ≤ i →
      (x = true ↔ ∃ j, 0 ≤ j ∧ j < i ∧ j < (l.length : Int) ∧ rd l j ≤ lo + s) → (y = true ↔ ∃ j, 0 ≤ j ∧ j < i ∧ j < (l.length : Int) ∧ rd l j ≤ lo + s - 1) →
      tricklelaw39_TimerSleep.l1 K s b x y l (l.length : Int) i lo hi = some true := by
  have hs0 : 0 ≤ s ∧ s ≤ 1099511660543 := by
    rcases hs with ⟨_, rfl, _⟩ | ⟨_, _, r, rfl, ⟨j, a1, a2, a3⟩, _⟩
    · omega
    · have := hb j a1 a2
      omega
  have fin : ∀ (K : Nat) (i : Int) (x y : Bool), 1 ≤ K → ¬ i < (l.length : Int) →
      (x = true ↔ ∃ j, 0 ≤ j ∧ j < i ∧ j < (l.length : Int) ∧ rd l j ≤ lo + s) → (y = true ↔ ∃ j, 0 ≤ j ∧ j < i ∧ j < (l.length : Int) ∧ rd l j ≤ lo + s - 1) →
      tricklelaw39_TimerSleep.l1 K s b x y l (l.length : Int) i lo hi = some true := by
    intro K i x y hK hi' hx hy
    obtain ⟨k, rfl⟩ : ∃ k, K = k + 1 := ⟨K - 1, by omega⟩
    rw [tricklelaw39_TimerSleep.l1.eq_2, if_neg hi']
    rcases hs with ⟨e1, rfl, rfl⟩ | ⟨e1, rfl, r, e2, ⟨j, a1, a2, a3⟩, a4⟩
    · have : x = false := by
        cases x with
        | false => rfl
        | true => obtain ⟨j, _, _, _, _⟩ := hx.1 rfl; omega
      subst this
      rfl
    · have : x = true := hx.2 ⟨j, a1, by omega, a2, by omega⟩
      subst this
      rw [if_pos (by decide)]
      by_cases hz : s = 0
      · rw [if_pos hz]
      · rw [if_neg hz]
        have : y = false := by
          cases y with
          | false => rfl
          | true =>
            obtain ⟨i2, c1, c2, c3, c4⟩ := hy.1 rfl
            have c5 := a4 i2 c1 c3
            clear hx hy hs0
            rw [Int.max_def] at e2
            split at e2 <;> omega
        subst this
        rfl
  intro n
  induction n with
  | zero => intro K i x y h1 h2 h3 hx hy; exact fin K i x y (by omega) (by omega) hx hy
  | succ n ih =>
    intro K i x y h1 h2 h3 hx hy
    by_cases hi' : i < (l.length : Int)
    · obtain ⟨k, rfl⟩ : ∃ k, K = k + 1 := ⟨K - 1, by omega⟩
      have hbi := hb i h3 hi'
      rw [tricklelaw39_TimerSleep.l1.eq_2, if_pos hi', if_pos h3, if_pos hi', sleep_wrap (x := i + 1) (by omega) (by omega), sleep_wrap (x := lo + s) (by omega) (by omega), sleep_wrap (x := lo + s - 1) (by omega) (by omega)]
      have step : ∀ (z : Bool) (t : Int), (z = true ↔ ∃ j, 0 ≤ j ∧ j < i ∧ j < (l.length : Int) ∧ rd l j ≤ t) →
          ((z || decide (rd l i ≤ t)) = true ↔ ∃ j, 0 ≤ j ∧ j < i + 1 ∧ j < (l.length : Int) ∧ rd l j ≤ t) := by
        intro z t hz
        rw [Bool.or_eq_true, hz, decide_eq_true_iff]
        constructor
        · rintro (⟨j, c1, c2, c3, c4⟩ | c)
          · exact ⟨j, c1, by omega, c3, c4⟩
          · exact ⟨i, h3, by omega, hi', c⟩
        · rintro ⟨j, c1, c2, c3, c4⟩
          by_cases e : j = i
          · subst e; exact .inr c4
          · exact .inl ⟨j, c1, by omega, c3, c4⟩
      have hx' := step x _ hx
      have hy' := step y _ hy
      cases x <;> cases y
      · rw [if_neg (by decide), if_neg (by decide)]; exact ih k (i + 1) _ _ (by omega) (by omega) (by omega) (by simpa only [Bool.true_or, Bool.false_or, true_iff] using hx') (by simpa only [Bool.true_or, Bool.false_or, true_iff] using hy')
      · rw [if_neg (by decide), if_pos rfl]; exact ih k (i + 1) _ _ (by omega) (by omega) (by omega) (by simpa only [Bool.true_or, Bool.false_or, true_iff] using hx') (by simpa only [Bool.true_or, Bool.false_or, true_iff] using hy')
      · rw [if_pos rfl, if_neg (by decide)]; exact ih k (i + 1) _ _ (by omega) (by omega) (by omega) (by simpa only [Bool.true_or, Bool.false_or, true_iff] using hx') (by simpa only [Bool.true_or, Bool.false_or, true_iff] using hy')
      · rw [if_pos rfl, if_pos rfl]; exact ih k (i + 1) _ _ (by omega) (by omega) (by omega) (by simpa only [Bool.true_or, Bool.false_or, true_iff] using hx') (by simpa only [Bool.true_or, Bool.false_or, true_iff] using hy')
    · exact fin K i x y (by omega) hi' hx hy

theorem sleep_l0 (l : List Int) (lo hi : Int) (hlen : (l.length : Int) ≤ 40) (h0 : 0 ≤ lo) (h9 : lo ≤ 1099511627776) :
    ∀ (n : Nat) (K : Nat) (i : Int), (l.length : Int) - i ≤ n → n + 60 ≤ K → 0 ≤ i → (∀ j, 0 ≤ j → j < i → j < (l.length : Int) → 0 ≤ rd l j ∧ rd l j ≤ 1099511660543) →
      tricklelaw39_TimerSleep.l0 K l l (l.length : Int) i lo hi = some true := by
  have fin : ∀ (K : Nat) (i : Int), 60 ≤ K → ¬ i < (l.length : Int) → (∀ j, 0 ≤ j → j < i → j < (l.length : Int) → 0 ≤ rd l j ∧ rd l j ≤ 1099511660543) →
      tricklelaw39_TimerSleep.l0 K l l (l.length : Int) i lo hi = some true := by
    intro K i hK hi' hg
    obtain ⟨k, rfl⟩ : ∃ k, K = k + 1 := ⟨K - 1, by omega⟩
    rw [tricklelaw39_TimerSleep.l0.eq_2, if_neg hi']
    have hb : ∀ j, 0 ≤ j → j < (l.length : Int) → 0 ≤ rd l j ∧ rd l j ≤ 1099511660543 := fun j a b => hg j a (by omega) b
    obtain ⟨s, b, e1, e2, hs⟩ := sleep_same l lo hi hb hlen h0 h9 k (by omega)
    rw [e1, e2, Option.bind_some, Option.bind_some, if_pos rfl]
    obtain ⟨k, rfl⟩ : ∃ j, k = j + 1 := ⟨k - 1, by omega⟩
    rw [tricklelaw39_TimerSleep.j2.eq_2, if_neg (show ¬ (b != b) = true by cases b <;> decide)]
    refine sleep_l1 l lo hi s b hb hlen h0 h9 hs 40 k 0 false false (by omega) (by omega) (by omega) ?_ ?_
    · exact ⟨fun h => absurd h (by decide), fun ⟨j, a, b, _⟩ => by omega⟩
    · exact ⟨fun h => absurd h (by decide), fun ⟨j, a, b, _⟩ => by omega⟩
  intro n
  induction n with
  | zero => intro K i h1 h2 h3 hg; exact fin K i (by omega) (by omega) hg
  | succ n ih =>
    intro K i h1 h2 h3 hg
    by_cases hi' : i < (l.length : Int)
    · obtain ⟨k, rfl⟩ : ∃ k, K = k + 1 := ⟨K - 1, by omega⟩
      rw [tricklelaw39_TimerSleep.l0.eq_2, if_pos hi', if_pos h3, if_pos hi', sleep_wrap (x := i + 1) (by omega) (by omega)]
      unfold trickleref39_Release.f
      by_cases c1 : rd l i ≥ 0
      · by_cases c2 : rd l i ≤ 1099511660543
        · rw [if_pos c1, Option.bind_some, if_pos (decide_eq_true c2)]
          refine ih k (i + 1) (by omega) (by omega) (by omega) fun j d1 d2 d3 => ?_
          by_cases e : j = i
          · subst e; exact ⟨c1, c2⟩
          · exact hg j d1 (by omega) d3
        · rw [if_pos c1, Option.bind_some, if_neg (by simpa using c2)]
      · rw [if_neg c1, Option.bind_some, if_neg (by decide)]
    · exact fin K i (by omega) hi' hg

theorem TimerSleep (l : List Int) (lo hi : Int) : ∃ k, tricklelaw39_TimerSleep.f k l lo hi = some true := by
  obtain ⟨K, hK⟩ : ∃ K : Nat, 200 ≤ K := ⟨200, Nat.le_refl _⟩
  refine ⟨K, ?_⟩
  obtain ⟨k, rfl⟩ : ∃ k, K = k + 1 := ⟨K - 1, by omega⟩
  unfold tricklelaw39_TimerSleep.f
  rw [sleep_wakes_true, Option.bind_some, if_pos rfl]
  by_cases hlen : (l.length : Int) > 40
  · rw [if_pos hlen, tricklelaw39_TimerSleep.j0.eq_2, if_pos rfl]
  · rw [if_neg hlen]
    unfold trickleref39_Interval.f
    by_cases h0 : lo ≥ 0
    · by_cases h1 : lo ≤ hi
      · by_cases h2 : hi ≤ 1099511627776
        · rw [if_pos h0, if_pos h1, Option.bind_some, decide_eq_true h2, tricklelaw39_TimerSleep.j0.eq_2, if_neg (by decide)]
          exact sleep_l0 l lo hi (by omega) h0 (by omega) 40 k 0 (by omega) (by omega) (by omega) (fun j a b => by omega)
        · rw [if_pos h0, if_pos h1, Option.bind_some, decide_eq_false h2, tricklelaw39_TimerSleep.j0.eq_2, if_pos (by decide)]
      · rw [if_pos h0, if_neg h1, Option.bind_some, tricklelaw39_TimerSleep.j0.eq_2, if_pos (by decide)]
    · rw [if_neg h0, Option.bind_some, tricklelaw39_TimerSleep.j0.eq_2, if_pos (by decide)]
end Go.Proofs.Ytjdpogkddoaioaa.QSl

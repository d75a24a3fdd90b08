/- SchedulerEarliestDeadlineFirst, over lists alone. -/
import Derived.Test.YtlklcfaejmeljaaOeC
namespace Go.Proofs.Ytlklcfaejmeljaa.QOe
open Go.RowKit Go.Proofs.YtlklcfaejmeljaaW.PrintWords Go.Proofs.YtlklcfaejmeljaaW.PrintLast Go.Proofs.YtlklcfaejmeljaaW.PrintMore Go.Proofs.Ytlklcfaejmeljaa.Srt Go.Proofs.Ytlklcfaejmeljaa.St
set_option linter.unusedVariables false
set_option linter.unusedSimpArgs false

/-- The deadline of job x. -/
def dl (l : List S58) (x : Int) : Int := (l.getD x.toNat z58).f2
def inL (l : List S58) (o : List Int) : Prop := ∀ x ∈ o, 0 ≤ x ∧ x < (l.length : Int)
theorem rdl {l : List S58} (x : Int) : (rd_T58 l x).f2 = dl l x := rfl
def meetsB (l : List S58) (t : Int) : List Int → Int → Bool
  | [], _ => true
  | x :: xs, now => if now + t > dl l x then false else meetsB l t xs (now + t)
theorem meets_loop (l : List S58) (t : Int) (h0 : 0 ≤ t) (h9 : t ≤ 255) (o : List Int) (ho : inL l o) (hl : o.length ≤ 1000) : ∀ (n j : Nat) (now : Int), o.length - j ≤ n → j ≤ o.length → 0 ≤ now → now ≤ 255 * (j : Int) →
    Ev (fun k => tricklelaw40_meets.l0 k l t now o (o.length : Int) (j : Int)) (meetsB l t (o.drop j) now) := by
  have last : ∀ now, Ev (fun k => tricklelaw40_meets.l0 k l t now o (o.length : Int) (o.length : Int)) (meetsB l t (o.drop o.length) now) := by
    intro now
    refine Ev.step (f := fun _ => some _) (fun k => ?_) (Ev.now _)
    rw [tricklelaw40_meets.l0.eq_2, if_neg (by omega), List.drop_length]
    rfl
  intro n
  induction n with
  | zero =>
    intro j now h1 h2 h3 h4
    obtain rfl : j = o.length := by omega
    exact last now
  | succ n ih =>
    intro j now h1 h2 h3 h4
    by_cases hj : j < o.length
    · have hx := ho o[j] (List.getElem_mem hj)
      have e1 : rd o (j : Int) = o[j] := by rw [rdN, List.getD_eq_getElem?_getD, List.getElem?_eq_getElem hj, Option.getD_some]
      have w1 : wrap64 (now + t) = now + t := by unfold wrap64; omega
      rw [List.drop_eq_getElem_cons hj]
      by_cases hc : now + t > dl l o[j]
      · have e2 : meetsB l t (o[j] :: o.drop (j + 1)) now = false := by rw [meetsB, if_pos hc]
        rw [e2]
        refine Ev.step (f := fun _ => some _) (fun k => ?_) (Ev.now _)
        rw [tricklelaw40_meets.l0.eq_2, if_pos (by omega), if_pos (by omega), if_pos (by omega), e1, if_pos hx.1, if_pos hx.2, w1, rdl, if_pos hc]
      · have e2 : meetsB l t (o[j] :: o.drop (j + 1)) now = meetsB l t (o.drop (j + 1)) (now + t) := by rw [meetsB, if_neg hc]
        rw [e2]
        refine Ev.step (fun k => ?_) (ih (j + 1) (now + t) (by omega) (by omega) (by omega) (by omega))
        rw [tricklelaw40_meets.l0.eq_2, if_pos (by omega), if_pos (by omega), if_pos (by omega), e1, if_pos hx.1, if_pos hx.2, w1, rdl, if_neg hc, nat_wrap hj (by omega)]
    · obtain rfl : j = o.length := by omega
      exact last now
theorem meets_ev (l : List S58) (t : Int) (h0 : 0 ≤ t) (h9 : t ≤ 255) (o : List Int) (ho : inL l o) (hl : o.length ≤ 1000) : Ev (fun k => tricklelaw40_meets.f k l o t) (meetsB l t o 0) := by
  unfold tricklelaw40_meets.f
  have := meets_loop l t h0 h9 o ho hl o.length 0 0 (by omega) (by omega) (by omega) (by omega)
  rwa [List.drop_zero] at this

/-! ## The search over all orders -/
def usedL (j : Int) : List Int → Bool
  | [] => false
  | x :: xs => (x == j) || usedL j xs
theorem usedL_iff (j : Int) : ∀ o, usedL j o = true ↔ j ∈ o
  | [] => by simp [usedL]
  | x :: xs => by
    unfold usedL
    rw [Bool.or_eq_true, usedL_iff j xs, beq_iff_eq, List.mem_cons]
    exact ⟨fun h => h.imp Eq.symm id, fun h => h.imp Eq.symm id⟩
def anyF (P : Nat → Bool) : Nat → Nat → Bool
  | 0, _ => false
  | m + 1, j => P j || anyF P m (j + 1)
theorem anyF_iff (P : Nat → Bool) : ∀ m j, anyF P m j = true ↔ ∃ i, j ≤ i ∧ i < j + m ∧ P i = true
  | 0, j => by
    constructor
    · intro h; cases h
    · rintro ⟨i, h1, h2, _⟩; omega
  | m + 1, j => by
    unfold anyF
    rw [Bool.or_eq_true, anyF_iff P m (j + 1)]
    constructor
    · rintro (h | ⟨i, h1, h2, h3⟩)
      · exact ⟨j, Nat.le_refl _, by omega, h⟩
      · exact ⟨i, by omega, by omega, h3⟩
    · rintro ⟨i, h1, h2, h3⟩
      by_cases e : i = j
      · subst e; exact .inl h3
      · exact .inr ⟨i, by omega, by omega, h3⟩
def someW (l : List S58) (t : Int) : Nat → List Int → Bool
  | 0, o => meetsB l t o 0
  | d + 1, o => anyF (fun i => !(usedL (i : Int) o) && someW l t d (o ++ [(i : Int)])) l.length 0
theorem used_ev (l : List S58) (t : Int) (o : List Int) (ho : o.length ≤ 1000) (j n : Nat) (r : Bool) : ∀ (m i : Nat) (used : Bool), o.length - i ≤ m → i ≤ o.length →
    ((used || usedL (j : Int) (o.drop i)) = true → Ev (fun k => tricklelaw40_some.l0 k l o t (n : Int) (wrap64 ((j : Int) + 1))) r) →
    ((used || usedL (j : Int) (o.drop i)) = false → Ev (fun k => (tricklelaw40_some.f k l (o ++ [(j : Int)]) t).bind fun b => if b = true then some true else tricklelaw40_some.l0 k l o t (n : Int) (wrap64 ((j : Int) + 1))) r) →
    Ev (fun k => tricklelaw40_some.l1 k l o t (j : Int) used (n : Int) (j : Int) o (o.length : Int) (i : Int)) r := by
  have last : ∀ (used : Bool), ((used || usedL (j : Int) (o.drop o.length)) = true → Ev (fun k => tricklelaw40_some.l0 k l o t (n : Int) (wrap64 ((j : Int) + 1))) r) →
    ((used || usedL (j : Int) (o.drop o.length)) = false → Ev (fun k => (tricklelaw40_some.f k l (o ++ [(j : Int)]) t).bind fun b => if b = true then some true else tricklelaw40_some.l0 k l o t (n : Int) (wrap64 ((j : Int) + 1))) r) →
    Ev (fun k => tricklelaw40_some.l1 k l o t (j : Int) used (n : Int) (j : Int) o (o.length : Int) (o.length : Int)) r := by
    intro used hT hF
    rw [List.drop_length] at hT hF
    cases used with
    | true =>
      refine Ev.step (fun k => ?_) (hT rfl)
      rw [tricklelaw40_some.l1.eq_2, if_neg (by omega), if_pos rfl]
    | false =>
      refine Ev.step (fun k => ?_) (hF rfl)
      rw [tricklelaw40_some.l1.eq_2, if_neg (by omega), if_neg (by decide), Option.bind_some, if_pos (by simp; omega), Option.bind_some, if_pos (by simp; omega), List.nil_append]
  intro m
  induction m with
  | zero =>
    intro i used h1 h2 hT hF
    obtain rfl : i = o.length := by omega
    exact last used hT hF
  | succ m ih =>
    intro i used h1 h2 hT hF
    by_cases hi : i < o.length
    · have e1 : rd o (i : Int) = o[i] := by rw [rdN, List.getD_eq_getElem?_getD, List.getElem?_eq_getElem hi, Option.getD_some]
      rw [List.drop_eq_getElem_cons hi] at hT hF
      cases used with
      | true =>
        refine Ev.step (fun k => ?_) (ih (i + 1) true (by omega) (by omega) (fun _ => hT rfl) (fun h => by simp at h))
        rw [tricklelaw40_some.l1.eq_2, if_pos (by omega), if_pos (by omega), if_pos (by omega), if_pos rfl, nat_wrap hi (by omega)]
      | false =>
        refine Ev.step (fun k => ?_) (ih (i + 1) (o[i] == (j : Int)) (by omega) (by omega) (fun h => hT (by simpa [usedL] using h)) (fun h => hF (by simpa [usedL] using h)))
        rw [tricklelaw40_some.l1.eq_2, if_pos (by omega), if_pos (by omega), if_pos (by omega), if_neg (by decide), e1, nat_wrap hi (by omega)]
    · obtain rfl : i = o.length := by omega
      exact last used hT hF
theorem some_ev (l : List S58) (hl : l.length ≤ 5) (t : Int) (h0 : 0 ≤ t) (h9 : t ≤ 255) : ∀ (d : Nat) (o : List Int), o.length + d = l.length → inL l o → Ev (fun k => tricklelaw40_some.f k l o t) (someW l t d o) := by
  intro d
  induction d with
  | zero =>
    intro o hlen ho
    refine Ev.step (f := fun k => (tricklelaw40_meets.f k l o t).bind fun b => some b) (fun k => ?_) (Ev.bind (meets_ev l t h0 h9 o ho (by omega)) (Ev.now _))
    rw [tricklelaw40_some.f.eq_2, if_pos (by omega)]
  | succ d ih =>
    intro o hlen ho
    refine Ev.step (f := fun k => tricklelaw40_some.l0 k l o t (l.length : Int) 0) (fun k => ?_) ?_
    · rw [tricklelaw40_some.f.eq_2, if_neg (by omega)]
    · have key : ∀ (m j : Nat), j + m = l.length → Ev (fun k => tricklelaw40_some.l0 k l o t (l.length : Int) (j : Int)) (anyF (fun i => !(usedL (i : Int) o) && someW l t d (o ++ [(i : Int)])) m j) := by
        intro m
        induction m with
        | zero =>
          intro j hj
          refine Ev.step (f := fun _ => some _) (fun k => ?_) (Ev.now _)
          rw [tricklelaw40_some.l0.eq_2, if_neg (by omega)]
          rfl
        | succ m ihm =>
          intro j hj
          have ihm := ihm (j + 1) (by omega)
          rw [← nat_wrap (show j < l.length by omega) (by omega)] at ihm
          refine Ev.step (f := fun k => tricklelaw40_some.l1 k l o t (j : Int) false (l.length : Int) (j : Int) o (o.length : Int) 0) (fun k => ?_) ?_
          · rw [tricklelaw40_some.l0.eq_2, if_pos (by omega)]
          · refine used_ev l t o (by omega) j l.length _ o.length 0 false (by omega) (by omega) (fun hu => ?_) (fun hu => ?_)
            · rw [List.drop_zero, Bool.false_or] at hu
              have e : anyF (fun i => !(usedL (i : Int) o) && someW l t d (o ++ [(i : Int)])) (m + 1) j = anyF (fun i => !(usedL (i : Int) o) && someW l t d (o ++ [(i : Int)])) m (j + 1) := by
                rw [anyF, hu]; rfl
              rw [e]; exact ihm
            · rw [List.drop_zero, Bool.false_or] at hu
              have hs := ih (o ++ [(j : Int)]) (by simp; omega) (fun x hx => by
                rcases List.mem_append.1 hx with hx | hx
                · exact ho x hx
                · rw [List.mem_singleton.1 hx]; omega)
              refine Ev.bind hs ?_
              have e : anyF (fun i => !(usedL (i : Int) o) && someW l t d (o ++ [(i : Int)])) (m + 1) j = (someW l t d (o ++ [(j : Int)]) || anyF (fun i => !(usedL (i : Int) o) && someW l t d (o ++ [(i : Int)])) m (j + 1)) := by
                rw [anyF, hu]; rfl
              rw [e]
              cases hb : someW l t d (o ++ [(j : Int)]) with
              | true => exact Ev.congr (fun k => by rw [if_pos rfl]) (Ev.now true)
              | false => exact Ev.congr (fun k => by rw [if_neg (by decide)]) ihm
      exact key l.length 0 (by omega)
/-- An order that goes on from o. -/
structure Ext (l : List S58) (t : Int) (d : Nat) (o e : List Int) : Prop where
  len : e.length = d
  rng : inL l e
  nd : e.Nodup
  apart : ∀ x ∈ e, x ∉ o
  meets : meetsB l t (o ++ e) 0 = true
theorem someW_sound (l : List S58) (t : Int) : ∀ d o, someW l t d o = true → ∃ e, Ext l t d o e
  | 0, o, h => ⟨[], rfl, (fun x hx => (by cases hx)), List.nodup_nil, (fun x hx => (by cases hx)), by rw [List.append_nil]; exact h⟩
  | d + 1, o, h => by
    obtain ⟨i, _, hi, hP⟩ := (anyF_iff _ _ _).1 h
    rw [Bool.and_eq_true, Bool.not_eq_true'] at hP
    have hu : (i : Int) ∉ o := fun hm => by rw [(usedL_iff _ _).2 hm] at hP; cases hP.1
    obtain ⟨e, he⟩ := someW_sound l t d _ hP.2
    refine ⟨(i : Int) :: e, by rw [List.length_cons, he.len], fun x hx => ?_, ?_, fun x hx => ?_, ?_⟩
    · rcases List.mem_cons.1 hx with rfl | hx
      · omega
      · exact he.rng x hx
    · rw [List.nodup_cons]
      exact ⟨fun hm => he.apart _ hm (by simp), he.nd⟩
    · rcases List.mem_cons.1 hx with rfl | hx
      · exact hu
      · exact fun hm => he.apart x hx (by simp [hm])
    · have := he.meets
      rwa [List.append_assoc, List.singleton_append] at this
theorem someW_complete (l : List S58) (t : Int) : ∀ d o e, Ext l t d o e → someW l t d o = true
  | 0, o, e, h => by
    have : e = [] := List.eq_nil_of_length_eq_zero h.len
    subst this
    have := h.meets
    rwa [List.append_nil] at this
  | d + 1, o, [], h => by have := h.len; simp at this
  | d + 1, o, x :: e, h => by
    have hx := h.rng x (by simp)
    obtain ⟨i, rfl⟩ := Int.eq_ofNat_of_zero_le hx.1
    have hnd := h.nd
    rw [List.nodup_cons] at hnd
    have ih := someW_complete l t d (o ++ [(i : Int)]) e ⟨by have := h.len; simpa using this, fun y hy => h.rng y (by simp [hy]), hnd.2, fun y hy hm => by
      rcases List.mem_append.1 hm with hm | hm
      · exact h.apart y (by simp [hy]) hm
      · rw [List.mem_singleton.1 hm] at hy; exact hnd.1 hy, by rw [List.append_assoc, List.singleton_append]; exact h.meets⟩
    refine (anyF_iff _ _ _).2 ⟨i, Nat.zero_le _, by omega, ?_⟩
    rw [Bool.and_eq_true, Bool.not_eq_true']
    refine ⟨?_, ih⟩
    cases hc : usedL (i : Int) o
    · rfl
    · exact absurd ((usedL_iff _ _).1 hc) (h.apart _ (by simp))

/-! ## Earliest deadline first -/
theorem meetsB_iff (l : List S58) (t : Int) : ∀ (o : List Int) (now : Int), meetsB l t o now = true ↔ ∀ (k : Nat) (h : k < o.length), now + ((k : Int) + 1) * t ≤ dl l o[k]
  | [], now => by
    constructor
    · intro _ k h; simp at h
    · intro _; rfl
  | x :: xs, now => by
    unfold meetsB
    by_cases hc : now + t > dl l x
    · rw [if_pos hc]
      constructor
      · intro h; cases h
      · intro h
        have := h 0 (by simp)
        simp at this
        omega
    · rw [if_neg hc, meetsB_iff l t xs (now + t)]
      constructor
      · intro h k hk
        cases k with
        | zero => simp; omega
        | succ k =>
          have := h k (by simpa using hk)
          rw [List.getElem_cons_succ]
          have e : now + (((k + 1 : Nat) : Int) + 1) * t = now + t + ((k : Int) + 1) * t := by
            rw [show (((k + 1 : Nat) : Int) + 1) = ((k : Int) + 1) + 1 by omega, Int.add_mul ((k : Int) + 1) 1 t, Int.one_mul]; omega
          rw [e]; exact this
      · intro h k hk
        have := h (k + 1) (by simpa using hk)
        rw [List.getElem_cons_succ] at this
        have e : now + (((k + 1 : Nat) : Int) + 1) * t = now + t + ((k : Int) + 1) * t := by
          rw [show (((k + 1 : Nat) : Int) + 1) = ((k : Int) + 1) + 1 by omega, Int.add_mul ((k : Int) + 1) 1 t, Int.one_mul]; omega
        rwa [e] at this
theorem nodup_sub : ∀ (a b : List Int), a.Nodup → (∀ x ∈ a, x ∈ b) → a.length ≤ b.length
  | [], b, _, _ => by simp
  | x :: a, b, hn, hs => by
    rw [List.nodup_cons] at hn
    have hx := hs x (by simp)
    have ih := nodup_sub a (b.erase x) hn.2 (fun y hy => by
      have hne : y ≠ x := fun e => hn.1 (e ▸ hy)
      exact (List.mem_erase_of_ne hne).2 (hs y (by simp [hy])))
    rw [List.length_erase_of_mem hx] at ih
    have := List.length_pos_of_mem hx
    rw [List.length_cons]; omega
theorem ordW_nodup (l : List S54) : (ordW l).Nodup := by
  have h := ordW_ord l
  refine h.imp ?_
  intro a b hab e
  subst e
  exact R.irrefl (ord_swo l) hab
theorem R_dl {l : List S58} {x y : Int} (hx : 0 ≤ x ∧ x < (l.length : Int)) (hy : 0 ≤ y ∧ y < (l.length : Int)) (h : R (lt_ (ordC (l.map jm))) x y) : dl l x ≤ dl l y := by
  obtain ⟨a, rfl⟩ := Int.eq_ofNat_of_zero_le hx.1
  obtain ⟨b, rfl⟩ := Int.eq_ofNat_of_zero_le hy.1
  have ha : a < l.length := by omega
  have hb : b < l.length := by omega
  have e1 : dl l (a : Int) = (jm l[a]).f2 := by
    unfold dl
    rw [Int.toNat_natCast, List.getD_eq_getElem?_getD, List.getElem?_eq_getElem ha, Option.getD_some]; rfl
  have e2 : dl l (b : Int) = (jm l[b]).f2 := by
    unfold dl
    rw [Int.toNat_natCast, List.getD_eq_getElem?_getD, List.getElem?_eq_getElem hb, Option.getD_some]; rfl
  rw [e1, e2]
  rcases h with h | h
  · unfold lt_ at h
    rw [ordC_at ha hb, ordJ_lt] at h
    omega
  · have h := h.1
    unfold lt_ at h
    rw [ordC_at hb ha, ordJ_lt] at h
    omega
theorem edf (l : List S58) (t : Int) (h0 : 0 ≤ t) : meetsB l t (ordW (l.map jm)) 0 = someW l t l.length [] := by
  have hlen := ordW_len (l.map jm)
  rw [List.length_map] at hlen
  have hmem := ordW_mem (l.map jm)
  rw [List.length_map] at hmem
  have hnd := ordW_nodup (l.map jm)
  have hord := ordW_ord (l.map jm)
  generalize ordW (l.map jm) = q at *
  rw [Bool.eq_iff_iff]
  constructor
  · intro h
    exact someW_complete l t l.length [] q ⟨hlen, fun x hx => (hmem x).1 hx, hnd, fun x _ hm => (by cases hm), by rw [List.nil_append]; exact h⟩
  · intro h
    obtain ⟨e, he⟩ := someW_sound l t _ _ h
    have hem := he.meets
    rw [List.nil_append, meetsB_iff] at hem
    rw [meetsB_iff]
    intro k hk
    by_cases hc : 0 + ((k : Int) + 1) * t ≤ dl l q[k]
    · exact hc
    · exfalso
      have hall : ∀ x ∈ q, x ∈ e := by
        intro x hx
        by_cases hxe : x ∈ e
        · exact hxe
        · exfalso
          have := nodup_sub (x :: e) q (by rw [List.nodup_cons]; exact ⟨hxe, he.nd⟩) (fun y hy => by
            rcases List.mem_cons.1 hy with rfl | hy
            · exact hx
            · exact (hmem y).2 (he.rng y hy))
          rw [List.length_cons, he.len] at this
          omega
      have hsub : ∀ x ∈ q.take (k + 1), x ∈ e.take k := by
        intro x hx
        obtain ⟨i, hi, rfl⟩ := List.getElem_of_mem hx
        rw [List.length_take] at hi
        rw [List.getElem_take]
        have hi2 : i < q.length := by omega
        have hle : dl l q[i] ≤ dl l q[k] := by
          by_cases e1 : i = k
          · subst e1; exact Int.le_refl _
          · rw [List.pairwise_iff_getElem] at hord
            exact R_dl ((hmem _).1 (List.getElem_mem _)) ((hmem _).1 (List.getElem_mem _)) (hord i k hi2 hk (by omega))
        obtain ⟨p, hp, hpe⟩ := List.getElem_of_mem (hall _ (List.getElem_mem hi2))
        have hm := hem p hp
        rw [hpe] at hm
        have hpk : p < k := by
          by_cases e2 : p < k
          · exact e2
          · exfalso
            have : ((k : Int) + 1) * t ≤ ((p : Int) + 1) * t := Int.mul_le_mul_of_nonneg_right (by omega) h0
            omega
        rw [← hpe, List.mem_take_iff_getElem]
        exact ⟨p, by omega, rfl⟩
      have := nodup_sub _ _ (hnd.sublist (List.take_sublist _ _)) hsub
      rw [List.length_take, List.length_take] at this
      omega
theorem check_ev (l : List S58) (hl : l.length ≤ 5) (a1 : Int) (h0 : 0 ≤ a1) (h9 : a1 ≤ 255) (q : List Int) (hq : inL l q) (hql : q.length = l.length) : ∀ (n j : Nat), q.length - j ≤ n → j ≤ q.length →
    Ev (fun k => tricklelaw40_SchedulerEarliestDeadlineFirst.l0 k l a1 q q (q.length : Int) (j : Int)) (meetsB l a1 q 0 == someW l a1 l.length []) := by
  have w1 : wrap64 a1 = a1 := by unfold wrap64; omega
  have last : Ev (fun k => tricklelaw40_SchedulerEarliestDeadlineFirst.l0 k l a1 q q (q.length : Int) (q.length : Int)) (meetsB l a1 q 0 == someW l a1 l.length []) := by
    refine Ev.step (f := fun k => (tricklelaw40_meets.f k l q a1).bind fun t278 => ((tricklelaw40_some.f k l ([] : List Int) a1).bind fun t279 => (some (t278 == t279)))) (fun k => ?_) ?_
    · rw [tricklelaw40_SchedulerEarliestDeadlineFirst.l0.eq_2, if_neg (by omega), w1]
    · exact Ev.bind (meets_ev l a1 h0 h9 q hq (by omega)) (Ev.bind (some_ev l hl a1 h0 h9 l.length [] (by simp) (fun x hx => by cases hx)) (Ev.now _))
  intro n
  induction n with
  | zero =>
    intro j h1 h2
    obtain rfl : j = q.length := by omega
    exact last
  | succ n ih =>
    intro j h1 h2
    by_cases hj : j < q.length
    · have hx := hq q[j] (List.getElem_mem hj)
      have e1 : rd q (j : Int) = q[j] := by rw [rdN, List.getD_eq_getElem?_getD, List.getElem?_eq_getElem hj, Option.getD_some]
      refine Ev.step (fun k => ?_) (ih (j + 1) (by omega) (by omega))
      rw [tricklelaw40_SchedulerEarliestDeadlineFirst.l0.eq_2, if_pos (by omega), if_pos (by omega), if_pos (by omega), e1, if_neg (by omega), if_neg (by omega), nat_wrap hj (by omega)]
    · obtain rfl : j = q.length := by omega
      exact last
theorem SchedulerEDF (l : List S58) (a1 : Int) (h0 : 0 ≤ a1) (h9 : a1 ≤ 255) : ∃ k, tricklelaw40_SchedulerEarliestDeadlineFirst.f k l a1 = some true := by
  apply Ev.rounds
  unfold tricklelaw40_SchedulerEarliestDeadlineFirst.f
  refine Ev.bind awake_ev ?_
  by_cases h : (l.length : Int) > 5
  · exact Ev.congr (fun k => by rw [if_pos rfl, if_pos h]) (Ev.now true)
  · have hl : l.length ≤ 5 := by omega
    have hlen := ordW_len (l.map jm)
    rw [List.length_map] at hlen
    have hmem := ordW_mem (l.map jm)
    rw [List.length_map] at hmem
    refine Ev.congr (fun k => by rw [if_pos rfl, if_neg h]) ?_
    refine Ev.bind (jobs_ev l (by omega)) ?_
    refine Ev.congr (fun k => by rw [order_f l (by omega), Option.bind_some, if_pos (by omega)]) ?_
    have key := check_ev l hl a1 h0 h9 (ordW (l.map jm)) (fun x hx => (hmem x).1 hx) hlen _ 0 (Nat.le_refl _) (Nat.zero_le _)
    rw [edf l a1 h0, beq_self_eq_true] at key
    exact key
theorem wf_u8 {x : Int} (h : (Lit.int .u8 x).wf = true) : 0 ≤ x ∧ x ≤ 255 := by
  simp [Lit.wf, IntKind.min, IntKind.max, IntKind.bits, IntKind.signed] at h
  omega
theorem SchedulerEDF_row {G : Prop} (l : List S58) (a1 : Int) (g : G) (g' : (Lit.int .u8 a1).wf = true) : ∃ k, tricklelaw40_SchedulerEarliestDeadlineFirst.f k l a1 = some true := SchedulerEDF l a1 (wf_u8 g').1 (wf_u8 g').2
end Go.Proofs.Ytlklcfaejmeljaa.QOe

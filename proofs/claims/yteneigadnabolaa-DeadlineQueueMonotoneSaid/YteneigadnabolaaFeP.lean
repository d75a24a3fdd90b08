/- Schedules over lists of items: the reference's answer, optimality, monotony. -/
import Derived.Test.YteneigadnabolaaFeA
import Derived.Test.YteneigadnabolaaDqP
namespace Go.Proofs.Yteneigadnabolaa.QAl
set_option linter.unusedVariables false
set_option linter.unusedSimpArgs false
theorem rm_eq {q : List Dq.It} {id : Int} (h : (Dq.rm q id).length = q.length) : ∀ y ∈ q, y.1 ≠ id := by
  intro y hy
  have h1 := List.length_filter_eq_length_iff.1 h y hy
  simpa using h1
/-- Where no item is lost, all IDs differ and all items are in. -/
theorem fold_all : ∀ (l q : List Dq.It), Dq.Ok q → (l.foldl Dq.push q).length = q.length + l.length →
    (∀ y ∈ q, ∀ x ∈ l, y.1 ≠ x.1) ∧ l.Pairwise (fun a b => a.1 ≠ b.1) ∧ ∀ y, y ∈ l.foldl Dq.push q ↔ y ∈ q ∨ y ∈ l
  | [], q, _, _ => ⟨by simp, List.Pairwise.nil, by simp⟩
  | x :: l, q, hq, h => by
    rw [List.foldl_cons, List.length_cons] at h
    have h1 := (fold_ok l (Dq.push q x) (hq.push x)).2
    have h2 := push_len q x
    have hp : (Dq.push q x).length = q.length + 1 := by omega
    have hr : (Dq.rm q x.1).length = q.length := by unfold Dq.push at hp; rw [Dq.ins_len] at hp; omega
    have hn := rm_eq hr
    obtain ⟨a, b, c⟩ := fold_all l (Dq.push q x) (hq.push x) (by omega)
    have hm : ∀ y, y ∈ Dq.push q x ↔ y = x ∨ y ∈ q := fun y => by
      rw [Dq.push_mem]
      exact ⟨fun h => h.imp id And.left, fun h => h.imp id (fun hy => ⟨hy, hn y hy⟩)⟩
    refine ⟨fun y hy z hz => ?_, List.pairwise_cons.2 ⟨fun z hz => a x ((hm x).2 (.inl rfl)) z hz, b⟩, fun y => ?_⟩
    · rcases List.mem_cons.1 hz with rfl | hz
      · exact hn y hy
      · exact a y ((hm y).2 (.inr hy)) z hz
    · rw [List.foldl_cons, c y, hm y, List.mem_cons]
      constructor
      · rintro ((h | h) | h)
        · exact .inr (.inl h)
        · exact .inl h
        · exact .inr (.inr h)
      · rintro (h | h | h)
        · exact .inl (.inr h)
        · exact .inl (.inl h)
        · exact .inr h
theorem queue_all {l : List Dq.It} (h : (queue l).length = l.length) : l.Pairwise (fun a b => a.1 ≠ b.1) ∧ ∀ y, y ∈ queue l ↔ y ∈ l := by
  obtain ⟨_, b, c⟩ := fold_all l [] Dq.Ok.nil (by unfold queue at h; simpa using h)
  exact ⟨b, fun y => by unfold queue; rw [c y]; simp⟩
theorem fold_has : ∀ (l q : List Dq.It) (id : Int), (∃ y ∈ q, y.1 = id) ∨ (∃ y ∈ l, y.1 = id) → ∃ z ∈ l.foldl Dq.push q, z.1 = id
  | [], q, id, h => by
    rcases h with h | ⟨y, hy, _⟩
    · exact h
    · cases hy
  | x :: l, q, id, h => by
    refine fold_has l (Dq.push q x) id ?_
    rcases h with ⟨y, hy, he⟩ | ⟨y, hy, he⟩
    · by_cases e : y.1 = x.1
      · exact .inl ⟨x, Dq.push_mem.2 (.inl rfl), by rw [← e, he]⟩
      · exact .inl ⟨y, Dq.push_mem.2 (.inr ⟨hy, e⟩), he⟩
    · rcases List.mem_cons.1 hy with rfl | hy
      · exact .inl ⟨y, Dq.push_mem.2 (.inl rfl), he⟩
      · exact .inr ⟨y, hy, he⟩
theorem has_queue' {l : List Dq.It} {y : Dq.It} (h : y ∈ l) : ∃ z ∈ queue l, z.1 = y.1 := fold_has l [] y.1 (.inr ⟨y, h, rfl⟩)
/-- What the reference's Feasible answers. -/
def refFeas (f : Int → Int) (now : Int) (l : List Dq.It) : Int × Int :=
  if (queue l).length = l.length ∧ vld now = true ∧ (queue l).all (okJ f) = true then runq f now (queue l) else (0, 1)
theorem feas_ref (f : Int → Int) (now : Int) (l : List Dq.It) : feas f now l = refFeas f now l := by
  unfold feas refFeas
  by_cases h : (queue l).length = l.length
  · have e : l.all (okJ f) = (queue l).all (okJ f) := by
      rw [Bool.eq_iff_iff, List.all_eq_true, List.all_eq_true]
      exact ⟨fun a x hx => a x (((queue_all h).2 x).1 hx), fun a x hx => a x (((queue_all h).2 x).2 hx)⟩
    rw [e]
    by_cases h1 : (queue l).all (okJ f) = true <;> by_cases h2 : vld now = true <;> simp [h, h1, h2]
  · rw [if_neg (fun a => h a.2.2), if_neg (fun a => h a.1)]
def meets (f : Int → Int) : Int → List Dq.It → Bool
  | _, [] => true
  | now, x :: l => if x.2 < now + f x.1 then false else meets f (now + f x.1) l
theorem runq_meets (f : Int → Int) : ∀ (q : List Dq.It) (now : Int), (meets f now q = true → runq f now q = (0, 0)) ∧ (meets f now q = false → (runq f now q).2 = 14)
  | [], now => ⟨fun _ => rfl, fun h => by cases h⟩
  | x :: q, now => by
    unfold meets runq
    by_cases h : x.2 < now + f x.1
    · rw [if_pos h, if_pos h]; exact ⟨fun a => (by cases a), fun _ => rfl⟩
    · rw [if_neg h, if_neg h]; exact runq_meets f q (now + f x.1)
def sumf (f : Int → Int) (l : List Dq.It) : Int := (l.map (fun x => f x.1)).sum
theorem sumf_cons (f : Int → Int) (x : Dq.It) (l : List Dq.It) : sumf f (x :: l) = f x.1 + sumf f l := by simp [sumf]
theorem sumf_erase (f : Int → Int) {x : Dq.It} : ∀ {l : List Dq.It}, x ∈ l → sumf f l = f x.1 + sumf f (l.erase x)
  | y :: l, h => by
    by_cases e : y = x
    · subst e; rw [List.erase_cons_head, sumf_cons]
    · have hx : x ∈ l := (List.mem_cons.1 h).resolve_left (fun h => e h.symm)
      rw [List.erase_cons_tail (by simpa using e), sumf_cons, sumf_cons, sumf_erase f hx]
      omega
theorem meets_bound (f : Int → Int) (D : Int) : ∀ (l : List Dq.It) (now : Int), (∀ x ∈ l, 0 ≤ f x.1) → meets f now l = true → ∀ S : List Dq.It, S ≠ [] → S.Nodup → (∀ y ∈ S, y ∈ l) → (∀ y ∈ S, y.2 ≤ D) → now + sumf f S ≤ D
  | [], now, _, _, S, hS, _, hsub, _ => by
    cases S with
    | nil => exact absurd rfl hS
    | cons y S => exact absurd (hsub y (List.mem_cons_self ..)) (by simp)
  | x :: l, now, hf, hm, S, hS, hnd, hsub, hD => by
    unfold meets at hm
    by_cases hx : x.2 < now + f x.1
    · rw [if_pos hx] at hm; cases hm
    · rw [if_neg hx] at hm
      have hfx := hf x (List.mem_cons_self ..)
      have hft : ∀ y ∈ l, 0 ≤ f y.1 := fun y hy => hf y (List.mem_cons_of_mem _ hy)
      by_cases hin : x ∈ S
      · have e := sumf_erase f hin
        by_cases hne : S.erase x = []
        · rw [hne] at e
          have := hD x hin
          simp [sumf] at e
          unfold sumf
          omega
        · have ih := meets_bound f D l (now + f x.1) hft hm (S.erase x) hne (hnd.erase x) (fun y hy => by
            have h1 := (List.Nodup.mem_erase_iff hnd).1 hy
            exact (List.mem_cons.1 (hsub y h1.2)).resolve_left h1.1) (fun y hy => hD y (List.mem_of_mem_erase hy))
          omega
      · have ih := meets_bound f D l (now + f x.1) hft hm S hS hnd (fun y hy => (List.mem_cons.1 (hsub y hy)).resolve_left (fun h => hin (h ▸ hy))) hD
        omega
theorem meets_of (f : Int → Int) : ∀ (q : List Dq.It) (now : Int), (∀ j (h : j < q.length), now + sumf f (q.take (j + 1)) ≤ q[j].2) → meets f now q = true
  | [], now, _ => rfl
  | x :: q, now, h => by
    unfold meets
    have h0 := h 0 (by simp)
    have e0 : sumf f ((x :: q).take (0 + 1)) = f x.1 := by simp [sumf]
    rw [e0] at h0
    have h0 : now + f x.1 ≤ x.2 := h0
    rw [if_neg (by omega)]
    refine meets_of f q (now + f x.1) (fun j hj => ?_)
    have := h (j + 1) (by simpa using hj)
    rw [List.take_succ_cons, sumf_cons] at this
    have this : now + (f x.1 + sumf f (q.take (j + 1))) ≤ q[j].2 := this
    omega
/-- The order of the items is as good as any. -/
theorem optimal (f : Int → Int) (now : Int) (l : List Dq.It) (hf : ∀ x ∈ l, 0 ≤ f x.1) (h : (queue l).length = l.length) (hm : meets f now l = true) : meets f now (queue l) = true := by
  have hok := (queue_ok l).1
  have hmem := (queue_all h).2
  refine meets_of f _ now (fun j hj => ?_)
  have hnd : (queue l).Nodup := hok.ids.imp (fun {a b} hab e => hab (congrArg Prod.fst e))
  refine meets_bound f _ l now hf hm ((queue l).take (j + 1)) (fun e => ?_) (hnd.sublist (List.take_sublist _ _)) (fun y hy => (hmem y).1 (List.mem_of_mem_take hy)) (fun y hy => ?_)
  · have := congrArg List.length e
    rw [List.length_take, List.length_nil] at this
    omega
  · obtain ⟨i, hi, rfl⟩ := List.mem_iff_getElem.1 hy
    rw [List.length_take] at hi
    rw [List.getElem_take]
    by_cases e : i = j
    · subst e; exact Int.le_refl _
    · have hb := List.pairwise_iff_getElem.1 hok.sorted i j (by omega) hj (by omega)
      unfold Dq.bef at hb
      omega
theorem meets_filter (f : Int → Int) (p : Dq.It → Bool) : ∀ (q : List Dq.It) (now now' : Int), (∀ x ∈ q, 0 ≤ f x.1) → now' ≤ now → meets f now q = true → meets f now' (q.filter p) = true
  | [], _, _, _, _, _ => rfl
  | x :: q, now, now', hf, hn, hm => by
    unfold meets at hm
    by_cases hx : x.2 < now + f x.1
    · rw [if_pos hx] at hm; cases hm
    · rw [if_neg hx] at hm
      have hfx := hf x (List.mem_cons_self ..)
      have hft : ∀ y ∈ q, 0 ≤ f y.1 := fun y hy => hf y (List.mem_cons_of_mem _ hy)
      by_cases hp : p x = true
      · rw [List.filter_cons_of_pos hp]
        unfold meets
        rw [if_neg (by omega)]
        exact meets_filter f p q (now + f x.1) (now' + f x.1) hft (by omega) hm
      · rw [List.filter_cons_of_neg hp]
        exact meets_filter f p q (now + f x.1) now' hft (by omega) hm
theorem ok_nonneg {f : Int → Int} {x : Dq.It} (h : okJ f x = true) : 0 ≤ f x.1 := by
  unfold okJ vld at h
  simp only [Bool.and_eq_true, decide_eq_true_eq] at h
  exact h.2.1
theorem feas_ok {f : Int → Int} {now : Int} {l : List Dq.It} (h : (feas f now l).2 = 0) : l.all (okJ f) = true ∧ vld now = true ∧ (queue l).length = l.length ∧ meets f now (queue l) = true := by
  unfold feas at h
  by_cases hc : l.all (okJ f) = true ∧ vld now = true ∧ (queue l).length = l.length
  · rw [if_pos hc] at h
    refine ⟨hc.1, hc.2.1, hc.2.2, ?_⟩
    cases hm : meets f now (queue l)
    · rw [(runq_meets f _ now).2 hm] at h
      cases h
    · rfl
  · rw [if_neg hc] at h
    cases h
theorem feas_of {f : Int → Int} {now : Int} {l : List Dq.It} (h1 : l.all (okJ f) = true) (h2 : vld now = true) (h3 : (queue l).length = l.length) (h4 : meets f now (queue l) = true) : feas f now l = (0, 0) := by
  unfold feas
  rw [if_pos ⟨h1, h2, h3⟩]
  exact (runq_meets f _ now).1 h4
theorem feas_cases (f : Int → Int) (now : Int) (l : List Dq.It) : (feas f now l).2 = 0 ∨ (feas f now l).2 = 1 ∨ (feas f now l).2 = 14 := by
  unfold feas
  split
  · cases hm : meets f now (queue l)
    · exact .inr (.inr ((runq_meets f _ now).2 hm))
    · exact .inl (by rw [(runq_meets f _ now).1 hm])
  · exact .inr (.inl rfl)
theorem earlier {f : Int → Int} {now : Int} {l : List Dq.It} (hn : 1 ≤ now) (h : (feas f now l).2 = 0) : feas f (now - 1) l = (0, 0) := by
  obtain ⟨h1, h2, h3, h4⟩ := feas_ok h
  refine feas_of h1 ?_ h3 ?_
  · unfold vld at h2 ⊢
    simp only [decide_eq_true_eq] at h2 ⊢
    omega
  · have := meets_filter f (fun _ => true) (queue l) now (now - 1) (fun x hx => ok_nonneg (List.all_eq_true.1 h1 x (((queue_all h3).2 x).1 hx))) (by omega) h4
    rwa [List.filter_eq_self.2 (by simp)] at this
theorem fewer {f : Int → Int} {now : Int} {l : List Dq.It} {k : Nat} (hk : k < l.length) (h : (feas f now l).2 = 0) : feas f now (l.take k ++ l.drop (k + 1)) = (0, 0) := by
  obtain ⟨h1, h2, h3, h4⟩ := feas_ok h
  obtain ⟨hd, hm⟩ := queue_all h3
  have hok := (queue_ok l).1
  have hsp : l = l.take k ++ l[k] :: l.drop (k + 1) := by rw [← List.drop_eq_getElem_cons hk, List.take_append_drop]
  have hsub : ∀ y ∈ l.take k ++ l.drop (k + 1), y ∈ l := fun y hy => by
    rcases List.mem_append.1 hy with h | h
    · exact List.mem_of_mem_take h
    · exact List.mem_of_mem_drop h
  have hmem' : ∀ y, y ∈ l.take k ++ l.drop (k + 1) ↔ y ∈ l ∧ y.1 ≠ l[k].1 := fun y => by
    have hd' := hd
    rw [hsp] at hd'
    obtain ⟨_, hb, hc⟩ := List.pairwise_append.1 hd'
    have hb' := (List.pairwise_cons.1 hb).1
    constructor
    · intro hy
      refine ⟨hsub y hy, ?_⟩
      rcases List.mem_append.1 hy with h | h
      · exact hc y h l[k] (List.mem_cons_self ..)
      · exact (hb' y h).symm
    · rintro ⟨hy, hne⟩
      rw [hsp] at hy
      rcases List.mem_append.1 hy with h | h
      · exact List.mem_append.2 (.inl h)
      · rcases List.mem_cons.1 h with rfl | h
        · exact absurd rfl hne
        · exact List.mem_append.2 (.inr h)
  have hd2 : (l.take k ++ l.drop (k + 1)).Pairwise (fun a b => a.1 ≠ b.1) := by
    rw [hsp] at hd
    exact hd.sublist (List.Sublist.append_left (List.sublist_cons_self _ _) _)
  have hq : queue (l.take k ++ l.drop (k + 1)) = Dq.rm (queue l) l[k].1 := by
    refine Dq.sorted_unique (queue_ok _).1.sorted (hok.rm _).sorted (fun y => ?_)
    rw [Dq.rm_mem, hm y, ← hmem' y]
    refine ⟨queue_mem, fun hy => ?_⟩
    have := has_queue' hy
    obtain ⟨z, hz, he⟩ := this
    have hz' := queue_mem hz
    have : z = y := by
      apply Classical.byContradiction
      intro hne
      have h1 := hd2
      rcases List.mem_iff_getElem.1 hz' with ⟨i, hi, rfl⟩
      rcases List.mem_iff_getElem.1 hy with ⟨j, hj, rfl⟩
      rcases Nat.lt_trichotomy i j with hij | hij | hij
      · exact List.pairwise_iff_getElem.1 h1 i j hi hj hij he
      · subst hij; exact hne rfl
      · exact List.pairwise_iff_getElem.1 h1 j i hj hi hij he.symm
    exact this ▸ hz
  have hkm : l[k] ∈ queue l := (hm _).2 (List.getElem_mem hk)
  refine feas_of ?_ h2 ?_ ?_
  · rw [List.all_eq_true] at h1 ⊢
    exact fun x hx => h1 x (hsub x hx)
  · obtain ⟨i, hi, he⟩ := List.mem_iff_getElem.1 hkm
    rw [hq, Dq.rm_len_at hi hok (by rw [he]), h3, List.length_append, List.length_take, List.length_drop]
    omega
  · rw [hq]
    exact meets_filter f _ (queue l) now now (fun x hx => ok_nonneg (List.all_eq_true.1 h1 x ((hm x).1 hx))) (Int.le_refl _) h4
theorem late {f : Int → Int} {now : Int} {l : List Dq.It} (h : (feas f now l).2 = 14) : (∀ x ∈ l, okJ f x = true) ∧ vld now = true ∧ meets f now l = false := by
  unfold feas at h
  by_cases hc : l.all (okJ f) = true ∧ vld now = true ∧ (queue l).length = l.length
  · rw [if_pos hc] at h
    have hok := List.all_eq_true.1 hc.1
    refine ⟨hok, hc.2.1, ?_⟩
    cases hm : meets f now l
    · rfl
    · rw [(runq_meets f _ now).1 (optimal f now l (fun x hx => ok_nonneg (hok x hx)) hc.2.2 hm)] at h
      cases h
  · rw [if_neg hc] at h
    cases h
end Go.Proofs.Yteneigadnabolaa.QAl

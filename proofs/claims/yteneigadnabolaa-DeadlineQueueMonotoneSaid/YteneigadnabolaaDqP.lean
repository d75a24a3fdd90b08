/- The reference's list functions, over lists of pairs: what the printed functions come to. -/
import Derived.Test.YteneigadnabolaaExm
import Derived.Test.YteneigadnabolaaQAlx4
namespace Go.Proofs.Yteneigadnabolaa.QAl
open Go.RowKit Go.Proofs.YteneigadnabolaaW.PrintWords Go.Proofs.YteneigadnabolaaW.PrintLast Go.Proofs.YteneigadnabolaaW.PrintMore Go.Proofs.Yteneigadnabolaa.Sl
set_option linter.unusedVariables false
set_option linter.unusedSimpArgs false
def u36 (a : Dq.It) : S36 := ⟨a.1, a.2⟩
theorem rd36 (q : List Dq.It) (j : Nat) (h : j < q.length) : rd_T36 (q.map u36) (j : Int) = u36 q[j] := by
  unfold rd_T36
  rw [Int.toNat_natCast, List.getD_eq_getElem?_getD, List.getElem?_map, List.getElem?_eq_getElem h]
  rfl
theorem rd30 (q : List Dq.It) (j : Nat) (h : j < q.length) : rd_T30 (q.map un) (j : Int) = un q[j] := by
  unfold rd_T30
  rw [Int.toNat_natCast, List.getD_eq_getElem?_getD, List.getElem?_map, List.getElem?_eq_getElem h]
  rfl
theorem w64s {j : Nat} (h : j < 1000000) : wrap64 ((j : Int) + 1) = ((j + 1 : Nat) : Int) := by unfold wrap64; omega
theorem rm_cons (y : Dq.It) (l : List Dq.It) (id : Int) : Dq.rm (y :: l) id = if y.1 = id then Dq.rm l id else y :: Dq.rm l id := by
  unfold Dq.rm
  by_cases h : y.1 = id
  · rw [if_pos h, List.filter_cons_of_neg (by simp [h])]
  · rw [if_neg h, List.filter_cons_of_pos (by simpa using h)]
theorem drop_cons {q : List Dq.It} {j : Nat} (h : j < q.length) : q.drop j = q[j] :: q.drop (j + 1) := List.drop_eq_getElem_cons h
theorem rem_ev (q : List Dq.It) (id : Int) (l0 : List S36) (hq : q.length < 1000000) : ∀ (d j : Nat) (acc : List Dq.It), d + j = q.length → acc.length ≤ j →
    Ev (fun k => trickleref06_Remove.l0 k l0 id (acc.map u36) (q.map u36) (q.length : Int) (j : Int)) ((acc ++ Dq.rm (q.drop j) id).map u36, decide (((((acc ++ Dq.rm (q.drop j) id).map u36).length : Nat) : Int) < (l0.length : Int)))
  | 0, j, acc, hd, ha => by
    refine Ev.step (f := fun _ => some _) (fun k => ?_) (Ev.now _)
    rw [trickleref06_Remove.l0.eq_2, if_neg (by omega), List.drop_of_length_le (by omega)]
    simp [Dq.rm]
  | d + 1, j, acc, hd, ha => by
    have hj : j < q.length := by omega
    have e : q.drop j = q[j] :: q.drop (j + 1) := drop_cons hj
    rw [e, rm_cons]
    by_cases hid : q[j].1 = id
    · rw [if_pos hid]
      refine Ev.step (fun k => ?_) (rem_ev q id l0 hq d (j + 1) acc (by omega) (by omega))
      rw [trickleref06_Remove.l0.eq_2, if_pos (by omega), if_pos (by omega), if_pos (by rw [List.length_map]; omega), rd36 q j hj, if_pos (by exact hid), w64s (by omega)]
    · rw [if_neg hid]
      have ih := rem_ev q id l0 hq d (j + 1) (acc ++ [q[j]]) (by omega) (by simp; omega)
      rw [List.append_assoc] at ih
      refine Ev.step (fun k => ?_) ih
      rw [trickleref06_Remove.l0.eq_2, if_pos (by omega), if_pos (by omega), if_pos (by rw [List.length_map]; omega), rd36 q j hj, if_neg (by exact hid), if_pos (by rw [List.length_map]; omega), w64s (by omega), List.map_append]
      rfl
theorem has_iff (q : List Dq.It) (id : Int) : has q id = decide ((Dq.rm q id).length < q.length) := by
  induction q with
  | nil => rfl
  | cons y q ih =>
    rw [rm_cons]
    have h1 := rm_len q id
    by_cases h : y.1 = id
    · rw [if_pos h]
      have : has (y :: q) id = true := by unfold has; simp [h]
      rw [this, eq_comm, decide_eq_true_eq]
      simp
      omega
    · rw [if_neg h]
      have : has (y :: q) id = has q id := by unfold has; simp [h]
      rw [this, ih]
      simp
theorem refRemove_ev (q : List Dq.It) (id : Int) (hq : q.length < 1000000) : Ev (fun k => trickleref06_Remove.f k (q.map u36) id) ((Dq.rm q id).map u36, has q id) := by
  have h := rem_ev q id (q.map u36) hq q.length 0 [] (by omega) (by simp)
  rw [List.drop_zero, List.nil_append] at h
  have e : decide (((((Dq.rm q id).map u36).length : Nat) : Int) < (((q.map u36).length : Nat) : Int)) = has q id := by
    rw [has_iff, List.length_map, List.length_map, decide_eq_decide]
    omega
  rw [e] at h
  refine Ev.congr (fun k => ?_) h
  unfold trickleref06_Remove.f
  rw [List.length_map]
  rfl
theorem before_f (a b : Dq.It) : trickleref06_Before.f a.1 a.2 b.1 b.2 = some (decide (Dq.bef a b)) := by
  unfold trickleref06_Before.f
  by_cases h1 : a.2 < b.2
  · rw [if_pos h1, eq_comm, Option.some_inj, decide_eq_true_eq]
    exact .inl h1
  · rw [if_neg h1]
    by_cases h2 : a.2 = b.2
    · rw [if_pos h2, Option.some_inj, decide_eq_decide]
      exact ⟨fun h => .inr ⟨h2, h⟩, fun h => by unfold Dq.bef at h; omega⟩
    · rw [if_neg h2, Option.some_inj, eq_comm, decide_eq_false_iff_not]
      unfold Dq.bef
      omega
theorem push_ev (q : List Dq.It) (x : Dq.It) (hq : q.length < 1000000) : ∀ (d j : Nat) (acc : List Dq.It) (b : Bool), d + j = q.length → acc.length ≤ j + b.toNat →
    Ev (fun k => trickleref06_Push.l0 k (acc.map u36) b (q.map u36) (q.length : Int) (j : Int) x.1 x.2) ((acc ++ if b = true then q.drop j else Dq.ins x (q.drop j)).map u36)
  | 0, j, acc, b, hd, ha => by
    refine Ev.step (f := fun _ => some _) (fun k => ?_) (Ev.now _)
    rw [trickleref06_Push.l0.eq_2, if_neg (by omega), List.drop_of_length_le (by omega)]
    cases b
    · simp only [Bool.toNat_false] at ha
      rw [if_neg (by decide), if_pos (by rw [List.length_map]; omega), List.map_append]
      rfl
    · rw [if_pos rfl, if_pos rfl, List.append_nil]
  | d + 1, j, acc, b, hd, ha => by
    have hj : j < q.length := by omega
    have e : q.drop j = q[j] :: q.drop (j + 1) := drop_cons hj
    cases b
    · simp only [Bool.toNat_false] at ha
      rw [if_neg (by decide), e]
      unfold Dq.ins
      by_cases hb : Dq.bef x q[j]
      · rw [if_pos hb]
        have ih := push_ev q x hq d (j + 1) (acc ++ [x] ++ [q[j]]) true (by omega) (by simp only [Bool.toNat_true, List.length_append, List.length_singleton]; omega)
        rw [if_pos rfl, List.append_assoc, List.append_assoc] at ih
        refine Ev.step (fun k => ?_) ih
        have hbf := before_f x q[j]
        rw [trickleref06_Push.l0.eq_2, if_pos (by omega), if_pos (by omega), if_pos (by rw [List.length_map]; omega), if_neg (by decide), rd36 q j hj]
        rw [show trickleref06_Before.f x.1 x.2 (u36 q[j]).f0 (u36 q[j]).f1 = some (decide (Dq.bef x q[j])) from hbf, Option.bind_some, decide_eq_true hb, if_pos rfl, if_pos (by rw [List.length_map]; omega), Option.bind_some, if_pos (by rw [List.length_append, List.length_map, List.length_singleton]; omega), w64s (by omega), List.map_append, List.map_append, List.append_assoc]
        rfl
      · rw [if_neg hb]
        have ih := push_ev q x hq d (j + 1) (acc ++ [q[j]]) false (by omega) (by simp only [Bool.toNat_false, List.length_append, List.length_singleton]; omega)
        rw [if_neg (by decide), List.append_assoc] at ih
        refine Ev.step (fun k => ?_) ih
        have hbf := before_f x q[j]
        rw [trickleref06_Push.l0.eq_2, if_pos (by omega), if_pos (by omega), if_pos (by rw [List.length_map]; omega), if_neg (by decide), rd36 q j hj]
        rw [show trickleref06_Before.f x.1 x.2 (u36 q[j]).f0 (u36 q[j]).f1 = some (decide (Dq.bef x q[j])) from hbf, Option.bind_some, decide_eq_false hb, if_neg (by decide), if_pos (by rw [List.length_map]; omega), w64s (by omega), List.map_append]
        rfl
    · simp only [Bool.toNat_true] at ha
      rw [if_pos rfl, e]
      have ih := push_ev q x hq d (j + 1) (acc ++ [q[j]]) true (by omega) (by simp only [Bool.toNat_true, List.length_append, List.length_singleton] at *; omega)
      rw [if_pos rfl, List.append_assoc] at ih
      refine Ev.step (fun k => ?_) ih
      rw [trickleref06_Push.l0.eq_2, if_pos (by omega), if_pos (by omega), if_pos (by rw [List.length_map]; omega), if_pos rfl, rd36 q j hj, if_pos (by rw [List.length_map]; omega), w64s (by omega), List.map_append]
      rfl
theorem refPush_ev (q : List Dq.It) (x : Dq.It) (hq : q.length < 1000000) : Ev (fun k => trickleref06_Push.f k (q.map u36) x.1 x.2) ((Dq.push q x).map u36) := by
  have h := push_ev (Dq.rm q x.1) x (Nat.lt_of_le_of_lt (rm_len q x.1) hq) (Dq.rm q x.1).length 0 [] false (by omega) (by simp)
  rw [if_neg (by decide), List.drop_zero, List.nil_append] at h
  unfold trickleref06_Push.f
  refine Ev.bind (refRemove_ev q x.1 hq) ?_
  refine Ev.congr (fun k => ?_) h
  rw [List.length_map]
  rfl
theorem same_l (q : List Dq.It) (hq : q.length < 1000000) : ∀ (d j : Nat), d + j = q.length → Ev (fun k => trickleref06_Same.l0 k (q.map u36) (q.map u36) (q.length : Int) (j : Int)) true
  | 0, j, hd => by
    refine Ev.step (f := fun _ => some _) (fun k => ?_) (Ev.now _)
    rw [trickleref06_Same.l0.eq_2, if_neg (by omega)]
  | d + 1, j, hd => by
    have hj : j < q.length := by omega
    refine Ev.step (fun k => ?_) (same_l q hq d (j + 1) (by omega))
    rw [trickleref06_Same.l0.eq_2, if_pos (by omega), if_pos (by omega), if_pos (by rw [List.length_map]; omega), if_pos (by rw [List.length_map]; omega), if_neg (by simp), w64s (by omega)]
theorem refSame_ev (q : List Dq.It) (hq : q.length < 1000000) : Ev (fun k => trickleref06_Same.f k (q.map u36) (q.map u36)) true := by
  have h := same_l q hq q.length 0 (by omega)
  refine Ev.congr (fun k => ?_) h
  unfold trickleref06_Same.f
  rw [if_pos rfl, List.length_map]
  rfl
theorem items_l (q : List Dq.It) (hq : q.length < 1000000) : ∀ (d j : Nat), d + j = q.length → Ev (fun k => tricklelaw06_items.l0 k ((q.take j).map u36) (q.map un) (q.length : Int) (j : Int)) (q.map u36)
  | 0, j, hd => by
    refine Ev.step (f := fun _ => some _) (fun k => ?_) (Ev.now _)
    rw [tricklelaw06_items.l0.eq_2, if_neg (by omega), List.take_of_length_le (by omega)]
  | d + 1, j, hd => by
    have hj : j < q.length := by omega
    refine Ev.step (fun k => ?_) (items_l q hq d (j + 1) (by omega))
    rw [tricklelaw06_items.l0.eq_2, if_pos (by omega), if_pos (by omega), if_pos (by rw [List.length_map]; omega), if_pos (by rw [List.length_map, List.length_take]; omega), rd30 q j hj, w64s (by omega), List.take_succ_eq_append_getElem hj, List.map_append]
    rfl
theorem items_ev (q : List Dq.It) (hq : q.length < 1000000) : Ev (fun k => tricklelaw06_items.f k (q.map un)) (q.map u36) := by
  refine Ev.congr (fun k => ?_) (items_l q hq q.length 0 (by omega))
  unfold tricklelaw06_items.f
  rw [List.length_map]
  rfl
theorem back_l (q : List Dq.It) (hq : q.length < 1000000) : ∀ (d j : Nat), d + j = q.length → Ev (fun k => tricklelaw06_back.l0 k ((q.take j).map un) (q.map u36) (q.length : Int) (j : Int)) (q.map un)
  | 0, j, hd => by
    refine Ev.step (f := fun _ => some _) (fun k => ?_) (Ev.now _)
    rw [tricklelaw06_back.l0.eq_2, if_neg (by omega), List.take_of_length_le (by omega)]
  | d + 1, j, hd => by
    have hj : j < q.length := by omega
    refine Ev.step (fun k => ?_) (back_l q hq d (j + 1) (by omega))
    rw [tricklelaw06_back.l0.eq_2, if_pos (by omega), if_pos (by omega), if_pos (by rw [List.length_map]; omega), if_pos (by rw [List.length_map, List.length_take]; omega), rd36 q j hj, w64s (by omega), List.take_succ_eq_append_getElem hj, List.map_append]
    rfl
theorem back_ev (q : List Dq.It) (hq : q.length < 1000000) : Ev (fun k => tricklelaw06_back.f k (q.map u36)) (q.map un) := by
  refine Ev.congr (fun k => ?_) (back_l q hq q.length 0 (by omega))
  unfold tricklelaw06_back.f
  rw [List.length_map]
  rfl
theorem rm_ge {q : List Dq.It} (h : Dq.Ok q) (id : Int) : q.length ≤ (Dq.rm q id).length + 1 := by
  by_cases hx : ∀ y ∈ q, y.1 ≠ id
  · rw [Dq.rm_none hx]; omega
  · have ⟨y, hy, hid⟩ : ∃ y, y ∈ q ∧ y.1 = id := by
      apply Classical.byContradiction
      intro hc
      exact hx (fun y hy hid => hc ⟨y, hy, hid⟩)
    obtain ⟨i, hi, rfl⟩ := List.mem_iff_getElem.1 hy
    rw [Dq.rm_len_at hi h hid]
    omega
/-- Sorted: the queue of the items, false where an ID comes twice. -/
theorem sorted_l (l : List Dq.It) (hl : l.length < 1000000) : ∀ (d j : Nat) (q : List Dq.It), Dq.Ok q → d + j = l.length → q.length = j → (∃ b, Ev (fun k => trickleref06_Sorted.l0 k (q.map u36) (l.map u36) (l.length : Int) (j : Int)) b ∧
      ((b = (((l.drop j).foldl Dq.push q).map u36, true) ∧ ((l.drop j).foldl Dq.push q).length = l.length) ∨ (b = ([], false) ∧ ((l.drop j).foldl Dq.push q).length ≠ l.length)))
  | 0, j, q, hok, hd, hq => by
    refine ⟨(q.map u36, true), Ev.step (f := fun _ => some _) (fun k => ?_) (Ev.now _), .inl ?_⟩
    · rw [trickleref06_Sorted.l0.eq_2, if_neg (by omega)]
    · rw [List.drop_of_length_le (by omega)]
      exact ⟨rfl, by simp only [List.foldl_nil]; omega⟩
  | d + 1, j, q, hok, hd, hq => by
    have hj : j < l.length := by omega
    have e : l.drop j = l[j] :: l.drop (j + 1) := drop_cons hj
    have hp := push_len q l[j]
    have hpe := refPush_ev q l[j] (by omega)
    rw [e, List.foldl_cons]
    have hround : ∀ k, trickleref06_Sorted.l0 (k + 1) (q.map u36) (l.map u36) (l.length : Int) (j : Int) = (trickleref06_Push.f k (q.map u36) l[j].1 l[j].2).bind fun t => if (t.length : Int) = ((q.map u36).length : Int) then some ([], false) else trickleref06_Sorted.l0 k t (l.map u36) (l.length : Int) ((j + 1 : Nat) : Int) := fun k => by
      rw [trickleref06_Sorted.l0.eq_2, if_pos (by omega), if_pos (by omega), if_pos (by rw [List.length_map]; omega), rd36 l j hj, w64s (by omega)]
      rfl
    by_cases hn : (Dq.push q l[j]).length = q.length
    · refine ⟨([], false), Ev.step hround (Ev.bind hpe (Ev.congr (fun k => ?_) (Ev.now _))), .inr ⟨rfl, ?_⟩⟩
      · rw [if_pos (by rw [List.length_map, List.length_map, hn])]
      · intro h
        have h1 : ∀ (m r : List Dq.It), (m.foldl Dq.push r).length ≤ r.length + m.length := by
          intro m
          induction m with
          | nil => intro r; exact Nat.le_refl _
          | cons y m ih =>
            intro r
            have a := ih (Dq.push r y)
            have b := push_len r y
            rw [List.foldl_cons, List.length_cons]
            omega
        have := h1 (l.drop (j + 1)) (Dq.push q l[j])
        rw [List.length_drop] at this
        omega
    · have hn' : (Dq.push q l[j]).length = j + 1 := by
        have : q.length ≤ (Dq.push q l[j]).length := by
          unfold Dq.push at hn ⊢
          rw [Dq.ins_len] at hn ⊢
          exact rm_ge hok _
        omega
      obtain ⟨b, hb, hs⟩ := sorted_l l hl d (j + 1) (Dq.push q l[j]) (hok.push _) (by omega) hn'
      refine ⟨b, Ev.step hround (Ev.bind hpe (Ev.congr (fun k => ?_) hb)), hs⟩
      rw [if_neg (by rw [List.length_map, List.length_map]; omega)]
theorem sorted_ev (l : List Dq.It) (hl : l.length < 1000000) : ∃ b, Ev (fun k => trickleref06_Sorted.f k (l.map u36)) b ∧
    ((b = ((queue l).map u36, true) ∧ (queue l).length = l.length) ∨ (b = ([], false) ∧ (queue l).length ≠ l.length)) := by
  obtain ⟨b, h, hs⟩ := sorted_l l hl l.length 0 [] Dq.Ok.nil (by omega) rfl
  rw [List.drop_zero] at hs
  refine ⟨b, Ev.congr (fun k => ?_) h, hs⟩
  unfold trickleref06_Sorted.f
  rw [List.length_map]
  rfl
end Go.Proofs.Yteneigadnabolaa.QAl

/- TimerFireAll, over lists alone: what firing each due task does. -/
import Derived.Test.YtjdpogkddoaioaaReady
namespace Go.Proofs.Ytjdpogkddoaioaa.QWh
open Go.RowKit Go.Proofs.YtjdpogkddoaioaaW.PrintWords Go.Proofs.YtjdpogkddoaioaaW.PrintLast Go.Proofs.YtjdpogkddoaioaaW.PrintMore Go.Proofs.Ytjdpogkddoaioaa.Sl
set_option linter.unusedVariables false
set_option linter.unusedSimpArgs false

/-! ## The sort keeps the elements -/
theorem swap_perm : ∀ (xs : List Int) (j : Nat), j + 1 < xs.length → ((xs.set (j + 1) (xs.getD j 0)).set j (xs.getD (j + 1) 0)).Perm xs
  | [], j, h => by simp at h
  | a :: xs, 0, h => by
    match xs, h with
    | b :: t, _ => exact List.Perm.swap a b t
  | a :: xs, j + 1, h => by
    have := swap_perm xs j (by simpa using h)
    exact this.cons a
theorem insJ_perm (cf : Int → Int → Int) : ∀ (j : Nat) (xs : List Int), j < xs.length → (insJ cf xs j).Perm xs
  | 0, xs, _ => List.Perm.refl _
  | j + 1, xs, hj => by
    unfold insJ
    split
    · exact (insJ_perm cf j _ (by simp; omega)).trans (swap_perm xs j hj)
    · exact List.Perm.refl _
theorem srt_perm (cf : Int → Int → Int) (xs : List Int) : ∀ i, i ≤ xs.length → (srt cf xs i).Perm xs
  | 0, _ => List.Perm.refl _
  | i + 1, hi => (insJ_perm cf i _ (by rw [srt_len]; omega)).trans (srt_perm cf xs i (by omega))
theorem due_nodup (ps ns : List Int) (lo : Int) : ∀ j, (dueW ps ns lo j).Nodup
  | 0 => List.nodup_nil
  | j + 1 => by
    unfold dueW
    split
    · refine List.nodup_append.mpr ⟨due_nodup ps ns lo j, by simp, ?_⟩
      intro a ha b hb
      rw [List.mem_singleton] at hb
      have := due_in ps ns lo j a ha
      omega
    · exact due_nodup ps ns lo j
theorem due_mem (ps ns : List Int) (lo : Int) : ∀ j (i : Nat), (i : Int) ∈ dueW ps ns lo j ↔ i < j ∧ ps.getD i 0 ≠ 0 ∧ ns.getD i 0 ≤ lo
  | 0, i => by simp [dueW]
  | j + 1, i => by
    have ih := due_mem ps ns lo j i
    unfold dueW
    split
    · rename_i h
      rw [List.mem_append, List.mem_singleton, ih]
      constructor
      · rintro (⟨h1, h2⟩ | h1)
        · exact ⟨by omega, h2⟩
        · have : i = j := by omega
          subst this; exact ⟨by omega, h⟩
      · rintro ⟨h1, h2⟩
        by_cases e : i = j
        · exact .inr (by omega)
        · exact .inl ⟨by omega, h2⟩
    · rename_i h
      rw [ih]
      constructor
      · rintro ⟨h1, h2⟩; exact ⟨by omega, h2⟩
      · rintro ⟨h1, h2⟩
        refine ⟨?_, h2⟩
        by_cases e : i = j
        · subst e; exact absurd h2 h
        · omega

/-! ## What Fire does to a due release -/
def advAt (n p lo : Int) : Int := n + ((lo - n) / p + 1) * p
theorem advAt_gt {n p lo : Int} (hp : 1 ≤ p) (hn : n ≤ lo) : lo < advAt n p lo ∧ advAt n p lo ≤ lo + p ∧ n ≤ advAt n p lo := by
  unfold advAt
  have h1 := Int.emod_add_mul_ediv (lo - n) p
  have h2 := Int.emod_nonneg (lo - n) (show p ≠ 0 by omega)
  have h3 := Int.emod_lt_of_pos (lo - n) (show 0 < p by omega)
  have h4 : ((lo - n) / p + 1) * p = p * ((lo - n) / p) + p := by grind
  rw [h4]
  generalize p * ((lo - n) / p) = q at *
  omega
theorem adv_f {n p lo hi : Int} (hn : 0 ≤ n) (hp1 : 1 ≤ p) (hp2 : p ≤ 32767) (hi' : okI lo hi) (hnl : n ≤ lo) : timer_Advance.f 2 n p lo hi = some (advAt n p lo, (lo - n) / p, 0) := by
  have hg := advAt_gt hp1 hnl
  unfold okI at hi'
  have hd0 : 0 ≤ (lo - n) / p := Int.ediv_nonneg (by omega) (by omega)
  have hd1 : (lo - n) / p ≤ lo - n := Int.ediv_le_self _ (by omega)
  have hw : ∀ a : Int, -9223372036854775808 ≤ a → a ≤ 9223372036854775807 → wrap64 a = a := by intro a h1 h2; unfold wrap64; omega
  have hm : ((lo - n) / p + 1) * p = advAt n p lo - n := by unfold advAt; omega
  unfold timer_Advance.f
  rw [release_f, decide_eq_true ⟨hn, by omega⟩, Option.bind_some, if_pos rfl]
  unfold timer_period.f
  rw [if_pos (by omega), decide_eq_true hp2, Option.bind_some, if_pos rfl, valid_f, decide_eq_true (show okI lo hi from hi'), Option.bind_some, timer_Advance.j0.eq_2, if_neg (by decide), due_f, decide_eq_true hnl, Option.bind_some, if_pos rfl, if_neg (by omega)]
  rw [hw (lo - n) (by omega) (by omega), Int.tdiv_eq_ediv_of_nonneg (by omega), hw ((lo - n) / p) (by omega) (by omega), hw ((lo - n) / p + 1) (by omega) (by omega), hm, hw (advAt n p lo - n) (by omega) (by omega), show n + (advAt n p lo - n) = advAt n p lo by omega, hw (advAt n p lo) (by omega) (by omega)]

/-! ## Firing all that is due -/
/-- What holds when the tasks of a list have been fired. -/
structure Fired (ps ns0 : List Int) (lo : Int) (done : List Int) (ns : List Int) : Prop where
  len : ns.length = ps.length
  ok : ∀ i, i < ps.length → okR (ps.getD i 0) (ns.getD i 0)
  late : ∀ i : Nat, i < ps.length → (i : Int) ∈ done → lo < ns.getD i 0
  same : ∀ i : Nat, i < ps.length → (i : Int) ∉ done → ns.getD i 0 = ns0.getD i 0
theorem getD_set {l : List Int} {i j : Nat} {v : Int} (hj : j < l.length) : (l.set j v).getD i 0 = if i = j then v else l.getD i 0 := by
  rw [List.getD_eq_getElem?_getD, List.getD_eq_getElem?_getD, List.getElem?_set]
  by_cases h : j = i
  · subst h; rw [if_pos rfl, if_pos hj, if_pos rfl]; rfl
  · rw [if_neg h, if_neg (fun e => h e.symm)]
theorem Fired.step {ps ns0 ns done : List Int} {lo : Int} {j : Nat} (h : Fired ps ns0 lo done ns) (hp : ∀ p ∈ ps, okP p) (hlo : 0 ≤ lo) (hlo2 : lo ≤ 1099511627776) (hj : j < ps.length) (hpj : ps.getD j 0 ≠ 0) (hd : ns.getD j 0 ≤ lo) :
    Fired ps ns0 lo (done ++ [(j : Int)]) (ns.set j (advAt (ns.getD j 0) (ps.getD j 0) lo)) := by
  have hpp : 1 ≤ ps.getD j 0 ∧ ps.getD j 0 ≤ 32767 := (hp _ (getD_mem hj)).resolve_left hpj
  have hg := advAt_gt hpp.1 hd
  have hok := h.ok j hj
  have hjn : j < ns.length := by rw [h.len]; exact hj
  unfold okR at hok
  refine ⟨by rw [List.length_set]; exact h.len, fun i hi => ?_, fun i hi hm => ?_, fun i hi hm => ?_⟩
  · rw [getD_set hjn]
    by_cases e : i = j
    · subst e; rw [if_pos rfl]; unfold okR; exact ⟨fun h => hpj h.1, by omega, by omega⟩
    · rw [if_neg e]; exact h.ok i hi
  · rw [getD_set hjn]
    by_cases e : i = j
    · rw [if_pos e]; exact hg.1
    · rw [if_neg e]
      rcases List.mem_append.mp hm with hm | hm
      · exact h.late i hi hm
      · rw [List.mem_singleton] at hm; exact absurd (by omega) e
  · rw [getD_set hjn, if_neg (fun e => hm (List.mem_append.mpr (.inr (by rw [e]; exact List.mem_singleton.mpr rfl))))]
    exact h.same i hi (fun hx => hm (List.mem_append.mpr (.inl hx)))
/-- Behind all of them nothing is due. -/
theorem Fired.none {ps ns0 ns : List Int} {lo : Int} (h : Fired ps ns0 lo (readyW ps ns0 lo) ns) : readyW ps ns lo = [] := by
  have hd : dueW ps ns lo ps.length = [] := by
    apply List.eq_nil_iff_forall_not_mem.mpr
    intro x hx
    have hr := due_in ps ns lo ps.length x hx
    obtain ⟨i, rfl⟩ := Int.eq_ofNat_of_zero_le hr.1
    obtain ⟨h1, h2, h3⟩ := (due_mem ps ns lo ps.length i).mp hx
    by_cases hm : (i : Int) ∈ readyW ps ns0 lo
    · have := h.late i h1 hm; omega
    · have e := h.same i h1 hm
      apply hm
      unfold readyW
      rw [(srt_perm (cfR ns0) _ _ (Nat.le_refl _)).mem_iff]
      exact (due_mem ps ns0 lo ps.length i).mpr ⟨h1, h2, by rw [← e]; exact h3⟩
  unfold readyW
  rw [hd]; rfl
theorem ready_at {ps ns0 : List Int} {lo : Int} {q : Nat} (hq : q < (readyW ps ns0 lo).length) : ∃ j : Nat, (readyW ps ns0 lo).getD q 0 = (j : Int) ∧ j < ps.length ∧ ps.getD j 0 ≠ 0 ∧ ns0.getD j 0 ≤ lo ∧ (j : Int) ∉ (readyW ps ns0 lo).take q := by
  have hp := srt_perm (cfR ns0) (dueW ps ns0 lo ps.length) _ (Nat.le_refl _)
  have hm := getD_mem hq
  have hm' := (hp.mem_iff).mp hm
  have hr := due_in ps ns0 lo ps.length _ hm'
  obtain ⟨j, hj⟩ := Int.eq_ofNat_of_zero_le hr.1
  rw [hj] at hm' hr
  obtain ⟨h1, h2, h3⟩ := (due_mem ps ns0 lo ps.length j).mp hm'
  refine ⟨j, hj, h1, h2, h3, fun hx => ?_⟩
  have hnd : (readyW ps ns0 lo).Nodup := (hp.nodup_iff).mpr (due_nodup ps ns0 lo ps.length)
  rw [← hj, List.getD_eq_getElem?_getD, List.getElem?_eq_getElem hq] at hx
  obtain ⟨i, hi, e⟩ := List.getElem_of_mem hx
  rw [List.getElem_take] at e
  rw [List.length_take] at hi
  have := (List.getElem_inj hnd).mp e
  omega
end Go.Proofs.Ytjdpogkddoaioaa.QWh

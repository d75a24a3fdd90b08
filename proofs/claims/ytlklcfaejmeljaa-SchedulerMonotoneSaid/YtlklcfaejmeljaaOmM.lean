/- SchedulerMonotone, over lists alone. -/
import Derived.Test.YtlklcfaejmeljaaOmC
namespace Go.Proofs.Ytlklcfaejmeljaa.QOm
open Go.RowKit Go.Proofs.YtlklcfaejmeljaaW.PrintWords Go.Proofs.YtlklcfaejmeljaaW.PrintLast Go.Proofs.YtlklcfaejmeljaaW.PrintMore Go.Proofs.Ytlklcfaejmeljaa.Srt Go.Proofs.Ytlklcfaejmeljaa.St
set_option linter.unusedVariables false
set_option linter.unusedSimpArgs false

/-- Job y can be paid. -/
def Aff (l : List S58) (en : Int) (y : Nat) : Prop := en < 0 ∨ (jm (l.getD y z58)).f3 ≤ en
theorem getl {l : List S58} {j : Nat} (h : j < l.length) : l.getD j z58 = l[j] := by rw [List.getD_eq_getElem?_getD, List.getElem?_eq_getElem h, Option.getD_some]
abbrev Rl (l : List S58) (x y : Nat) : Prop := R (lt_ (ordC (l.map jm))) (x : Int) (y : Int)
theorem Rl.trans {l : List S58} {x y z : Nat} (h1 : Rl l x y) (h2 : Rl l y z) : Rl l x z := R.trans (ord_swo _) h1 h2
def bestI : Option Nat → Int
  | none => -1
  | some b => (b : Int)
/-- The best job below j. -/
def Best (l : List S58) (en : Int) : Option Nat → Nat → Prop
  | none, j => ∀ y, y < j → ¬ Aff l en y
  | some i, j => i < j ∧ Aff l en i ∧ ∀ y, y < j → Aff l en y → y ≠ i → Rl l i y
theorem compare_ev {α : Type} (a b : S54) {f : Nat → Int → Option α} {r : α} (h : Ev (fun k => f k (ordJ a b)) r) : Ev (fun k => (scheduler_compare.f k a.f0 a.f1 a.f2 a.f3 b.f0 b.f1 b.f2 b.f3).bind (f k)) r := by
  refine Ev.bind (a := ordJ a b) ⟨4, fun k hk => ?_⟩ h
  obtain ⟨m, rfl⟩ : ∃ m, k = m + 4 := ⟨k - 4, by omega⟩
  exact ord_compare a b m
theorem select_loop (l : List S58) (en : Int) (hl : l.length ≤ 40) : ∀ (n j : Nat) (b : Option Nat), l.length - j ≤ n → j ≤ l.length → Best l en b j →
    ∃ b', Best l en b' l.length ∧ Ev (fun k => scheduler_Select.l0 k (l.map jm) en (bestI b) (l.map jm) (l.length : Int) (j : Int)) (mx (bestI b') 0, decide (bestI b' ≥ 0)) := by
  have stop : ∀ (b : Option Nat), Ev (fun k => scheduler_Select.l0 k (l.map jm) en (bestI b) (l.map jm) (l.length : Int) (l.length : Int)) (mx (bestI b) 0, decide (bestI b ≥ 0)) := by
    intro b
    refine Ev.step (f := fun _ => some _) (fun k => ?_) (Ev.now _)
    rw [scheduler_Select.l0.eq_2, if_neg (by omega)]
  intro n
  induction n with
  | zero =>
    intro j b h1 h2 hb
    obtain rfl : j = l.length := by omega
    exact ⟨b, hb, stop b⟩
  | succ n ih =>
    intro j b h1 h2 hb
    by_cases hj : j < l.length
    · have lm : ((l.map jm).length : Int) = (l.length : Int) := by simp
      by_cases ha : Aff l en j
      · have ha' : en < 0 ∨ (jm l[j]).f3 ≤ en := by unfold Aff at ha; rwa [getl hj] at ha
        cases b with
        | none =>
          obtain ⟨b', hb', e1⟩ := ih (j + 1) (some j) (by omega) (by omega) ⟨by omega, ha, fun y hy hya hne => absurd hya (hb y (by omega))⟩
          refine ⟨b', hb', Ev.step (fun k => ?_) e1⟩
          rw [scheduler_Select.l0.eq_2, if_pos (by omega), if_pos (by omega), if_pos (by rw [lm]; omega), nat_wrap hj (by omega), rd54 hj]
          by_cases hn : en < 0
          · rw [if_pos hn, if_pos (show bestI none < 0 by decide)]; rfl
          · rw [if_neg hn, if_pos (show (jm l[j]).f3 ≤ en from ha'.resolve_left hn), if_pos (show bestI none < 0 by decide)]; rfl
        | some b =>
          have hbl : b < l.length := by have := hb.1; omega
          have b0 : ¬ bestI (some b) < 0 := by show ¬ (b : Int) < 0; omega
          have b1 : 0 ≤ bestI (some b) := by show 0 ≤ (b : Int); omega
          have b2 : bestI (some b) < (l.length : Int) := by show (b : Int) < _; omega
          have r54 : rd_T54 (l.map jm) (bestI (some b)) = jm l[b] := rd54 hbl
          have hcj := ordC_at (l := l) hj hbl
          by_cases hp : ordJ (jm l[j]) (jm l[b]) < 0
          · have hjb : Rl l j b := .inl (by unfold lt_; rw [hcj]; exact hp)
            obtain ⟨b', hb', e1⟩ := ih (j + 1) (some j) (by omega) (by omega) ⟨by omega, ha, fun y hy hya hne => by
              by_cases e : y = b
              · rw [e]; exact hjb
              · exact hjb.trans (hb.2.2 y (by omega) hya e)⟩
            refine ⟨b', hb', Ev.step (f := fun k => (scheduler_compare.f k (jm l[j]).f0 (jm l[j]).f1 (jm l[j]).f2 (jm l[j]).f3 (jm l[b]).f0 (jm l[b]).f1 (jm l[b]).f2 (jm l[b]).f3).bind fun t => if t < 0 then scheduler_Select.l0 k (l.map jm) en (j : Int) (l.map jm) (l.length : Int) ((j + 1 : Nat) : Int) else scheduler_Select.l0 k (l.map jm) en (bestI (some b)) (l.map jm) (l.length : Int) ((j + 1 : Nat) : Int)) (fun k => ?_) ?_⟩
            · rw [scheduler_Select.l0.eq_2, if_pos (by omega), if_pos (by omega), if_pos (by rw [lm]; omega), nat_wrap hj (by omega), rd54 hj, r54, lm]
              by_cases hn : en < 0
              · rw [if_pos hn, if_neg b0, if_pos b1, if_pos b2]
              · rw [if_neg hn, if_pos (show (jm l[j]).f3 ≤ en from ha'.resolve_left hn), if_neg b0, if_pos b1, if_pos b2]
            · refine compare_ev (f := fun k t => if t < 0 then scheduler_Select.l0 k (l.map jm) en (j : Int) (l.map jm) (l.length : Int) ((j + 1 : Nat) : Int) else scheduler_Select.l0 k (l.map jm) en (bestI (some b)) (l.map jm) (l.length : Int) ((j + 1 : Nat) : Int)) _ _ (Ev.congr (fun k => ?_) e1)
              show (if _ then _ else _) = _
              rw [if_pos hp]; rfl
          · have hbj : Rl l b j := .inr ⟨by unfold lt_; rw [hcj]; exact hp, by have := hb.1; omega⟩
            obtain ⟨b', hb', e1⟩ := ih (j + 1) (some b) (by omega) (by omega) ⟨by have := hb.1; omega, hb.2.1, fun y hy hya hne => by
              by_cases e : y = j
              · rw [e]; exact hbj
              · exact hb.2.2 y (by omega) hya hne⟩
            refine ⟨b', hb', Ev.step (f := fun k => (scheduler_compare.f k (jm l[j]).f0 (jm l[j]).f1 (jm l[j]).f2 (jm l[j]).f3 (jm l[b]).f0 (jm l[b]).f1 (jm l[b]).f2 (jm l[b]).f3).bind fun t => if t < 0 then scheduler_Select.l0 k (l.map jm) en (j : Int) (l.map jm) (l.length : Int) ((j + 1 : Nat) : Int) else scheduler_Select.l0 k (l.map jm) en (bestI (some b)) (l.map jm) (l.length : Int) ((j + 1 : Nat) : Int)) (fun k => ?_) ?_⟩
            · rw [scheduler_Select.l0.eq_2, if_pos (by omega), if_pos (by omega), if_pos (by rw [lm]; omega), nat_wrap hj (by omega), rd54 hj, r54, lm]
              by_cases hn : en < 0
              · rw [if_pos hn, if_neg b0, if_pos b1, if_pos b2]
              · rw [if_neg hn, if_pos (show (jm l[j]).f3 ≤ en from ha'.resolve_left hn), if_neg b0, if_pos b1, if_pos b2]
            · refine compare_ev (f := fun k t => if t < 0 then scheduler_Select.l0 k (l.map jm) en (j : Int) (l.map jm) (l.length : Int) ((j + 1 : Nat) : Int) else scheduler_Select.l0 k (l.map jm) en (bestI (some b)) (l.map jm) (l.length : Int) ((j + 1 : Nat) : Int)) _ _ (Ev.congr (fun k => ?_) e1)
              show (if _ then _ else _) = _
              rw [if_neg hp]
      · have ha' : ¬ (en < 0 ∨ (jm l[j]).f3 ≤ en) := by unfold Aff at ha; rwa [getl hj] at ha
        have hn : ¬ en < 0 := fun h => ha' (.inl h)
        have hm : ¬ (jm l[j]).f3 ≤ en := fun h => ha' (.inr h)
        have hb2 : Best l en b (j + 1) := by
          cases b with
          | none =>
            intro y hy
            by_cases e : y = j
            · rw [e]; exact ha
            · exact hb y (by omega)
          | some b =>
            refine ⟨by have := hb.1; omega, hb.2.1, fun y hy hya hne => ?_⟩
            by_cases e : y = j
            · rw [e] at hya; exact absurd hya ha
            · exact hb.2.2 y (by omega) hya hne
        obtain ⟨b', hb', e1⟩ := ih (j + 1) b (by omega) (by omega) hb2
        refine ⟨b', hb', Ev.step (fun k => ?_) e1⟩
        rw [scheduler_Select.l0.eq_2, if_pos (by omega), if_pos (by omega), if_pos (by rw [lm]; omega), nat_wrap hj (by omega), rd54 hj, if_neg hn, if_neg hm]
    · obtain rfl : j = l.length := by omega
      exact ⟨b, hb, stop b⟩
def selR : Option Nat → Int × Bool
  | none => (0, false)
  | some i => ((i : Int), true)
theorem s1 (i : Nat) : (selR (some i)).1 = (i : Int) := rfl
theorem s2 (i : Nat) : (selR (some i)).2 = true := rfl
theorem s3 : (selR none).1 = 0 := rfl
theorem s4 : (selR none).2 = false := rfl
theorem select_ev (l : List S58) (en : Int) (hl : l.length ≤ 40) : ∃ b, Best l en b l.length ∧ Ev (fun k => scheduler_Select.f k (l.map jm) en) (selR b) := by
  obtain ⟨b, hb, e⟩ := select_loop l en hl l.length 0 none (by omega) (by omega) (fun y hy => absurd hy (by omega))
  refine ⟨b, hb, ?_⟩
  have : (mx (bestI b) 0, decide (bestI b ≥ 0)) = selR b := by
    cases b with
    | none => rfl
    | some i =>
      show (mx (i : Int) 0, decide ((i : Int) ≥ 0)) = ((i : Int), true)
      unfold mx
      rw [if_neg (by omega), decide_eq_true (by omega)]
  rw [← this]
  unfold scheduler_Select.f
  rw [List.length_map]
  exact e
theorem head_first {l : List S58} (hl : 0 < l.length) {i : Nat} (hb : Best l (-1) (some i) l.length) : (ordW (l.map jm)).getD 0 0 = (i : Int) := by
  have ho := ordW_ord (l.map jm)
  have hm := ordW_mem (l.map jm)
  have hlen := ordW_len (l.map jm)
  rw [List.length_map] at hlen
  cases hc : ordW (l.map jm) with
  | nil => rw [hc] at hlen; simp at hlen; omega
  | cons h t =>
    rw [hc] at ho hm
    rw [List.pairwise_cons] at ho
    show h = _
    have h1 := (hm h).1 (by simp)
    rw [List.length_map] at h1
    obtain ⟨p, rfl⟩ := Int.eq_ofNat_of_zero_le h1.1
    by_cases e : p = i
    · rw [e]
    · have hpi : Rl l i p := hb.2.2 p (by omega) (.inl (by decide)) e
      have hi : (i : Int) ∈ (p : Int) :: t := (hm _).2 ⟨by omega, by have := hb.1; rw [List.length_map]; omega⟩
      rcases List.mem_cons.1 hi with e2 | e2
      · exact absurd (by omega) e
      · exact (R.irrefl (ord_swo _) (R.trans (ord_swo _) (ho.1 _ e2) hpi)).elim
theorem j0_ev (l : List S58) (hl : l.length ≤ 40) : Ev (fun k => tricklelaw40_SchedulerMonotone.j0 k l (l.map jm) false) true := by
  refine Ev.step (f := fun k => (scheduler_Select.f k (l.map jm) (-1)).bind fun bt253 => (if (l.length : Int) = 0 then (if bt253.2 = true then (some false) else (some (((ordW (l.map jm)).length : Int) == 0))) else (if bt253.2 = true then (if ((ordW (l.map jm)).length : Int) = (l.length : Int) then (if 0 < ((ordW (l.map jm)).length : Int) then (some ((rd (ordW (l.map jm)) 0) == bt253.1)) else (none)) else (some false)) else (some false)))) (fun k => ?_) ?_
  · rw [tricklelaw40_SchedulerMonotone.j0.eq_2, if_neg (by decide), order_f l hl, Option.bind_some]
  · obtain ⟨b, hb, e⟩ := select_ev l (-1) hl
    refine Ev.bind e ?_
    have hlen := ordW_len (l.map jm)
    rw [List.length_map] at hlen
    cases b with
    | none =>
      have h0 : l.length = 0 := by
        rcases Nat.eq_zero_or_pos l.length with h | h
        · exact h
        · exact absurd (.inl (by decide)) (hb 0 h)
      refine Ev.congr (fun k => ?_) (Ev.now true)
      rw [if_pos (by omega), if_neg (by decide), hlen, h0]; rfl
    | some i =>
      have h0 : 0 < l.length := by have := hb.1; omega
      refine Ev.congr (fun k => ?_) (Ev.now true)
      have := head_first h0 hb
      rw [s1, s2, if_neg (by omega), if_pos rfl, if_pos (by omega), if_pos (by omega), show rd (ordW (l.map jm)) 0 = (ordW (l.map jm)).getD 0 0 from rfl, this]
      simp
theorem SchedulerMonotone (l : List S58) (en more : Int) (h1 : 0 ≤ en ∧ en ≤ 65535) (h2 : 0 ≤ more ∧ more ≤ 65535) : ∃ k, tricklelaw40_SchedulerMonotone.f k l en more = some true := by
  apply Ev.rounds
  unfold tricklelaw40_SchedulerMonotone.f
  refine Ev.bind awake_ev ?_
  by_cases h : (l.length : Int) > 40
  · exact Ev.congr (fun k => by rw [if_pos rfl, if_pos h]) (Ev.now true)
  · have hl : l.length ≤ 40 := by omega
    refine Ev.congr (fun k => by rw [if_pos rfl, if_neg h]) ?_
    refine Ev.bind (jobs_ev l (by omega)) ?_
    have w1 : wrap64 en = en := by unfold wrap64; omega
    have w2 : wrap64 more = more := by unfold wrap64; omega
    have w3 : wrap64 (en + more) = en + more := by unfold wrap64; omega
    rw [w1, w2, w3]
    obtain ⟨b, hb, e1⟩ := select_ev l en hl
    obtain ⟨b', hb', e2⟩ := select_ev l (en + more) hl
    refine Ev.bind e1 (Ev.bind e2 ?_)
    have key := j0_ev l hl
    cases b with
    | none =>
      refine Ev.congr (fun k => ?_) key
      rw [if_neg (show ¬ (selR none).1 < 0 by decide)]
      cases b' with
      | none => rw [if_neg (show ¬ (selR none).1 < 0 by decide), if_neg (show ¬ (selR none).2 = true by decide)]
      | some i' => rw [s1, if_neg (show ¬ (i' : Int) < 0 by omega), if_neg (show ¬ (selR none).2 = true by decide)]
    | some i =>
      have hi := hb.1
      have hin : Aff l (en + more) i := by
        have := hb.2.1
        unfold Aff at this ⊢
        rcases this with h | h
        · omega
        · right; omega
      cases b' with
      | none => exact absurd hin (hb' i hi)
      | some i' =>
        have hi' := hb'.1
        refine Ev.congr (fun k => ?_) key
        rw [s1, s1, s2, s2, if_neg (show ¬ (i : Int) < 0 by omega), if_neg (show ¬ (i' : Int) < 0 by omega), if_pos rfl, if_pos rfl, if_neg (show ¬ (i : Int) ≥ (l.length : Int) by omega), if_neg (show ¬ (i' : Int) ≥ (l.length : Int) by omega), if_pos (show 0 ≤ (i : Int) by omega), if_pos (show (i : Int) < (l.length : Int) by omega), if_pos (show 0 ≤ (i' : Int) by omega), if_pos (show (i' : Int) < (l.length : Int) by omega)]
        have r1 : rd_T58 l (i : Int) = l[i] := rd58 hi
        have r2 : rd_T58 l (i' : Int) = l[i'] := rd58 hi'
        rw [r1, r2, prec_f, Option.bind_some]
        have hp : pre l[i] l[i'] = false := by
          cases hb2 : pre l[i] l[i']
          · rfl
          · have hc := (pre_at hi hi').1 hb2
            by_cases e : i = i'
            · subst e
              exact absurd hc (fun h => (ord_swo (l.map jm)).asym _ _ h h)
            · have h3 : Rl l i' i := hb'.2.2 i hi hin e
              exact (R.irrefl (ord_swo _) (R.trans (ord_swo _) h3 (.inl hc))).elim
        rw [hp]
theorem wf_u16 {x : Int} (h : (Lit.int .u16 x).wf = true) : 0 ≤ x ∧ x ≤ 65535 := by
  simp [Lit.wf, IntKind.min, IntKind.max, IntKind.bits, IntKind.signed] at h
  omega
theorem SchedulerMonotone_row {G : Prop} (l : List S58) (en more : Int) (g : G) (g' : (Lit.int .u16 en).wf = true) (g2 : (Lit.int .u16 more).wf = true) : ∃ k, tricklelaw40_SchedulerMonotone.f k l en more = some true := SchedulerMonotone l en more (wf_u16 g') (wf_u16 g2)
end Go.Proofs.Ytlklcfaejmeljaa.QOm

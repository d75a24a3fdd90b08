/- SchedulerSelects, the statement over numbers alone. -/
import Derived.Test.YtlklcfaejmeljaaQUtx6
namespace Go.Proofs.Ytlklcfaejmeljaa.QUt
open Go.RowKit Go.Proofs.YtlklcfaejmeljaaW.PrintWords Go.Proofs.YtlklcfaejmeljaaW.PrintLast Go.Proofs.YtlklcfaejmeljaaW.PrintMore
set_option linter.unusedVariables false
set_option linter.unusedSimpArgs false

theorem awake_at : tricklelaw40_awake.f 60 = some true := by decide +kernel
theorem awake_ev : Ev (fun k => tricklelaw40_awake.f k) true := Ev.of tricklelaw40_awake.mono awake_at

theorem nat_wrap {j n : Nat} (h : j < n) (hn : n ≤ 140737488355328) : wrap64 ((j : Int) + 1) = ((j + 1 : Nat) : Int) := by unfold wrap64; omega

/-- The order of jobs. -/
def cmpI (a b : Int) : Int := if a < b then -1 else if a > b then 1 else 0
def cmpJ (a b : S54) : Int := if cmpI a.f2 b.f2 ≠ 0 then cmpI a.f2 b.f2 else if cmpI a.f1 b.f1 ≠ 0 then cmpI a.f1 b.f1 else cmpI a.f0 b.f0
theorem cmp64 (a b : Int) : cmp_Compare_int64.f a b = some (cmpI a b) := by
  unfold cmp_Compare_int64.f cmp_isNaN_int64.f cmpI
  simp only [bne_self_eq_false, Option.bind_some, Bool.false_eq_true, if_false]
  split
  · rfl
  · split <;> rfl
theorem cmpi (a b : Int) : cmp_Compare_int.f a b = some (cmpI a b) := by
  unfold cmp_Compare_int.f cmp_isNaN_int.f cmpI
  simp only [bne_self_eq_false, Option.bind_some, Bool.false_eq_true, if_false]
  split
  · rfl
  · split <;> rfl
theorem or3 (a b c : Int) (k : Nat) : cmp_Or_int.f (k + 4) [a, b, c] = some (if a ≠ 0 then a else if b ≠ 0 then b else c) := by
  unfold cmp_Or_int.f
  rw [cmp_Or_int.l0.eq_2]
  have r0 : rd [a, b, c] 0 = a := rfl
  have r1 : rd [a, b, c] 1 = b := rfl
  have r2 : rd [a, b, c] 2 = c := rfl
  have w0 : wrap64 (0 + 1) = 1 := by unfold wrap64; omega
  have w1 : wrap64 (1 + 1) = 2 := by unfold wrap64; omega
  have w2 : wrap64 (2 + 1) = 3 := by unfold wrap64; omega
  have l3 : (([a, b, c] : List Int).length : Int) = 3 := rfl
  rw [l3, if_pos (by decide), if_pos (by decide), if_pos (by decide), r0]
  by_cases ha : a = 0
  · rw [if_pos ha, w0, cmp_Or_int.l0.eq_2, l3, if_pos (by decide), if_pos (by decide), if_pos (by decide), r1]
    rw [if_neg (show ¬ a ≠ 0 from fun h => h ha)]
    by_cases hb : b = 0
    · rw [if_pos hb, w1, cmp_Or_int.l0.eq_2, l3, if_pos (by decide), if_pos (by decide), if_pos (by decide), r2]
      rw [if_neg (show ¬ b ≠ 0 from fun h => h hb)]
      by_cases hc : c = 0
      · rw [if_pos hc, w2, cmp_Or_int.l0.eq_2, if_neg (by decide), hc]
      · rw [if_neg hc]
    · rw [if_neg hb, if_pos hb]
  · rw [if_neg ha, if_pos ha]
theorem compare_f (a b : S54) (k : Nat) : scheduler_compare.f (k + 4) a.f0 a.f1 a.f2 a.f3 b.f0 b.f1 b.f2 b.f3 = some (cmpJ a b) := by
  unfold scheduler_compare.f
  rw [cmp64, Option.bind_some, cmp64, Option.bind_some, cmpi, Option.bind_some, or3, Option.bind_some]
  rfl
def jm (x : S58) : S54 := ⟨x.f0, x.f1, x.f2, x.f3⟩
/-- A job precedes another one. -/
def pre (a b : S58) : Bool := if a.f2 = b.f2 then (if a.f1 = b.f1 then decide (a.f0 < b.f0) else decide (a.f1 < b.f1)) else decide (a.f2 < b.f2)
theorem prec_f (a b : S58) : trickleref40_Precedes.f a.f0 a.f1 a.f2 a.f3 b.f0 b.f1 b.f2 b.f3 = some (pre a b) := by
  unfold trickleref40_Precedes.f pre
  split
  · split <;> rfl
  · rfl
theorem cmp_pre (a b : S58) : decide (cmpJ (jm a) (jm b) < 0) = pre a b := by
  unfold cmpJ pre cmpI jm
  dsimp only
  rw [Bool.eq_iff_iff]
  repeat' split
  all_goals simp only [decide_eq_true_eq]
  all_goals omega

theorem jobs_loop (l : List S58) (hl : l.length ≤ 4398046511103) : ∀ (n j : Nat), l.length - j ≤ n → j ≤ l.length → Ev (fun k => tricklelaw40_jobs.l0 k ((l.take j).map jm) l (l.length : Int) (j : Int)) (l.map jm) := by
  intro n
  induction n with
  | zero =>
    intro j h1 h2
    obtain rfl : j = l.length := by omega
    refine Ev.step (f := fun _ => some (l.map jm)) (fun k => ?_) (Ev.now _)
    rw [tricklelaw40_jobs.l0.eq_2, if_neg (by omega), List.take_length]
  | succ n ih =>
    intro j h1 h2
    by_cases hj : j < l.length
    · have ih := ih (j + 1) (by omega) (by omega)
      refine Ev.step (fun k => ?_) ih
      have e1 : rd_T58 l (j : Int) = l[j] := by
        unfold rd_T58
        rw [Int.toNat_natCast, List.getD_eq_getElem?_getD, List.getElem?_eq_getElem hj, Option.getD_some]
      rw [tricklelaw40_jobs.l0.eq_2, if_pos (by omega), if_pos (by omega), if_pos (by omega), if_pos (by rw [List.length_map, List.length_take]; omega), e1, nat_wrap hj (by omega), List.take_succ_eq_append_getElem hj, List.map_append]
      rfl
    · obtain rfl : j = l.length := by omega
      refine Ev.step (f := fun _ => some (l.map jm)) (fun k => ?_) (Ev.now _)
      rw [tricklelaw40_jobs.l0.eq_2, if_neg (by omega), List.take_length]
theorem jobs_ev (l : List S58) (hl : l.length ≤ 4398046511103) : Ev (fun k => tricklelaw40_jobs.f k l) (l.map jm) := by
  unfold tricklelaw40_jobs.f
  exact jobs_loop l hl l.length 0 (by omega) (by omega)

theorem rd54 {l : List S58} {j : Nat} (h : j < l.length) : rd_T54 (l.map jm) (j : Int) = jm l[j] := by
  unfold rd_T54
  rw [Int.toNat_natCast, List.getD_eq_getElem?_getD, List.getElem?_eq_getElem (by simpa using h), Option.getD_some, List.getElem_map]
theorem rd58 {l : List S58} {j : Nat} (h : j < l.length) : rd_T58 l (j : Int) = l[j] := by
  unfold rd_T58
  rw [Int.toNat_natCast, List.getD_eq_getElem?_getD, List.getElem?_eq_getElem h, Option.getD_some]

/-- Both choose the same job. b: the best so far, none or one of the list. -/
def bestI : Option Nat → Int
  | none => -1
  | some b => (b : Int)
theorem select_both (l : List S58) (en : Int) (hl : l.length ≤ 4398046511103) : ∀ (n j : Nat) (b : Option Nat), l.length - j ≤ n → j ≤ l.length → (∀ x, b = some x → x < l.length) →
    ∃ r : Int × Bool, Ev (fun k => scheduler_Select.l0 k (l.map jm) en (bestI b) (l.map jm) (l.length : Int) (j : Int)) r ∧ Ev (fun k => trickleref40_Select.l0 k l en (bestI b) l (l.length : Int) (j : Int)) r := by
  have stop : ∀ (b : Option Nat), Ev (fun k => scheduler_Select.l0 k (l.map jm) en (bestI b) (l.map jm) (l.length : Int) (l.length : Int)) (mx (bestI b) 0, decide (bestI b ≥ 0)) ∧ Ev (fun k => trickleref40_Select.l0 k l en (bestI b) l (l.length : Int) (l.length : Int)) (mx (bestI b) 0, decide (bestI b ≥ 0)) := by
    intro b
    constructor
    · refine Ev.step (f := fun _ => some _) (fun k => ?_) (Ev.now _)
      rw [scheduler_Select.l0.eq_2, if_neg (by omega)]
    · refine Ev.step (f := fun _ => some _) (fun k => ?_) (Ev.now _)
      rw [trickleref40_Select.l0.eq_2, if_neg (by omega)]
  intro n
  induction n with
  | zero =>
    intro j b h1 h2 hb
    obtain rfl : j = l.length := by omega
    exact ⟨_, (stop b).1, (stop b).2⟩
  | succ n ih =>
    intro j b h1 h2 hb
    by_cases hj : j < l.length
    · have lm : ((l.map jm).length : Int) = (l.length : Int) := by simp
      have skip := ih (j + 1) b (by omega) (by omega) hb
      have take := ih (j + 1) (some j) (by omega) (by omega) (fun x hx => by injection hx with hx; omega)
      -- whether the job can be paid
      by_cases ha : en < 0 ∨ (l[j]).f3 ≤ en
      · -- whether it is better
        cases b with
        | none =>
          obtain ⟨r, e1, e2⟩ := take
          refine ⟨r, Ev.step (fun k => ?_) e1, Ev.step (fun k => ?_) e2⟩
          · rw [scheduler_Select.l0.eq_2, if_pos (by omega), if_pos (by omega), if_pos (by rw [lm]; omega), nat_wrap hj (by omega), rd54 hj]
            by_cases hn : en < 0
            · rw [if_pos hn, if_pos (show bestI none < 0 by decide)]; rfl
            · rw [if_neg hn, if_pos (show (jm l[j]).f3 ≤ en from ha.resolve_left hn), if_pos (show bestI none < 0 by decide)]; rfl
          · rw [trickleref40_Select.l0.eq_2, if_pos (by omega), if_pos (by omega), if_pos (by omega), nat_wrap hj (by omega), rd58 hj]
            by_cases hn : en < 0
            · rw [if_pos hn, if_pos (show bestI none < 0 by decide)]; rfl
            · rw [if_neg hn, if_pos (ha.resolve_left hn), if_pos (show bestI none < 0 by decide)]; rfl
        | some b =>
          have hbl := hb b rfl
          have b0 : ¬ bestI (some b) < 0 := by show ¬ (b : Int) < 0; omega
          have b1 : 0 ≤ bestI (some b) := by show 0 ≤ (b : Int); omega
          have b2 : bestI (some b) < (l.length : Int) := by show (b : Int) < _; omega
          have r54 : rd_T54 (l.map jm) (bestI (some b)) = jm l[b] := rd54 hbl
          have r58 : rd_T58 l (bestI (some b)) = l[b] := rd58 hbl
          have hcp := cmp_pre l[j] l[b]
          by_cases hp : pre l[j] l[b] = true
          · rw [hp, decide_eq_true_iff] at hcp
            obtain ⟨r, e1, e2⟩ := take
            refine ⟨r, ?_, Ev.step (fun k => ?_) e2⟩
            · refine Ev.step (f := fun k => (scheduler_compare.f k (jm l[j]).f0 (jm l[j]).f1 (jm l[j]).f2 (jm l[j]).f3 (jm l[b]).f0 (jm l[b]).f1 (jm l[b]).f2 (jm l[b]).f3).bind fun t => if t < 0 then scheduler_Select.l0 k (l.map jm) en (j : Int) (l.map jm) (l.length : Int) ((j + 1 : Nat) : Int) else scheduler_Select.l0 k (l.map jm) en (bestI (some b)) (l.map jm) (l.length : Int) ((j + 1 : Nat) : Int)) (fun k => ?_) ?_
              · rw [scheduler_Select.l0.eq_2, if_pos (by omega), if_pos (by omega), if_pos (by rw [lm]; omega), nat_wrap hj (by omega), rd54 hj, r54, lm]
                by_cases hn : en < 0
                · rw [if_pos hn, if_neg b0, if_pos b1, if_pos b2]
                · rw [if_neg hn, if_pos (show (jm l[j]).f3 ≤ en from ha.resolve_left hn), if_neg b0, if_pos b1, if_pos b2]
              · refine Ev.bind (a := cmpJ (jm l[j]) (jm l[b])) ⟨4, fun k hk => ?_⟩ ?_
                · obtain ⟨m, rfl⟩ : ∃ m, k = m + 4 := ⟨k - 4, by omega⟩
                  exact compare_f _ _ m
                · refine Ev.congr (fun k => ?_) e1
                  rw [if_pos hcp]; rfl
            · rw [trickleref40_Select.l0.eq_2, if_pos (by omega), if_pos (by omega), if_pos (by omega), nat_wrap hj (by omega), rd58 hj, r58, prec_f, Option.bind_some, hp]
              by_cases hn : en < 0
              · rw [if_pos hn, if_neg b0, if_pos b1, if_pos b2, if_pos rfl]; rfl
              · rw [if_neg hn, if_pos (ha.resolve_left hn), if_neg b0, if_pos b1, if_pos b2, if_pos rfl]; rfl
          · have hp' : pre l[j] l[b] = false := by simpa using hp
            rw [hp', decide_eq_false_iff_not] at hcp
            obtain ⟨r, e1, e2⟩ := skip
            refine ⟨r, ?_, Ev.step (fun k => ?_) e2⟩
            · refine Ev.step (f := fun k => (scheduler_compare.f k (jm l[j]).f0 (jm l[j]).f1 (jm l[j]).f2 (jm l[j]).f3 (jm l[b]).f0 (jm l[b]).f1 (jm l[b]).f2 (jm l[b]).f3).bind fun t => if t < 0 then scheduler_Select.l0 k (l.map jm) en (j : Int) (l.map jm) (l.length : Int) ((j + 1 : Nat) : Int) else scheduler_Select.l0 k (l.map jm) en (bestI (some b)) (l.map jm) (l.length : Int) ((j + 1 : Nat) : Int)) (fun k => ?_) ?_
              · rw [scheduler_Select.l0.eq_2, if_pos (by omega), if_pos (by omega), if_pos (by rw [lm]; omega), nat_wrap hj (by omega), rd54 hj, r54, lm]
                by_cases hn : en < 0
                · rw [if_pos hn, if_neg b0, if_pos b1, if_pos b2]
                · rw [if_neg hn, if_pos (show (jm l[j]).f3 ≤ en from ha.resolve_left hn), if_neg b0, if_pos b1, if_pos b2]
              · refine Ev.bind (a := cmpJ (jm l[j]) (jm l[b])) ⟨4, fun k hk => ?_⟩ ?_
                · obtain ⟨m, rfl⟩ : ∃ m, k = m + 4 := ⟨k - 4, by omega⟩
                  exact compare_f _ _ m
                · refine Ev.congr (fun k => ?_) e1
                  rw [if_neg hcp]
            · rw [trickleref40_Select.l0.eq_2, if_pos (by omega), if_pos (by omega), if_pos (by omega), nat_wrap hj (by omega), rd58 hj, r58, prec_f, Option.bind_some, hp']
              by_cases hn : en < 0
              · rw [if_pos hn, if_neg b0, if_pos b1, if_pos b2, if_neg (by decide)]
              · rw [if_neg hn, if_pos (ha.resolve_left hn), if_neg b0, if_pos b1, if_pos b2, if_neg (by decide)]
      · obtain ⟨r, e1, e2⟩ := skip
        have hn : ¬ en < 0 := fun h => ha (.inl h)
        have hm : ¬ (l[j]).f3 ≤ en := fun h => ha (.inr h)
        refine ⟨r, Ev.step (fun k => ?_) e1, Ev.step (fun k => ?_) e2⟩
        · rw [scheduler_Select.l0.eq_2, if_pos (by omega), if_pos (by omega), if_pos (by rw [lm]; omega), nat_wrap hj (by omega), rd54 hj, if_neg hn, if_neg (show ¬ (jm l[j]).f3 ≤ en from hm)]
        · rw [trickleref40_Select.l0.eq_2, if_pos (by omega), if_pos (by omega), if_pos (by omega), nat_wrap hj (by omega), rd58 hj, if_neg hn, if_neg hm]
    · obtain rfl : j = l.length := by omega
      exact ⟨_, (stop b).1, (stop b).2⟩

theorem SchedulerSelects (l : List S58) (en : Int) (hl : l.length ≤ 4398046511103) : ∃ k, tricklelaw40_SchedulerSelects.f k l en = some true := by
  apply Ev.rounds
  unfold tricklelaw40_SchedulerSelects.f
  refine Ev.bind awake_ev ?_
  by_cases h : (l.length : Int) > 40
  · exact Ev.congr (fun k => by rw [if_pos rfl, if_pos h]) (Ev.now true)
  · obtain ⟨r, e1, e2⟩ := select_both l en hl l.length 0 none (by omega) (by omega) (fun x hx => by cases hx)
    refine Ev.congr (f := fun k => (tricklelaw40_jobs.f k l).bind fun t165 => ((scheduler_Select.f k t165 en).bind fun bt168 => ((trickleref40_Select.f k l en).bind fun bt170 => (if bt168.1 = bt170.1 then (some (bt168.2 == bt170.2)) else (some false))))) (fun k => by rw [if_pos rfl, if_neg h]) ?_
    refine Ev.bind (jobs_ev l hl) (Ev.bind (a := r) ?_ (Ev.bind (a := r) ?_ ?_))
    · unfold scheduler_Select.f
      rw [List.length_map]
      exact e1
    · unfold trickleref40_Select.f
      exact e2
    · exact Ev.congr (fun k => by rw [if_pos rfl, beq_self_eq_true]) (Ev.now true)
theorem len58 {n : Nat} (h : n * Try.prog.bytesOf 58 ≤ reachBytes) : n ≤ 4398046511103 := by
  have e : Try.prog.bytesOf 58 = 32 := by kernel_rfl
  rw [e] at h
  simp only [reachBytes] at h
  omega
theorem SchedulerSelects_row {G R : Prop} (l : List S58) (en : Int) (g0 : l.length * Try.prog.bytesOf 58 ≤ reachBytes ∧ R) (g1 : G) : ∃ k, tricklelaw40_SchedulerSelects.f k l en = some true := SchedulerSelects l en (len58 g0.1)
end Go.Proofs.Ytlklcfaejmeljaa.QUt

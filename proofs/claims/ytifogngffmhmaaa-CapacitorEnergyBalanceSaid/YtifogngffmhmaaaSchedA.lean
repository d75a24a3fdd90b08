/- The schedule of the capacitor over numbers alone: which steps are valid, and what the two loops compute. -/
import Derived.Test.YtifogngffmhmaaaCapS
import Derived.Test.YtifogngffmhmaaaQSdx5
namespace Go.Proofs.Ytifogngffmhmaaa.QSd
open Go.RowKit Go.Proofs.YtifogngffmhmaaaW.PrintWords Go.Proofs.YtifogngffmhmaaaW.PrintLast Go.Proofs.YtifogngffmhmaaaW.PrintMore
set_option linter.unusedVariables false
set_option linter.unusedSimpArgs false

def okS (s : S57) : Prop := 0 ≤ s.f0 ∧ s.f0 ≤ 1048576 ∧ 0 ≤ s.f1 ∧ s.f1 ≤ 1099511627776
def allOk (l : List S57) : Prop := ∀ s ∈ l, okS s
def pre (l : List S57) (j : Nat) : Int := ((l.take j).map fun s => s.f1).sum
def cv (l : List S57) : List S60 := l.map fun s => (⟨s.f0, s.f1⟩ : S60)
theorem cv_len (l : List S57) : (cv l).length = l.length := by simp [cv]
theorem rd57 {l : List S57} {j : Nat} (h : j < l.length) : rd_T57 l (j : Int) = l[j] := by
  unfold rd_T57
  rw [Int.toNat_natCast, List.getD_eq_getElem?_getD, List.getElem?_eq_getElem h, Option.getD_some]
theorem rd60 {l : List S57} {j : Nat} (h : j < l.length) : rd_T60 (cv l) (j : Int) = ⟨l[j].f0, l[j].f1⟩ := by
  unfold rd_T60 cv
  rw [Int.toNat_natCast, List.getD_eq_getElem?_getD, List.getElem?_eq_getElem (by simpa using h), Option.getD_some, List.getElem_map]
theorem pre_succ {l : List S57} {j : Nat} (h : j < l.length) : pre l (j + 1) = pre l j + l[j].f1 := by
  unfold pre
  rw [List.take_succ_eq_append_getElem h, List.map_append, List.sum_append]
  simp
theorem pre_zero (l : List S57) : pre l 0 = 0 := rfl
theorem pre_step {l : List S57} (ho : allOk l) {j : Nat} (h : j < l.length) : pre l j ≤ pre l (j + 1) := by
  have := (ho l[j] (List.getElem_mem h)).2.2.1
  rw [pre_succ h]; omega
theorem pre_mono {l : List S57} (ho : allOk l) (j : Nat) : ∀ d, j + d ≤ l.length → pre l j ≤ pre l (j + d) := by
  intro d
  induction d with
  | zero => intro _; exact Int.le_refl _
  | succ d ih => intro h; exact Int.le_trans (ih (by omega)) (pre_step ho (j := j + d) (by omega))
theorem pre_nonneg {l : List S57} (ho : allOk l) (j : Nat) (h : j ≤ l.length) : 0 ≤ pre l j := by
  have := pre_mono ho 0 j (by omega)
  rw [pre_zero, Nat.zero_add] at this; exact this
theorem pre_le {l : List S57} (ho : allOk l) (j : Nat) (h : j ≤ l.length) : pre l j ≤ pre l l.length := by
  have := pre_mono ho j (l.length - j) (by omega)
  rwa [show j + (l.length - j) = l.length by omega] at this
theorem nat_wrap {j n : Nat} (h : j < n) (hn : n ≤ 140737488355328) : wrap64 ((j : Int) + 1) = ((j + 1 : Nat) : Int) := by
  rw [cap_wrap (by omega) (by omega)]; omega
theorem mn_eq (a b : Int) : mn a b = min a b := by unfold mn; rw [Int.min_def]; split <;> split <;> omega

theorem supply_ok {s : S57} (h : okS s) : trickleref08_supply.f s.f0 s.f1 = some true := by
  obtain ⟨a, b, c, d⟩ := h
  unfold trickleref08_supply.f
  rw [if_pos a, if_pos b, if_pos c, decide_eq_true d]
theorem supply_no {s : S57} (h : ¬ okS s) : trickleref08_supply.f s.f0 s.f1 = some false := by
  unfold trickleref08_supply.f
  by_cases a : s.f0 ≥ 0
  · by_cases b : s.f0 ≤ 1048576
    · by_cases c : s.f1 ≥ 0
      · rw [if_pos a, if_pos b, if_pos c, decide_eq_false (fun d => h ⟨a, b, c, d⟩)]
      · rw [if_pos a, if_pos b, if_neg c]
    · rw [if_pos a, if_neg b]
  · rw [if_neg a]

/-- What remains of Right behind its loop. -/
def rightEnd (x1 : Int) (x2 : List S57) (x7 c on off : Int) : Option Bool := (trickleref08_Valid.f c on off).bind fun t167 => (if t167 = true then (if x1 ≥ 1 then (if x1 ≤ 1048576 then (if (x2.length : Int) ≤ 64 then (some (decide (x7 ≤ 65536))) else (some false)) else (some false)) else (some false)) else (some false))
theorem right_loop {l : List S57} (ho : allOk l) (hl : l.length ≤ 140737488355328) (load c on off : Int) (l2 : List S57) : ∀ (n j K : Nat), l.length - j ≤ n → n + 1 ≤ K → j ≤ l.length →
    trickleref08_Right.l0 K load l2 (min (pre l j) 2199023255552) l (l.length : Int) (j : Int) c on off = rightEnd load l2 (min (pre l l.length) 2199023255552) c on off := by
  intro n
  induction n with
  | zero =>
    intro j K h1 h2 h3
    obtain ⟨k, rfl⟩ : ∃ k, K = k + 1 := ⟨K - 1, by omega⟩
    obtain rfl : j = l.length := by omega
    rw [trickleref08_Right.l0.eq_2, if_neg (by omega)]
    rfl
  | succ n ih =>
    intro j K h1 h2 h3
    obtain ⟨k, rfl⟩ : ∃ k, K = k + 1 := ⟨K - 1, by omega⟩
    by_cases hj : j < l.length
    · have hok := ho l[j] (List.getElem_mem hj)
      have hp := pre_nonneg ho j h3
      rw [trickleref08_Right.l0.eq_2, if_pos (by omega), if_pos (by omega), if_pos (by omega), rd57 hj, supply_ok hok, Option.bind_some, if_pos rfl, nat_wrap hj hl]
      have e : mn (wrap64 (min (pre l j) 2199023255552 + l[j].f1)) 2199023255552 = min (pre l (j + 1)) 2199023255552 := by
        obtain ⟨_, _, b1, b2⟩ := hok
        rw [pre_succ hj, mn_eq]
        generalize pre l j = p at *
        generalize l[j].f1 = t at *
        rw [cap_wrap (by omega) (by omega)]
        omega
      rw [e]
      exact ih (j + 1) k (by omega) (by omega) (by omega)
    · obtain rfl : j = l.length := by omega
      rw [trickleref08_Right.l0.eq_2, if_neg (by omega)]
      rfl
theorem right_bad {l : List S57} (hl : l.length ≤ 140737488355328) (load c on off : Int) (l2 : List S57) {m : Nat} (hm : m < l.length) (hb : ¬ okS l[m]) : ∀ (n j K : Nat) (x : Int), m - j ≤ n → n + 1 ≤ K → j ≤ m →
    trickleref08_Right.l0 K load l2 x l (l.length : Int) (j : Int) c on off = some false := by
  intro n
  induction n with
  | zero =>
    intro j K x h1 h2 h3
    obtain ⟨k, rfl⟩ : ∃ k, K = k + 1 := ⟨K - 1, by omega⟩
    obtain rfl : j = m := by omega
    rw [trickleref08_Right.l0.eq_2, if_pos (by omega), if_pos (by omega), if_pos (by omega), rd57 hm, supply_no hb, Option.bind_some, if_neg (by decide)]
  | succ n ih =>
    intro j K x h1 h2 h3
    obtain ⟨k, rfl⟩ : ∃ k, K = k + 1 := ⟨K - 1, by omega⟩
    rw [trickleref08_Right.l0.eq_2, if_pos (by omega), if_pos (by omega), if_pos (by omega), rd57 (show j < l.length by omega)]
    by_cases hj : okS (l[j]'(by omega))
    · have hjm : j ≠ m := by rintro rfl; exact hb hj
      rw [supply_ok hj, Option.bind_some, if_pos rfl, nat_wrap (show j < l.length by omega) hl]
      exact ih (j + 1) k _ (by omega) (by omega) (by omega)
    · rw [supply_no hj, Option.bind_some, if_neg (by decide)]

def GoodV (l : List S57) : Prop := allOk l ∧ l.length ≤ 64 ∧ pre l l.length ≤ 65536
def GoodA (c on off load : Int) (l : List S57) : Prop := GoodV l ∧ CapOk c on off ∧ 1 ≤ load ∧ load ≤ 1048576
theorem not_allOk {l : List S57} (h : ¬ allOk l) : ∃ m, ∃ hm : m < l.length, ¬ okS l[m] := by
  by_cases hc : ∃ m, ∃ hm : m < l.length, ¬ okS l[m]
  · exact hc
  · refine absurd (fun s hs => ?_) h
    obtain ⟨m, hm, rfl⟩ := List.getElem_of_mem hs
    by_cases ho : okS l[m]
    · exact ho
    · exact absurd ⟨m, hm, ho⟩ hc
theorem right_true {c on off load : Int} {l : List S57} (h : GoodA c on off load l) (K : Nat) (hK : l.length + 1 ≤ K) : trickleref08_Right.f K c on off load l = some true := by
  obtain ⟨⟨ho, hl, hs⟩, hV, h1, h2⟩ := h
  unfold trickleref08_Right.f
  have e := right_loop ho (by omega) load c on off l l.length 0 K (by omega) hK (by omega)
  rw [pre_zero] at e
  rw [show min (0 : Int) 2199023255552 = 0 from by decide] at e
  refine Eq.trans e ?_
  unfold rightEnd
  rcases valid_some c on off with ⟨e, _⟩ | ⟨_, hn⟩
  · rw [e, Option.bind_some, if_pos rfl, if_pos h1, if_pos h2, if_pos (by omega), decide_eq_true (by omega)]
  · exact absurd hV hn
theorem right_false {c on off load : Int} {l : List S57} (hb : l.length ≤ 140737488355328) (h : ¬ GoodA c on off load l) (K : Nat) (hK : l.length + 1 ≤ K) : trickleref08_Right.f K c on off load l = some false := by
  unfold trickleref08_Right.f
  by_cases ho : allOk l
  · have e := right_loop ho (by omega) load c on off l l.length 0 K (by omega) hK (by omega)
    rw [pre_zero] at e
    rw [show min (0 : Int) 2199023255552 = 0 from by decide] at e
    refine Eq.trans e ?_
    unfold rightEnd
    rcases valid_some c on off with ⟨e, hV⟩ | ⟨e, hn⟩
    · rw [e, Option.bind_some, if_pos rfl]
      by_cases h1 : load ≥ 1
      · by_cases h2 : load ≤ 1048576
        · by_cases h3 : (l.length : Int) ≤ 64
          · have h4 : ¬ pre l l.length ≤ 65536 := fun h4 => h ⟨⟨ho, by omega, h4⟩, hV, h1, h2⟩
            rw [if_pos h1, if_pos h2, if_pos h3, decide_eq_false (by omega)]
          · rw [if_pos h1, if_pos h2, if_neg h3]
        · rw [if_pos h1, if_neg h2]
      · rw [if_neg h1]
    · rw [e, Option.bind_some, if_neg (by decide)]
  · obtain ⟨m, hm, hn⟩ := not_allOk ho
    exact right_bad hb load c on off l hm hn m 0 K 0 (by omega) (by omega) (by omega)

theorem bad_no {s : S57} (h : okS s) : stepBad s.f0 s.f1 = false := by
  obtain ⟨a, b, c, d⟩ := h
  unfold stepBad
  simp only [Bool.or_eq_false_iff, decide_eq_false_iff_not]
  omega
theorem bad_yes {s : S57} (h : ¬ okS s) : stepBad s.f0 s.f1 = true := by
  by_cases hb : stepBad s.f0 s.f1 = true
  · exact hb
  · refine absurd ?_ h
    unfold stepBad at hb
    simp only [Bool.not_eq_true, Bool.or_eq_false_iff, decide_eq_false_iff_not] at hb
    unfold okS
    omega
theorem index_ok {l : List S57} (ho : allOk l) (hl : l.length ≤ 140737488355328) : ∀ (n j K : Nat), l.length - j ≤ n → n + 1 ≤ K → j ≤ l.length → IndexFunc.l0 K (cv l) (j : Int) = some (-1) := by
  intro n
  induction n with
  | zero =>
    intro j K h1 h2 h3
    obtain ⟨k, rfl⟩ : ∃ k, K = k + 1 := ⟨K - 1, by omega⟩
    rw [IndexFunc.l0.eq_2, cv_len, if_neg (by omega)]
  | succ n ih =>
    intro j K h1 h2 h3
    obtain ⟨k, rfl⟩ : ∃ k, K = k + 1 := ⟨K - 1, by omega⟩
    by_cases hj : j < l.length
    · rw [IndexFunc.l0.eq_2, cv_len, if_pos (by omega), if_pos (by omega), rd60 hj, bad_no (s := l[j]) (ho _ (List.getElem_mem hj)), if_neg (by decide), nat_wrap hj hl]
      exact ih (j + 1) k (by omega) (by omega) (by omega)
    · rw [IndexFunc.l0.eq_2, cv_len, if_neg (by omega)]
theorem index_bad {l : List S57} (hl : l.length ≤ 140737488355328) {m : Nat} (hm : m < l.length) (hb : ¬ okS l[m]) : ∀ (n j K : Nat), m - j ≤ n → n + 1 ≤ K → j ≤ m → ∃ r, IndexFunc.l0 K (cv l) (j : Int) = some r ∧ 0 ≤ r := by
  intro n
  induction n with
  | zero =>
    intro j K h1 h2 h3
    obtain ⟨k, rfl⟩ : ∃ k, K = k + 1 := ⟨K - 1, by omega⟩
    obtain rfl : j = m := by omega
    refine ⟨(j : Int), ?_, by omega⟩
    rw [IndexFunc.l0.eq_2, cv_len, if_pos (by omega), if_pos (by omega), rd60 hm, bad_yes (s := l[j]) hb, if_pos rfl]
  | succ n ih =>
    intro j K h1 h2 h3
    obtain ⟨k, rfl⟩ : ∃ k, K = k + 1 := ⟨K - 1, by omega⟩
    rw [IndexFunc.l0.eq_2, cv_len, if_pos (by omega), if_pos (by omega), rd60 (show j < l.length by omega)]
    by_cases hj : okS (l[j]'(by omega))
    · have hjm : j ≠ m := by rintro rfl; exact hb hj
      rw [bad_no (s := l[j]'(by omega)) hj, if_neg (by decide), nat_wrap (show j < l.length by omega) hl]
      exact ih (j + 1) k (by omega) (by omega) (by omega)
    · refine ⟨(j : Int), ?_, by omega⟩
      rw [bad_yes (s := l[j]'(by omega)) hj, if_pos rfl]
theorem sum_ok {l : List S57} (ho : allOk l) (hl : l.length ≤ 64) : ∀ (n j K : Nat), l.length - j ≤ n → n + 1 ≤ K → j ≤ l.length → validSteps.l0 K (cv l) (pre l j) (j : Int) = some (decide (pre l l.length ≤ 65536)) := by
  have bound : ∀ j, j ≤ l.length → pre l j ≤ j * 1099511627776 := by
    intro j
    induction j with
    | zero => intro _; rw [pre_zero]; omega
    | succ j ih => intro h; rw [pre_succ (by omega)]; have := ih (by omega); have := (ho (l[j]'(by omega)) (List.getElem_mem _)).2.2.2; omega
  intro n
  induction n with
  | zero =>
    intro j K h1 h2 h3
    obtain ⟨k, rfl⟩ : ∃ k, K = k + 1 := ⟨K - 1, by omega⟩
    obtain rfl : j = l.length := by omega
    rw [validSteps.l0.eq_2, cv_len, if_neg (by omega)]
  | succ n ih =>
    intro j K h1 h2 h3
    obtain ⟨k, rfl⟩ : ∃ k, K = k + 1 := ⟨K - 1, by omega⟩
    by_cases hj : j < l.length
    · have b1 := bound (j + 1) (by omega)
      have b0 := pre_nonneg ho (j + 1) (by omega)
      rw [validSteps.l0.eq_2, cv_len, if_pos (by omega), if_pos (by omega), rd60 hj, nat_wrap hj (by omega)]
      dsimp only
      rw [← pre_succ hj, cap_wrap (by omega) (by omega)]
      exact ih (j + 1) k (by omega) (by omega) (by omega)
    · obtain rfl : j = l.length := by omega
      rw [validSteps.l0.eq_2, cv_len, if_neg (by omega)]
theorem valid_true {l : List S57} (h : GoodV l) : capacitor_validSteps.f (cv l) = some true := by
  obtain ⟨ho, hl, hs⟩ := h
  unfold capacitor_validSteps.f validSteps.f
  have i := index_ok ho (by omega) l.length 0 (l.length + 2) (by omega) (by omega) (by omega)
  have s := sum_ok ho hl l.length 0 (l.length + 2) (by omega) (by omega) (by omega)
  rw [pre_zero] at s
  rw [cv_len, if_neg (by omega)]
  rw [show ((0 : Nat) : Int) = 0 from rfl] at i s
  rw [i, Option.bind_some, if_neg (by omega), s, decide_eq_true hs]
theorem valid_false {l : List S57} (hb : l.length ≤ 140737488355328) (h : ¬ GoodV l) : capacitor_validSteps.f (cv l) = some false := by
  unfold capacitor_validSteps.f validSteps.f
  rw [cv_len]
  by_cases hl : (l.length : Int) > 64
  · rw [if_pos hl]
  · rw [if_neg hl]
    by_cases ho : allOk l
    · have i := index_ok ho (by omega) l.length 0 (l.length + 2) (by omega) (by omega) (by omega)
      have s := sum_ok ho (by omega) l.length 0 (l.length + 2) (by omega) (by omega) (by omega)
      rw [pre_zero] at s
      rw [show ((0 : Nat) : Int) = 0 from rfl] at i s
      rw [i, Option.bind_some, if_neg (by omega), s, decide_eq_false (fun hs => h ⟨ho, by omega, hs⟩)]
    · obtain ⟨m, hm, hn⟩ := not_allOk ho
      obtain ⟨r, e, hr⟩ := index_bad (by omega) hm hn m 0 (l.length + 2) (by omega) (by omega) (by omega)
      rw [show ((0 : Nat) : Int) = 0 from rfl] at e
      rw [e, Option.bind_some, if_pos hr]
end Go.Proofs.Ytifogngffmhmaaa.QSd

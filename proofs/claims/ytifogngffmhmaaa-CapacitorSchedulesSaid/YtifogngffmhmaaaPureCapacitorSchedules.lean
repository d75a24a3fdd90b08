/- CapacitorSchedules, the statement over numbers alone. -/
import Derived.Test.YtifogngffmhmaaaSchedB
import Derived.Test.YtifogngffmhmaaaQSdx7
namespace Go.Proofs.Ytifogngffmhmaaa.QSd
open Go.RowKit Go.Proofs.YtifogngffmhmaaaW.PrintWords Go.Proofs.YtifogngffmhmaaaW.PrintLast Go.Proofs.YtifogngffmhmaaaW.PrintMore
set_option linter.unusedVariables false
set_option linter.unusedSimpArgs false

theorem same_self (l : List S67) (hl : l.length ≤ 140737488355328) : ∀ (n j K : Nat), l.length - j ≤ n → n + 1 ≤ K → j ≤ l.length → trickleref08_Same.l0 K l l (l.length : Int) (j : Int) = some true := by
  intro n
  induction n with
  | zero =>
    intro j K h1 h2 h3
    obtain ⟨k, rfl⟩ : ∃ k, K = k + 1 := ⟨K - 1, by omega⟩
    rw [trickleref08_Same.l0.eq_2, if_neg (by omega)]
  | succ n ih =>
    intro j K h1 h2 h3
    obtain ⟨k, rfl⟩ : ∃ k, K = k + 1 := ⟨K - 1, by omega⟩
    by_cases hj : j < l.length
    · rw [trickleref08_Same.l0.eq_2, if_pos (by omega), if_pos (by omega), if_pos (by omega), if_pos (by omega), nat_wrap hj hl]
      rw [if_neg (by simp)]
      exact ih (j + 1) k (by omega) (by omega) (by omega)
    · rw [trickleref08_Same.l0.eq_2, if_neg (by omega)]
theorem same_refl (l : List S67) (hl : l.length ≤ 140737488355328) (K : Nat) (hK : l.length + 1 ≤ K) : trickleref08_Same.f K l l = some true := by
  unfold trickleref08_Same.f
  rw [if_pos rfl]
  exact same_self l hl l.length 0 K (by omega) hK (by omega)

theorem cv_snoc {l : List S57} {j : Nat} (hj : j < l.length) : cv (l.take j) ++ [(⟨(rd_T57 l (j : Int)).f0, (rd_T57 l (j : Int)).f1⟩ : S60)] = cv (l.take (j + 1)) := by
  rw [rd57 hj, List.take_succ_eq_append_getElem hj]
  unfold cv
  rw [List.map_append]
  rfl

/-- Behind the loops the law holds. -/
theorem sched_l1 (c on off load : Int) (l : List S57) (hl : l.length ≤ 8796093022207) (K0 : Nat) (hK0 : 65536 + 128 + 4 + l.length + 65537 ≤ K0) : ∀ (n j K : Nat), l.length - j ≤ n → n + K0 + 1 ≤ K → j ≤ l.length →
    tricklelaw08_CapacitorSchedules.l1 K load l (cv (l.take j)) l (l.length : Int) (j : Int) c on off = some true := by
  intro n
  have fin : ∀ K, K0 ≤ K → ((tricklelaw08_config.f c on off).bind fun bt230 => ((capacitor_Schedule.f K bt230.1 bt230.2.1 bt230.2.2 load (cv l)).bind fun bt233 => ((trickleref08_Schedule.f K c on off load l).bind fun bt237 => (if bt233.2 = bt237.2 then ((trickleref08_Same.f K bt233.1 bt237.1).bind fun t241 => (some t241)) else (some false))))) = some true := by
    intro K hK
    rw [config_f, Option.bind_some]
    dsimp only
    by_cases hG : GoodA c on off load l
    · obtain ⟨res, ch', run', draws', hI, e1, e2⟩ := schedule_good hG K K (by omega) (by omega)
      have hlen := hI.len
      have hp := hG.1.2.2
      rw [e1, Option.bind_some, e2, Option.bind_some]
      dsimp only
      rw [if_pos rfl, same_refl res (by omega) K (by omega), Option.bind_some]
    · obtain ⟨e1, e2⟩ := schedule_bad (by omega) hG K K (by omega) (by omega)
      rw [e1, Option.bind_some, e2, Option.bind_some]
      dsimp only
      rw [if_pos rfl, same_refl [] (by simp) K (by simp; omega), Option.bind_some]
  induction n with
  | zero =>
    intro j K h1 h2 h3
    obtain ⟨k, rfl⟩ : ∃ k, K = k + 1 := ⟨K - 1, by omega⟩
    obtain rfl : j = l.length := by omega
    rw [tricklelaw08_CapacitorSchedules.l1.eq_2, if_neg (by omega), List.take_length]
    exact fin k (by omega)
  | succ n ih =>
    intro j K h1 h2 h3
    obtain ⟨k, rfl⟩ : ∃ k, K = k + 1 := ⟨K - 1, by omega⟩
    by_cases hj : j < l.length
    · rw [tricklelaw08_CapacitorSchedules.l1.eq_2, if_pos (by omega), if_pos (by omega), if_pos (by omega), if_pos (by rw [cv_len, List.length_take]; omega), cv_snoc hj, nat_wrap hj (by omega)]
      exact ih (j + 1) k (by omega) (by omega) (by omega)
    · obtain rfl : j = l.length := by omega
      rw [tricklelaw08_CapacitorSchedules.l1.eq_2, if_neg (by omega), List.take_length]
      exact fin k (by omega)
theorem sched_j1 (c on off load : Int) (l : List S57) (hl : l.length ≤ 8796093022207) (b : Bool) (K : Nat) (hK : 65536 + 128 + 4 + l.length + 65537 + l.length + 2 ≤ K) : tricklelaw08_CapacitorSchedules.j1 K load l b c on off = some true := by
  obtain ⟨k, rfl⟩ : ∃ k, K = k + 1 := ⟨K - 1, by omega⟩
  rw [tricklelaw08_CapacitorSchedules.j1.eq_2]
  cases b with
  | true => rw [if_pos rfl]
  | false =>
    rw [if_neg (by decide)]
    exact sched_l1 c on off load l hl (65536 + 128 + 4 + l.length + 65537) (by omega) l.length 0 k (by omega) (by omega) (by omega)
theorem sched_l0 (c on off load : Int) (l : List S57) (hl : l.length ≤ 8796093022207) (K0 : Nat) (hK0 : 65536 + 128 + 4 + l.length + 65537 + l.length + 2 ≤ K0) : ∀ (n j K : Nat) (x : Int), l.length - j ≤ n → n + K0 + 1 ≤ K → j ≤ l.length →
    tricklelaw08_CapacitorSchedules.l0 K load l x l (l.length : Int) (j : Int) c on off = some true := by
  have fin : ∀ (K : Nat) (x : Int), K0 ≤ K → (if (l.length : Int) > 70 then (tricklelaw08_CapacitorSchedules.j1 K load l true c on off) else (if x > 4000 then ((trickleref08_Right.f K c on off load l).bind fun t224 => (tricklelaw08_CapacitorSchedules.j1 K load l t224 c on off)) else (tricklelaw08_CapacitorSchedules.j1 K load l false c on off))) = some true := by
    intro K x hK
    have j := fun b => sched_j1 c on off load l hl b K (by omega)
    by_cases h1 : (l.length : Int) > 70
    · rw [if_pos h1]; exact j _
    · rw [if_neg h1]
      by_cases h2 : x > (4000 : Int)
      · rw [if_pos h2]
        by_cases hG : GoodA c on off load l
        · rw [right_true hG K (by omega), Option.bind_some]; exact j _
        · rw [right_false (by omega) hG K (by omega), Option.bind_some]; exact j _
      · rw [if_neg h2]; exact j _
  intro n
  induction n with
  | zero =>
    intro j K x h1 h2 h3
    obtain ⟨k, rfl⟩ : ∃ k, K = k + 1 := ⟨K - 1, by omega⟩
    rw [tricklelaw08_CapacitorSchedules.l0.eq_2, if_neg (by omega)]
    exact fin k x (by omega)
  | succ n ih =>
    intro j K x h1 h2 h3
    obtain ⟨k, rfl⟩ : ∃ k, K = k + 1 := ⟨K - 1, by omega⟩
    by_cases hj : j < l.length
    · rw [tricklelaw08_CapacitorSchedules.l0.eq_2, if_pos (by omega), if_pos (by omega), if_pos (by omega), nat_wrap hj (by omega)]
      by_cases hp : (rd_T57 l (j : Int)).f1 > 0
      · rw [if_pos hp]; exact ih (j + 1) k _ (by omega) (by omega) (by omega)
      · rw [if_neg hp]; exact ih (j + 1) k _ (by omega) (by omega) (by omega)
    · rw [tricklelaw08_CapacitorSchedules.l0.eq_2, if_neg (by omega)]
      exact fin k x (by omega)

theorem CapacitorSchedules (c on off load : Int) (l : List S57) (hl : l.length ≤ 8796093022207) : ∃ k, tricklelaw08_CapacitorSchedules.f k c on off load l = some true := by
  refine ⟨65536 + 128 + 4 + l.length + 65537 + l.length + 2 + l.length + 1 + 1, ?_⟩
  unfold tricklelaw08_CapacitorSchedules.f
  rw [cap_awake, Option.bind_some, if_pos rfl]
  exact sched_l0 c on off load l hl (65536 + 128 + 4 + l.length + 65537 + l.length + 2) (by omega) l.length 0 _ 0 (by omega) (by omega) (by omega)
theorem len57_CapacitorSchedules {n : Nat} (h : n * Try.prog.bytesOf 57 ≤ reachBytes) : n ≤ 8796093022207 := by
  have e : Try.prog.bytesOf 57 = 16 := by kernel_rfl
  rw [e] at h
  simp only [reachBytes] at h
  omega
theorem CapacitorSchedules_row {G G1 R : Prop} (c on off load : Int) (l : List S57) (g0 : G) (g1 : G1) (g2 : l.length * Try.prog.bytesOf 57 ≤ reachBytes ∧ R) : ∃ k, tricklelaw08_CapacitorSchedules.f k c on off load l = some true :=
  CapacitorSchedules c on off load l (len57_CapacitorSchedules g2.1)
end Go.Proofs.Ytifogngffmhmaaa.QSd

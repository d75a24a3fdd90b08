/- CapacitorWaitTime, the statement over numbers alone. -/
import Derived.Test.YtifogngffmhmaaaQAlx6
import Derived.Test.YtifogngffmhmaaaCap
namespace Go.Proofs.Ytifogngffmhmaaa.QAl
open Go.RowKit Go.Proofs.YtifogngffmhmaaaW.PrintWords Go.Proofs.YtifogngffmhmaaaW.PrintLast Go.Proofs.YtifogngffmhmaaaW.PrintMore
set_option linter.unusedVariables false
set_option linter.unusedSimpArgs false

theorem time_l0 (c on off q p : Int) (hV : CapOk c on off) (hq0 : 0 ≤ q) (hq1 : q ≤ 65535) (hp0 : 1 ≤ p) (hp1 : p ≤ 65535) (K : Nat) (i : Int) (hi : i = 0 ∨ i = 1) (rest : i = 0 → tricklelaw08_CapacitorWaitTime.l0 K q p [0, 1] 2 1 c on off = some true) (rest2 : i = 1 → tricklelaw08_CapacitorWaitTime.l0 K q p [0, 1] 2 2 c on off = some true) :
    tricklelaw08_CapacitorWaitTime.l0 (K + 2) q p [0, 1] 2 i c on off = some true := by
  have hl : (([0, 1] : List Int).length : Int) = 2 := rfl
  rw [tricklelaw08_CapacitorWaitTime.l0.eq_2, if_pos (by omega), if_pos (by omega), if_pos (by rw [hl]; omega), config_f, Option.bind_some]
  dsimp only
  rw [new_ok hV, Option.bind_some]
  dsimp only
  rw [if_pos rfl, cap_wrap (x := q) (by omega) (by omega)]
  have hV' := hV
  obtain ⟨v1, v2, v3, v4⟩ := hV'
  have hI0 : CapInv c on off 0 false := ⟨by omega, by omega, fun h => absurd h (by decide), fun _ => by omega⟩
  obtain ⟨e, ch, run, e1, hI, _, hg, _⟩ := harvest_step (p := q) (t := 1) hV hI0
  obtain ⟨rfl, _, _⟩ := hg hq0 (by omega) (by omega) (by omega)
  rw [e1, Option.bind_some]
  dsimp only
  rw [tricklelaw08_CapacitorWaitTime.j2.eq_2, if_neg (by decide), running_f, Option.bind_some]
  dsimp only
  rw [cap_wrap (x := p) (by omega) (by omega)]
  cases run with
  | true => rw [if_pos rfl]; rfl
  | false =>
    rw [if_neg (by decide)]
    obtain ⟨t, e2, _, t1, t2, t3, t4⟩ := wait_step hV hI hp0 (by omega)
    rw [e2, Option.bind_some]
    dsimp only
    rw [if_pos rfl, if_neg (by omega)]
    obtain ⟨i1, i2, i3, i4⟩ := hI
    have hch := i4 rfl
    rcases hi with rfl | rfl
    · have hr : rd [0, 1] 0 = 0 := rfl
      rw [hr, cap_wrap (x := t - 0) (by omega) (by omega)]
      obtain ⟨e, ch', run', e3, hI', _, hg, _⟩ := harvest_step (p := p) (t := t - 0) hV ⟨i1, i2, i3, i4⟩
      obtain ⟨rfl, hc, hr'⟩ := hg (by omega) (by omega) (by omega) (by omega)
      rw [Int.sub_zero] at hc hr'
      have m0 : on ≤ min c (ch + p * t) := Int.le_min.2 ⟨v3, by omega⟩
      have hr2 : run' = true := by rw [hr', decide_eq_true m0]; rfl
      subst hr2
      rw [e3, Option.bind_some]
      dsimp only
      rw [if_pos rfl, running_f, Option.bind_some]
      dsimp only
      rw [if_neg (by decide)]
      rw [show wrap64 (0 + 1) = 1 by decide +kernel]
      exact rest rfl
    · have hr : rd [0, 1] 1 = 1 := rfl
      rw [hr, cap_wrap (x := t - 1) (by omega) (by omega)]
      obtain ⟨e, ch', run', e3, hI', _, hg, _⟩ := harvest_step (p := p) (t := t - 1) hV ⟨i1, i2, i3, i4⟩
      obtain ⟨rfl, hc, hr'⟩ := hg (by omega) (by omega) (by omega) (by omega)
      have m0 : min c (ch + p * (t - 1)) ≤ ch + p * (t - 1) := Int.min_le_right _ _
      have hr2 : run' = false := by rw [hr', decide_eq_false (by omega)]; rfl
      subst hr2
      rw [e3, Option.bind_some]
      dsimp only
      rw [if_pos rfl, running_f, Option.bind_some]
      dsimp only
      rw [if_neg (by decide)]
      rw [show wrap64 (1 + 1) = 2 by decide +kernel]
      exact rest2 rfl

theorem CapacitorWaitTime (c on off q p : Int) (hq0 : 0 ≤ q) (hq1 : q ≤ 65535) (hp0 : 0 ≤ p) (hp1 : p ≤ 65535) : ∃ k, tricklelaw08_CapacitorWaitTime.f k c on off q p = some true := by
  refine ⟨10 + 1, ?_⟩
  unfold tricklelaw08_CapacitorWaitTime.f
  rw [cap_awake, Option.bind_some, if_pos rfl]
  rcases valid_some c on off with ⟨e, hV⟩ | ⟨e, _⟩
  · rw [e, Option.bind_some, if_pos rfl, tricklelaw08_CapacitorWaitTime.j0.eq_2]
    by_cases hp : p = 0
    · rw [if_pos (by rw [hp]; rfl)]
    · rw [if_neg (by simpa using hp), Option.bind_some]
      have h2 : tricklelaw08_CapacitorWaitTime.l0 6 q p [0, 1] 2 2 c on off = some true := by rw [tricklelaw08_CapacitorWaitTime.l0.eq_2, if_neg (by omega)]
      have h1 : tricklelaw08_CapacitorWaitTime.l0 8 q p [0, 1] 2 1 c on off = some true := time_l0 c on off q p hV hq0 hq1 (by omega) hp1 6 1 (.inr rfl) (fun h => absurd h (by decide)) (fun _ => h2)
      exact time_l0 c on off q p hV hq0 hq1 (by omega) hp1 8 0 (.inl rfl) (fun _ => h1) (fun h => absurd h (by decide))
  · rw [e, Option.bind_some, if_neg (by decide), tricklelaw08_CapacitorWaitTime.j0.eq_2, if_pos rfl]
end Go.Proofs.Ytifogngffmhmaaa.QAl

/- CapacitorMatchesModel, the statement over numbers alone. -/
import Derived.Test.YtifogngffmhmaaaMmA
import Derived.Test.YtifogngffmhmaaaCap
namespace Go.Proofs.Ytifogngffmhmaaa.QAl
open Go.RowKit Go.Proofs.YtifogngffmhmaaaW.PrintWords Go.Proofs.YtifogngffmhmaaaW.PrintLast Go.Proofs.YtifogngffmhmaaaW.PrintMore
set_option linter.unusedVariables false
set_option linter.unusedSimpArgs false

theorem draw_ref {c on off ch n : Int} {run : Bool} (hV : CapOk c on off) (hI : CapInv c on off ch run) (hn : n ≤ 9223372036854775807) :
    ∃ r ch' run', capacitor_Capacitor_Draw.f c on off ch run n = some (r, c, on, off, ch', run') ∧ trickleref08_Draw.f c on off ch run n = some (c, on, off, ch', run', r) ∧ CapInv c on off ch' run' := by
  obtain ⟨r, ch', run', e, hI', _, h1, h2⟩ := draw_step hV hI hn
  refine ⟨r, ch', run', e, ?_, hI'⟩
  obtain ⟨i1, i2, i3, i4⟩ := hI
  obtain ⟨v1, v2, v3, v4⟩ := hV
  unfold trickleref08_Draw.f
  cases run with
  | false =>
    obtain ⟨rfl, rfl, rfl⟩ := h2 (.inl rfl)
    rw [if_neg (by decide)]
  | true =>
    rw [if_pos rfl]
    by_cases h0 : n < 0
    · obtain ⟨rfl, rfl, rfl⟩ := h2 (.inr h0)
      rw [if_pos h0]
    · obtain ⟨e1, e2, e3⟩ := h1 rfl (by omega)
      rw [if_neg h0]
      by_cases h3 : n > ch
      · have hm : max 0 (ch - n) = 0 := Int.max_eq_left (by omega)
        rw [hm] at e1 e2
        rw [if_pos h3, e3, e2, e1]
      · have hm : max 0 (ch - n) = ch - n := Int.max_eq_right (by omega)
        rw [hm] at e1 e2
        rw [if_neg h3, e3, e2, e1, cap_wrap (x := ch - n) (by omega) (by omega)]

theorem harvest_ref {c on off ch p t : Int} {run : Bool} (hV : CapOk c on off) (hI : CapInv c on off ch run) :
    ∃ e ch' run', capacitor_Capacitor_Harvest.f c on off ch run p t = some (e, c, on, off, ch', run') ∧ trickleref08_Harvest.f c on off ch run p t = some (c, on, off, ch', run', e) ∧ CapInv c on off ch' run' := by
  obtain ⟨e, ch', run', e1, hI', _, h1, h2⟩ := harvest_step (p := p) (t := t) hV hI
  refine ⟨e, ch', run', e1, ?_, hI'⟩
  clear h1 h2 hI'
  unfold capacitor_Capacitor_Harvest.f at e1
  unfold trickleref08_Harvest.f
  by_cases h0 : p < 0
  · rw [if_pos h0] at e1
    rw [if_neg (by omega)]
    simp only [Option.some.injEq, Prod.mk.injEq] at e1
    obtain ⟨rfl, _, _, _, rfl, rfl⟩ := e1
    rfl
  rw [if_neg h0] at e1
  rw [if_pos (by omega)]
  by_cases h1 : p > 1048576
  · rw [if_pos h1] at e1
    rw [if_neg (by omega)]
    simp only [Option.some.injEq, Prod.mk.injEq] at e1
    obtain ⟨rfl, _, _, _, rfl, rfl⟩ := e1
    rfl
  rw [if_neg h1] at e1
  rw [if_pos (by omega)]
  by_cases h2 : t < 0
  · rw [if_pos h2] at e1
    rw [if_neg (by omega)]
    simp only [Option.some.injEq, Prod.mk.injEq] at e1
    obtain ⟨rfl, _, _, _, rfl, rfl⟩ := e1
    rfl
  rw [if_neg h2] at e1
  rw [if_pos (by omega)]
  by_cases h3 : t > 1099511627776
  · rw [if_pos h3] at e1
    rw [if_neg (by omega)]
    simp only [Option.some.injEq, Prod.mk.injEq] at e1
    obtain ⟨rfl, _, _, _, rfl, rfl⟩ := e1
    rfl
  rw [if_neg h3] at e1
  rw [if_pos (by omega)]
  simp only [Option.some.injEq, Prod.mk.injEq] at e1
  obtain ⟨rfl, _, _, _, rfl, rfl⟩ := e1
  rfl

theorem wait_ref {c on off ch p : Int} {run : Bool} (hV : CapOk c on off) (hI : CapInv c on off ch run) (k : Nat) :
    ∃ t b, capacitor_Capacitor_WaitTime.f c on off ch run p = some (t, b, c, on, off, ch, run) ∧ trickleref08_WaitTime.f (k + 1) c on off ch run p = some (t, b) := by
  cases run with
  | true =>
    refine ⟨0, true, ?_, ?_⟩
    · unfold capacitor_Capacitor_WaitTime.f; rw [if_pos rfl]
    · unfold trickleref08_WaitTime.f; rw [if_pos rfl]
  | false =>
    by_cases h1 : p < 1
    · refine ⟨0, false, ?_, ?_⟩
      · unfold capacitor_Capacitor_WaitTime.f; rw [if_neg (by decide), if_pos h1]
      · unfold trickleref08_WaitTime.f; rw [if_neg (by decide), if_pos h1, trickleref08_WaitTime.j0.eq_2, if_pos rfl]
    · by_cases h2 : p > 1048576
      · refine ⟨0, false, ?_, ?_⟩
        · unfold capacitor_Capacitor_WaitTime.f; rw [if_neg (by decide), if_neg h1, if_pos h2]
        · unfold trickleref08_WaitTime.f; rw [if_neg (by decide), if_neg h1, trickleref08_WaitTime.j0.eq_2, if_pos (decide_eq_true h2)]
      · obtain ⟨t, e, _, t1, t2, t3, t4⟩ := wait_step (p := p) hV hI (by omega) (by omega)
        refine ⟨t, true, e, ?_⟩
        obtain ⟨i1, i2, i3, i4⟩ := hI
        obtain ⟨v1, v2, v3, v4⟩ := hV
        have hd := i4 rfl
        unfold trickleref08_WaitTime.f
        rw [if_neg (by decide), if_neg h1, trickleref08_WaitTime.j0.eq_2, if_neg (by rw [decide_eq_false h2]; decide), if_neg (by omega)]
        have q0 : 0 ≤ (on - ch) / p := Int.ediv_nonneg (by omega) (by omega)
        have q1 : (on - ch) / p ≤ on - ch := Int.ediv_le_self _ (by omega)
        have hm := Int.mul_ediv_add_emod (on - ch) p
        have hr0 := Int.emod_nonneg (on - ch) (show p ≠ 0 by omega)
        have hr1 := Int.emod_lt_of_pos (on - ch) (show 0 < p by omega)
        have e1 : Int.tdiv (on - ch) p = (on - ch) / p := Int.tdiv_eq_ediv_of_nonneg (by omega)
        rw [cap_wrap (x := on - ch) (by omega) (by omega), e1]
        generalize (on - ch) / p = q at *
        generalize (on - ch) % p = r at *
        have uniq : ∀ u, on - ch ≤ p * u → p * (u - 1) < on - ch → u = t := by
          intro u a b
          rcases Int.lt_trichotomy u t with h | h | h
          · have := Int.mul_le_mul_of_nonneg_left (show u ≤ t - 1 by omega) (show 0 ≤ p by omega); omega
          · exact h
          · have := Int.mul_le_mul_of_nonneg_left (show t ≤ u - 1 by omega) (show 0 ≤ p by omega); omega
        rw [Int.mul_comm p q] at hm
        have hqp : 0 ≤ q * p := Int.mul_nonneg q0 (by omega)
        rw [cap_wrap (x := q) (by omega) (by omega), cap_wrap (x := q * p) (by omega) (by omega), cap_wrap (x := q + 1) (by omega) (by omega)]
        by_cases hc : q * p < on - ch
        · rw [if_pos hc, uniq (q + 1) (by rw [Int.mul_add, Int.mul_one, Int.mul_comm p q]; omega) (by rw [show q + 1 - 1 = q by omega, Int.mul_comm p q]; omega)]
        · rw [if_neg hc, uniq q (by rw [Int.mul_comm p q]; omega) (by rw [Int.mul_sub, Int.mul_one, Int.mul_comm p q]; omega)]

theorem match_l0 (l : List S34) (c on off p : Int) (hV : CapOk c on off) (hlen : (l.length : Int) ≤ 60) (hb : ∀ i : Int, 0 ≤ i → i < (l.length : Int) → (rd_T34 l i).f1 ≤ 9223372036854775807) :
    ∀ (n : Nat) (K : Nat) (i ch : Int) (run : Bool), (l.length : Int) - i ≤ n → 2 * n + 3 ≤ K → 0 ≤ i → CapInv c on off ch run →
      mm.l0 K p l (l.length : Int) i c on off ch run c on off ch run = some true := by
  intro n
  induction n with
  | zero =>
    intro K i ch run h1 h2 h3 hI
    obtain ⟨k, rfl⟩ : ∃ k, K = k + 1 := ⟨K - 1, by omega⟩
    rw [mm.l0.eq_2, if_neg (by omega)]
  | succ n ih =>
    intro K i ch run h1 h2 h3 hI
    obtain ⟨k, rfl⟩ : ∃ k, K = k + 1 + 1 + 1 := ⟨K - 3, by omega⟩
    by_cases hi : i < (l.length : Int)
    · have j2 : ∀ ch run, CapInv c on off ch run → mm.j2 (k + 1 + 1) p l (l.length : Int) i c on off ch run c on off ch run = some true := by
        intro ch run hI
        obtain ⟨t, b, e1, e2⟩ := wait_ref (p := p) hV hI k
        rw [mm.j2.eq_2, e1, Option.bind_some, e2, Option.bind_some]
        dsimp only
        rw [charge_f, Option.bind_some]
        dsimp only
        rw [if_pos rfl, running_f, Option.bind_some]
        dsimp only
        rw [if_neg (show ¬ (run != run) = true by cases run <;> decide), if_pos rfl, if_neg (show ¬ (b != b) = true by cases b <;> decide), cap_wrap (x := i + 1) (by omega) (by omega)]
        exact ih (k + 1) (i + 1) ch run (by omega) (by omega) (by omega) hI
      have hbi := hb i h3 hi
      rw [mm.l0.eq_2, if_pos hi, if_pos h3, if_pos hi]
      by_cases hd : (rd_T34 l i).f0 = true
      · obtain ⟨r, ch', run', e1, e2, hI'⟩ := draw_ref hV hI hbi
        rw [if_pos hd, e1, Option.bind_some, e2, Option.bind_some]
        dsimp only
        rw [if_neg (show ¬ (r != r) = true by cases r <;> decide)]
        exact j2 _ _ hI'
      · obtain ⟨r, ch', run', e1, e2, hI'⟩ := harvest_ref (p := (rd_T34 l i).f1) (t := (rd_T34 l i).f2) hV hI
        rw [if_neg hd, e1, Option.bind_some, e2, Option.bind_some]
        dsimp only
        rw [if_pos rfl]
        exact j2 _ _ hI'
    · rw [mm.l0.eq_2, if_neg hi]

theorem CapacitorMatchesModel (c on off p : Int) (l : List S34) (hV : CapOk c on off) (hb : ∀ x ∈ l, x.f1 ≤ 9223372036854775807) : ∃ k, mm.f k c on off l p = some true := by
  obtain ⟨K, hK⟩ : ∃ K : Nat, 300 ≤ K := ⟨300, Nat.le_refl _⟩
  refine ⟨K, ?_⟩
  obtain ⟨k, rfl⟩ : ∃ k, K = k + 1 := ⟨K - 1, by omega⟩
  unfold mm.f
  rw [cap_awake, Option.bind_some, if_pos rfl]
  by_cases hlen : (l.length : Int) > 60
  · rw [if_pos hlen]
  · rw [if_neg hlen, config_f, Option.bind_some]
    dsimp only
    rw [new_ok hV, Option.bind_some]
    dsimp only
    rcases valid_some c on off with ⟨e, _⟩ | ⟨_, h⟩
    · rw [e, Option.bind_some, if_pos rfl, if_pos rfl, mm.j0.eq_2, if_neg (by decide)]
      obtain ⟨v1, v2, v3, v4⟩ := hV
      refine match_l0 l c on off p ⟨v1, v2, v3, v4⟩ (by omega) (fun i h0 h1 => ?_) 60 k 0 0 false (by omega) (by omega) (by omega) ⟨by omega, by omega, fun h => absurd h (by decide), fun _ => by omega⟩
      unfold rd_T34
      rw [List.getD_eq_getElem?_getD, List.getElem?_eq_getElem (by omega), Option.getD_some]
      exact hb _ (List.getElem_mem _)
    · exact absurd hV h
end Go.Proofs.Ytifogngffmhmaaa.QAl

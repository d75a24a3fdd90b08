/- CapacitorBounds, the statement over numbers alone. -/
import Derived.Test.YtifogngffmhmaaaQAlx4
import Derived.Test.YtifogngffmhmaaaCap
namespace Go.Proofs.Ytifogngffmhmaaa.QAl
open Go.RowKit Go.Proofs.YtifogngffmhmaaaW.PrintWords Go.Proofs.YtifogngffmhmaaaW.PrintLast Go.Proofs.YtifogngffmhmaaaW.PrintMore
set_option linter.unusedVariables false
set_option linter.unusedSimpArgs false

theorem bounds_l0 (l : List S34) (c on off : Int) (hV : CapOk c on off) (hlen : (l.length : Int) ≤ 60) (hb : ∀ i : Int, 0 ≤ i → i < (l.length : Int) → (rd_T34 l i).f1 ≤ 9223372036854775807) :
    ∀ (n : Nat) (K : Nat) (i ch : Int) (run : Bool), (l.length : Int) - i ≤ n → 2 * n + 2 ≤ K → 0 ≤ i → CapInv c on off ch run →
      tricklelaw08_CapacitorBounds.l0 K l (l.length : Int) i c on off c on off ch run = some true := by
  intro n
  induction n with
  | zero =>
    intro K i ch run h1 h2 h3 hI
    obtain ⟨k, rfl⟩ : ∃ k, K = k + 1 := ⟨K - 1, by omega⟩
    rw [tricklelaw08_CapacitorBounds.l0.eq_2, if_neg (by omega)]
  | succ n ih =>
    intro K i ch run h1 h2 h3 hI
    obtain ⟨k, rfl⟩ : ∃ k, K = k + 1 + 1 := ⟨K - 2, by omega⟩
    by_cases hi : i < (l.length : Int)
    · have j2 : ∀ ch run, CapInv c on off ch run → tricklelaw08_CapacitorBounds.j2 (k + 1) l (l.length : Int) i c on off c on off ch run = some true := by
        intro ch run hI
        obtain ⟨i1, i2, i3, i4⟩ := hI
        rw [tricklelaw08_CapacitorBounds.j2.eq_2, charge_f, Option.bind_some]
        dsimp only
        rw [if_neg (by omega), charge_f, Option.bind_some]
        dsimp only
        rw [if_neg (by omega), running_f, Option.bind_some]
        dsimp only
        rw [cap_wrap (x := i + 1) (by omega) (by omega)]
        cases run with
        | true =>
          have := i3 rfl
          rw [if_pos rfl, charge_f, Option.bind_some]
          dsimp only
          rw [if_neg (by omega)]
          exact ih k (i + 1) ch true (by omega) (by omega) (by omega) ⟨i1, i2, i3, i4⟩
        | false =>
          rw [if_neg (by decide)]
          exact ih k (i + 1) ch false (by omega) (by omega) (by omega) ⟨i1, i2, i3, i4⟩
      have hbi := hb i h3 hi
      rw [tricklelaw08_CapacitorBounds.l0.eq_2, if_pos hi, if_pos h3, if_pos hi, charge_f, Option.bind_some]
      dsimp only
      by_cases hd : (rd_T34 l i).f0 = true
      · obtain ⟨r, ch', run', e, hI', hle, _⟩ := draw_step (n := (rd_T34 l i).f1) hV hI hbi
        rw [if_pos hd, e, Option.bind_some]
        dsimp only
        rw [charge_f, Option.bind_some]
        dsimp only
        rw [if_neg (by omega)]
        exact j2 _ _ hI'
      · obtain ⟨r, ch', run', e, hI', hle, _⟩ := harvest_step (p := (rd_T34 l i).f1) (t := (rd_T34 l i).f2) hV hI
        rw [if_neg hd, e, Option.bind_some]
        dsimp only
        by_cases he : r = 0
        · rw [if_pos he, charge_f, Option.bind_some]
          dsimp only
          rw [if_neg (by omega)]
          exact j2 _ _ hI'
        · rw [if_neg he]
          exact j2 _ _ hI'
    · rw [tricklelaw08_CapacitorBounds.l0.eq_2, if_neg hi]

theorem CapacitorBounds (c on off : Int) (l : List S34) (hb : ∀ x ∈ l, x.f1 ≤ 9223372036854775807) : ∃ k, tricklelaw08_CapacitorBounds.f k c on off l = some true := by
  obtain ⟨K, hK⟩ : ∃ K : Nat, 300 ≤ K := ⟨300, Nat.le_refl _⟩
  refine ⟨K, ?_⟩
  obtain ⟨k, rfl⟩ : ∃ k, K = k + 1 := ⟨K - 1, by omega⟩
  unfold tricklelaw08_CapacitorBounds.f
  rw [cap_awake, Option.bind_some, if_pos rfl]
  rcases valid_some c on off with ⟨e, hV⟩ | ⟨e, _⟩
  · rw [e, Option.bind_some, if_pos rfl, tricklelaw08_CapacitorBounds.j0.eq_2]
    by_cases hlen : (l.length : Int) > 60
    · rw [if_pos (decide_eq_true hlen)]
    · rw [if_neg (by rw [decide_eq_false hlen]; decide), config_f, Option.bind_some]
      dsimp only
      rw [new_ok hV, Option.bind_some]
      dsimp only
      rw [if_pos rfl]
      obtain ⟨v1, v2, v3, v4⟩ := hV
      refine bounds_l0 l c on off ⟨v1, v2, v3, v4⟩ (by omega) (fun i h0 h1 => ?_) 60 k 0 0 false (by omega) (by omega) (by omega) ⟨by omega, by omega, fun h => absurd h (by decide), fun _ => by omega⟩
      unfold rd_T34
      rw [List.getD_eq_getElem?_getD, List.getElem?_eq_getElem (by omega), Option.getD_some]
      exact hb _ (List.getElem_mem _)
  · rw [e, Option.bind_some, if_neg (by decide), tricklelaw08_CapacitorBounds.j0.eq_2, if_pos rfl]
end Go.Proofs.Ytifogngffmhmaaa.QAl

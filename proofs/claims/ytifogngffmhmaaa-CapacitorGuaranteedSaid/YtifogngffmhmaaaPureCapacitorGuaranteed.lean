/- CapacitorGuaranteed, the statement over numbers alone. -/
import Derived.Test.YtifogngffmhmaaaQAlx7
import Derived.Test.YtifogngffmhmaaaCap
namespace Go.Proofs.Ytifogngffmhmaaa.QAl
open Go.RowKit Go.Proofs.YtifogngffmhmaaaW.PrintWords Go.Proofs.YtifogngffmhmaaaW.PrintLast Go.Proofs.YtifogngffmhmaaaW.PrintMore
set_option linter.unusedVariables false
set_option linter.unusedSimpArgs false

theorem guar_l0 (l : List Int) (c on off : Int) (hV : CapOk c on off) (hlen : (l.length : Int) ≤ 60) (hb : ∀ i : Int, 0 ≤ i → i < (l.length : Int) → 0 ≤ rd l i ∧ rd l i ≤ 65535) :
    ∀ (n : Nat) (K : Nat) (i ch left : Int), (l.length : Int) - i ≤ n → n + 1 ≤ K → 0 ≤ i → CapInv c on off ch true → off + left + 1 ≤ ch → 0 ≤ left →
      tricklelaw08_CapacitorGuaranteed.l0 K left l (l.length : Int) i c on off ch true = some true := by
  intro n
  induction n with
  | zero =>
    intro K i ch left h1 h2 h3 hI hl h0
    obtain ⟨k, rfl⟩ : ∃ k, K = k + 1 := ⟨K - 1, by omega⟩
    rw [tricklelaw08_CapacitorGuaranteed.l0.eq_2, if_neg (by omega)]
  | succ n ih =>
    intro K i ch left h1 h2 h3 hI hl h0
    obtain ⟨k, rfl⟩ : ∃ k, K = k + 1 := ⟨K - 1, by omega⟩
    by_cases hi : i < (l.length : Int)
    · have hbi := hb i h3 hi
      rw [tricklelaw08_CapacitorGuaranteed.l0.eq_2, if_pos hi, if_pos h3, if_pos hi, cap_wrap (x := rd l i) (by omega) (by omega)]
      by_cases hd : rd l i > left
      · rw [if_pos hd]
      · rw [if_neg hd]
        obtain ⟨r, ch', run', e, hI', hle, hg, _⟩ := draw_step (n := rd l i) hV hI (by omega)
        obtain ⟨g1, g2, g3⟩ := hg rfl hbi.1
        have hV' := hV
        obtain ⟨v1, v2, v3, v4⟩ := hV'
        obtain ⟨i1, i2, i3, i4⟩ := hI
        have m0 : ch - rd l i ≤ max 0 (ch - rd l i) := Int.le_max_right _ _
        have hr : run' = true := by rw [g2]; exact decide_eq_true (by omega)
        subst hr
        subst g3
        rw [e, Option.bind_some]
        dsimp only
        rw [if_pos rfl, running_f, Option.bind_some]
        dsimp only
        rw [if_pos rfl, cap_wrap (x := i + 1) (by omega) (by omega), cap_wrap (x := left - rd l i) (by omega) (by omega)]
        exact ih k (i + 1) ch' (left - rd l i) (by omega) (by omega) (by omega) hI' (by omega) (by omega)
    · rw [tricklelaw08_CapacitorGuaranteed.l0.eq_2, if_neg hi]

theorem guaranteed_f {c on off : Int} (hV : CapOk c on off) : capacitor_Guaranteed.f c on off = some (wrap64 (wrap64 (on - off) - 1)) := by
  obtain ⟨v1, v2, v3, v4⟩ := hV
  unfold capacitor_Guaranteed.f capacitor_Config_valid.f
  rw [if_pos (show off ≥ 0 by omega), if_pos v2, if_pos v3, Option.bind_some, if_pos (decide_eq_true v4)]

theorem CapacitorGuaranteed (c on off p : Int) (l : List Int) (hV : CapOk c on off) (hp0 : 0 ≤ p) (hp1 : p ≤ 65535) (hb : ∀ x ∈ l, 0 ≤ x ∧ x ≤ 65535) : ∃ k, tricklelaw08_CapacitorGuaranteed.f k c on off p l = some true := by
  obtain ⟨K, hK⟩ : ∃ K : Nat, 300 ≤ K := ⟨300, Nat.le_refl _⟩
  refine ⟨K, ?_⟩
  obtain ⟨k, rfl⟩ : ∃ k, K = k + 1 + 1 := ⟨K - 2, by omega⟩
  have hV' := hV
  obtain ⟨v1, v2, v3, v4⟩ := hV'
  unfold tricklelaw08_CapacitorGuaranteed.f
  rw [cap_awake, Option.bind_some, if_pos rfl, config_f, Option.bind_some]
  dsimp only
  rw [new_ok hV, Option.bind_some]
  dsimp only
  rcases valid_some c on off with ⟨e, _⟩ | ⟨_, h⟩
  · rw [e, Option.bind_some, if_pos rfl, if_pos rfl]
    by_cases hp : p = 0
    · rw [if_pos hp, tricklelaw08_CapacitorGuaranteed.j0.eq_2, if_pos rfl]; rfl
    · rw [if_neg hp, tricklelaw08_CapacitorGuaranteed.j0.eq_2]
      by_cases hlen : (l.length : Int) > 60
      · rw [if_pos (decide_eq_true hlen)]; rfl
      · have hI0 : CapInv c on off 0 false := ⟨by omega, by omega, fun h => absurd h (by decide), fun _ => by omega⟩
        obtain ⟨t, e2, _, t1, t2, t3, t4⟩ := wait_step (p := p) hV hI0 (by omega) (by omega)
        rw [if_neg (by rw [decide_eq_false hlen]; decide), cap_wrap (x := p) (by omega) (by omega), e2, Option.bind_some]
        dsimp only
        rw [if_pos rfl]
        obtain ⟨e, ch', run', e3, hI', _, hg, _⟩ := harvest_step (p := p) (t := t) hV hI0
        obtain ⟨rfl, hc, hr'⟩ := hg (by omega) (by omega) (by omega) (by omega)
        have m0 : on ≤ min c (0 + p * t) := Int.le_min.2 ⟨v3, by omega⟩
        have hr2 : run' = true := by rw [hr', decide_eq_true m0]; rfl
        subst hr2
        rw [e3, Option.bind_some]
        dsimp only
        rw [if_pos rfl, running_f, Option.bind_some]
        dsimp only
        rw [tricklelaw08_CapacitorGuaranteed.j1.eq_2, if_neg (by decide), config_f, Option.bind_some]
        dsimp only
        rw [guaranteed_f hV, Option.bind_some, if_pos rfl, cap_wrap (x := on - off) (by omega) (by omega), cap_wrap (x := on - off - 1) (by omega) (by omega)]
        refine guar_l0 l c on off hV (by omega) (fun i h0 h1 => ?_) 60 k 0 ch' (on - off - 1) (by omega) (by omega) (by omega) hI' (by omega) (by omega)
        unfold rd
        rw [List.getD_eq_getElem?_getD, List.getElem?_eq_getElem (by omega), Option.getD_some]
        exact hb _ (List.getElem_mem _)
  · exact absurd hV h
end Go.Proofs.Ytifogngffmhmaaa.QAl

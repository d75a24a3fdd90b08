/- The reference's New, and TimerNoAliasing's walk. -/
import Derived.Test.YtjdpogkddoaioaaWheelC
namespace Go.Proofs.Ytjdpogkddoaioaa.QWh
open Go.RowKit Go.Proofs.YtjdpogkddoaioaaW.PrintWords Go.Proofs.YtjdpogkddoaioaaW.PrintLast Go.Proofs.YtjdpogkddoaioaaW.PrintMore Go.Proofs.Ytjdpogkddoaioaa.Sl
set_option linter.unusedVariables false
set_option linter.unusedSimpArgs false

theorem wakes_at : tricklelaw39_wakes.f 60 = some true := by decide +kernel

/-! ## The reference's New -/
theorem ref_first_good {p start : Int} (h0 : 0 ≤ start) (h1 : start ≤ 1099511627776) (hp : 1 ≤ p ∧ p ≤ 32767) : trickleref39_First.f p start = some (start + p, 0) := by
  unfold trickleref39_First.f trickleref39_Period.f
  rw [if_pos (by omega), decide_eq_true hp.2, Option.bind_some, if_pos rfl, if_neg (by omega), if_neg (by omega)]
  unfold wrap64
  rw [show (start + p + 9223372036854775808) % 18446744073709551616 - 9223372036854775808 = start + p by omega]
theorem ref_first_bad {p start : Int} (hp : ¬ (1 ≤ p ∧ p ≤ 32767)) : trickleref39_First.f p start = some (0, 1) := by
  unfold trickleref39_First.f trickleref39_Period.f
  by_cases h : p ≥ 1
  · rw [if_pos h, decide_eq_false (show ¬ p ≤ 32767 by omega)]; rfl
  · rw [if_neg h]; rfl
instance (p : Int) : Decidable (okP p) := by unfold okP; exact inferInstance
/-- What the reference's New answers. -/
def refNew (ps : List Int) (start : Int) : List Int × List Int × Int :=
  if 0 ≤ start ∧ start ≤ 1099511627776 ∧ ∀ p ∈ ps, okP p then (ps, ps.map (relOf start), 0) else ([], [], 1)
theorem all_okP {ps : List Int} (h : ∀ i, i < ps.length → okP (ps.getD i 0)) : ∀ p ∈ ps, okP p := by
  intro p hp
  obtain ⟨i, hi, rfl⟩ := List.getElem_of_mem hp
  have := h i hi
  rwa [List.getD_eq_getElem?_getD, List.getElem?_eq_getElem hi] at this
theorem refNew_good {ps : List Int} {start : Int} (h0 : 0 ≤ start) (h1 : start ≤ 1099511627776) (h : ∀ p ∈ ps, okP p) : refNew ps start = (ps, ps.map (relOf start), 0) := if_pos ⟨h0, h1, h⟩
theorem refNew_bad {ps : List Int} {start : Int} (h : ¬ (0 ≤ start ∧ start ≤ 1099511627776 ∧ ∀ p ∈ ps, okP p)) : refNew ps start = ([], [], 1) := if_neg h
theorem ref_loop (ps : List Int) (start : Int) (hl : ps.length ≤ 1000) (h0 : 0 ≤ start) (h1 : start ≤ 1099511627776) : ∀ (n j : Nat), ps.length - j ≤ n → j ≤ ps.length → (∀ i, i < j → okP (ps.getD i 0)) →
    trickleref39_New.l0 (n + 1) ps start (j : Int) ps ((ps.take j).map (relOf start)) = some (refNew ps start) := by
  intro n
  induction n with
  | zero =>
    intro j hj1 hj2 hok
    obtain rfl : j = ps.length := by omega
    rw [trickleref39_New.l0.eq_2, if_neg (by omega), refNew_good h0 h1 (all_okP hok), List.take_length]
  | succ n ih =>
    intro j hj1 hj2 hok
    rw [trickleref39_New.l0.eq_2]
    by_cases hj : j < ps.length
    · have hlen : ((ps.take j).map (relOf start)).length = j := by rw [List.length_map, List.length_take]; omega
      have hw : wrap64 ((j : Int) + 1) = ((j + 1 : Nat) : Int) := by unfold wrap64; omega
      have htake : (ps.take (j + 1)).map (relOf start) = (ps.take j).map (relOf start) ++ [relOf start (ps.getD j 0)] := by
        rw [List.take_succ_eq_append_getElem hj, List.map_append, List.getD_eq_getElem?_getD, List.getElem?_eq_getElem hj]; rfl
      rw [if_pos (by omega), if_pos (by omega), rdn, hw]
      have ih := fun h => ih (j + 1) (by omega) (by omega) (okSteps hok h)
      rw [htake] at ih
      have hin := getD_mem hj
      generalize ps.getD j 0 = p at *
      by_cases hp : p = 0
      · subst hp
        have e : relOf start 0 = 0 := by unfold relOf; rw [if_pos rfl]
        rw [e] at ih
        rw [if_pos rfl, if_pos (by omega)]
        exact ih (.inl rfl)
      · have e : relOf start p = start + p := by unfold relOf; rw [if_neg hp]
        rw [e] at ih
        by_cases hpr : 1 ≤ p ∧ p ≤ 32767
        · rw [if_neg hp, ref_first_good h0 h1 hpr, Option.bind_some, if_pos rfl, if_pos (by omega)]
          exact ih (.inr hpr)
        · rw [if_neg hp, ref_first_bad hpr, Option.bind_some, if_neg (by decide), refNew_bad]
          intro h
          exact (h.2.2 p hin).elim hp hpr
    · obtain rfl : j = ps.length := by omega
      rw [if_neg (by omega), refNew_good h0 h1 (all_okP hok), List.take_length]
theorem refNew_f (ps : List Int) (start : Int) (hl : ps.length ≤ 1000) : trickleref39_New.f (ps.length + 2) ps start = some (refNew ps start) := by
  unfold trickleref39_New.f
  by_cases h0 : start < 0
  · rw [if_pos h0, trickleref39_New.j0.eq_2, if_pos rfl, refNew_bad (by omega)]
  · rw [if_neg h0]
    by_cases h1 : start > 1099511627776
    · rw [decide_eq_true h1, trickleref39_New.j0.eq_2, if_pos rfl, refNew_bad (by omega)]
    · rw [decide_eq_false h1, trickleref39_New.j0.eq_2, if_neg (by decide), Option.bind_some, if_pos (by simp; omega)]
      exact ref_loop ps start hl (by omega) (by omega) ps.length 0 (by omega) (by omega) (fun i hi => absurd hi (by omega))
/-- The reference's New, in memory. -/
theorem RefNew {w0 w : World} {L : List Chunk} {A : Option Addr} {c : Nat} (ps : List Int) (start : Int) (hl : ps.length ≤ 1000) (hC : Kd.C (Kd.int .i64) w A ps.length ps) (hc : ps.length ≤ c) (hM : Mem w0 w L) :
    Calls Try.prog 22 #[.slice A ps.length c, .int .i64 start] w fun e w' => ∃ v1 v2, e = .returned (.tuple #[.agg #[v1, v2], .int .i64 (refNew ps start).2.2]) ∧ Mem w0 w' (row2 w0 v1 (refNew ps start).1 v2 (refNew ps start).2.1 :: L) := by
  refine (trickleref39_New.calls (ps.length + 2) A c ps start _ _ _ w hC hc (refNew_f ps start hl)).mono ?_
  rintro e w' ⟨v1, v2, rfl, h1, h2, hb⟩
  exact ⟨v1, v2, rfl, hM.made hb ⟨Kd.R_lower (Kd.R_mono (Kd.R_bound h1) (fun _ hk => hk.2.1)) hM.size, Kd.R_lower (Kd.R_mono (Kd.R_bound h2) (fun _ hk => hk.2.1)) hM.size⟩⟩
end Go.Proofs.Ytjdpogkddoaioaa.QWh

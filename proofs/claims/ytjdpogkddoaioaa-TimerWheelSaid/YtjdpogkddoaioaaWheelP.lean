/- The reference's Fire and Set, over lists alone. -/
import Derived.Test.YtjdpogkddoaioaaReadyR
import Derived.Test.YtjdpogkddoaioaaQWhx6
import Derived.Test.YtjdpogkddoaioaaNoAlias
namespace Go.Proofs.Ytjdpogkddoaioaa.QWh
open Go.RowKit Go.Proofs.YtjdpogkddoaioaaW.PrintWords Go.Proofs.YtjdpogkddoaioaaW.PrintLast Go.Proofs.YtjdpogkddoaioaaW.PrintMore Go.Proofs.Ytjdpogkddoaioaa.Sl
set_option linter.unusedVariables false
set_option linter.unusedSimpArgs false

def goodSet (ps l : List Int) : Prop := l.length = ps.length ∧ ∀ i, i < ps.length → okR (ps.getD i 0) (l.getD i 0)
theorem ref_release (r : Int) : trickleref39_Release.f r = some (decide (0 ≤ r ∧ r ≤ 1099511660543)) := release_f r
theorem set_loop (ps ns l : List Int) (hl : l.length = ps.length) (h9 : ps.length ≤ 1000) : ∀ (n j : Nat), ps.length - j ≤ n → j ≤ ps.length → (∀ i, i < j → okR (ps.getD i 0) (l.getD i 0)) →
    (goodSet ps l → trickleref39_Set.l0 (n + 1) l (j : Int) ps ns = some (ps, l, 0)) ∧ (¬ goodSet ps l → trickleref39_Set.l0 (n + 1) l (j : Int) ps ns = some (ps, ns, 1)) := by
  have last : (∀ i, i < ps.length → okR (ps.getD i 0) (l.getD i 0)) → ∀ k, trickleref39_Set.l0 (k + 1) l (ps.length : Int) ps ns = some (ps, l, 0) := by
    intro h k
    rw [trickleref39_Set.l0.eq_2, if_neg (by omega), Option.bind_some, if_pos (by simp; omega)]
    rfl
  intro n
  induction n with
  | zero =>
    intro j h1 h2 hok
    obtain rfl : j = ps.length := by omega
    exact ⟨fun _ => last hok 0, fun h => absurd ⟨hl, hok⟩ h⟩
  | succ n ih =>
    intro j h1 h2 hok
    by_cases hj : j < ps.length
    · by_cases hr : okR (ps.getD j 0) (l.getD j 0)
      · have ih := ih (j + 1) (by omega) (by omega) (rSteps hok hr)
        have e : trickleref39_Set.l0 (n + 1 + 1) l (j : Int) ps ns = trickleref39_Set.l0 (n + 1) l ((j + 1 : Nat) : Int) ps ns := by
          rw [trickleref39_Set.l0.eq_2, if_pos (by omega), if_pos (by omega), if_pos (by omega), rdn, rdn, wrapn (by omega)]
          unfold okR at hr
          by_cases hp : ps.getD j 0 = 0
          · rw [if_pos hp, if_pos (Classical.byContradiction fun h => hr.1 ⟨hp, h⟩)]
          · rw [if_neg hp, ref_release, decide_eq_true hr.2, Option.bind_some, if_pos rfl]
        rw [e]; exact ih
      · have hb : ¬ goodSet ps l := fun h => hr (h.2 j hj)
        refine ⟨fun h => absurd h hb, fun _ => ?_⟩
        rw [trickleref39_Set.l0.eq_2, if_pos (by omega), if_pos (by omega), if_pos (by omega), rdn, rdn]
        unfold okR at hr
        by_cases hp : ps.getD j 0 = 0
        · rw [if_pos hp, if_neg]
          intro h0
          exact hr ⟨fun h => h.2 h0, by omega, by omega⟩
        · rw [if_neg hp, ref_release, decide_eq_false (fun h => hr ⟨fun h' => hp h'.1, h⟩), Option.bind_some, if_neg (by decide)]
    · obtain rfl : j = ps.length := by omega
      exact ⟨fun _ => last hok _, fun h => absurd ⟨hl, hok⟩ h⟩
theorem refSet_good {ps ns l : List Int} (h9 : ps.length ≤ 1000) (h : goodSet ps l) : trickleref39_Set.f (ps.length + 1) ps ns l = some (ps, l, 0) := by
  unfold trickleref39_Set.f
  rw [if_pos (by have := h.1; omega)]
  exact (set_loop ps ns l h.1 h9 ps.length 0 (by omega) (by omega) (fun i hi => absurd hi (by omega))).1 h
theorem refSet_bad {ps ns l : List Int} (h9 : ps.length ≤ 1000) (h : ¬ goodSet ps l) : trickleref39_Set.f (ps.length + 1) ps ns l = some (ps, ns, 1) := by
  unfold trickleref39_Set.f
  by_cases hl : l.length = ps.length
  · rw [if_pos (by omega)]
    exact (set_loop ps ns l hl h9 ps.length 0 (by omega) (by omega) (fun i hi => absurd hi (by omega))).2 h
  · rw [if_neg (by omega)]

/-! ## Fire -/
/-- Advance at a good release: the new release, the skipped ones, the error. -/
def advW (n p lo : Int) : Int × Int × Int := if n ≤ lo then (advAt n p lo, (lo - n) / p, 0) else (0, 0, 10)
theorem adv_any {n p lo hi : Int} (hn : 0 ≤ n) (hn2 : n ≤ 1099511660543) (hp1 : 1 ≤ p) (hp2 : p ≤ 32767) (hi' : okI lo hi) : timer_Advance.f 2 n p lo hi = some (advW n p lo) := by
  unfold advW
  by_cases h : n ≤ lo
  · rw [if_pos h]; exact adv_f hn hp1 hp2 hi' h
  · rw [if_neg h]
    unfold timer_Advance.f
    rw [release_f, decide_eq_true ⟨hn, hn2⟩, Option.bind_some, if_pos rfl]
    unfold timer_period.f
    rw [if_pos (by omega), decide_eq_true hp2, Option.bind_some, if_pos rfl, valid_f, decide_eq_true hi', Option.bind_some, timer_Advance.j0.eq_2, if_neg (by decide), due_f, decide_eq_false h, Option.bind_some, if_neg (by decide)]
theorem ref_adv (k : Nat) (n p lo hi : Int) : trickleref39_Advance.f k n p lo hi = timer_Advance.f k n p lo hi := by
  cases k <;> rfl
/-- What the reference's Fire answers: the releases, the skipped ones, the error. -/
def fireW (ps ns : List Int) (t lo hi : Int) : List Int × Int × Int :=
  if 0 ≤ t ∧ t < (ps.length : Int) ∧ okI lo hi then
    (if ps.getD t.toNat 0 = 0 then (ns, 0, 5)
     else if ns.getD t.toNat 0 ≤ lo then (ns.set t.toNat (advAt (ns.getD t.toNat 0) (ps.getD t.toNat 0) lo), (lo - ns.getD t.toNat 0) / ps.getD t.toNat 0, 0) else (ns, 0, 10))
  else (ns, 0, 1)
theorem refFire_f (ps ns : List Int) (t lo hi : Int) (hl : ns.length = ps.length) (h9 : ps.length ≤ 1000) (hp : ∀ p ∈ ps, okP p) (hok : ∀ i, i < ps.length → okR (ps.getD i 0) (ns.getD i 0)) : trickleref39_Fire.f 3 ps ns t lo hi = some (ps, fireW ps ns t lo hi) := by
  unfold trickleref39_Fire.f fireW
  by_cases h0 : t < 0
  · rw [if_pos h0, trickleref39_Fire.j0.eq_2, if_pos rfl, if_neg (by omega)]
  rw [if_neg h0]
  by_cases h1 : t ≥ (ps.length : Int)
  · rw [if_pos h1, trickleref39_Fire.j0.eq_2, if_pos rfl, if_neg (by omega)]
  rw [if_neg h1, show trickleref39_Interval.f lo hi = some (decide (okI lo hi)) from valid_f lo hi, Option.bind_some]
  by_cases hi' : okI lo hi
  · obtain ⟨j, rfl⟩ := Int.eq_ofNat_of_zero_le (show 0 ≤ t by omega)
    have hj : j < ps.length := by omega
    rw [decide_eq_true hi', if_pos ⟨by omega, by omega, hi'⟩, trickleref39_Fire.j0.eq_2, if_neg (by decide), if_pos (by omega), if_pos (by omega), rdn, rdn, Int.toNat_natCast]
    by_cases hz : ps.getD j 0 = 0
    · rw [if_pos hz, if_pos hz]
    · have hpp := (hp _ (getD_mem hj)).resolve_left hz
      have hr := hok j hj
      rw [if_neg hz, if_neg hz, if_pos (by omega), ref_adv, adv_any hr.2.1 hr.2.2 hpp.1 hpp.2 hi', Option.bind_some]
      unfold advW
      by_cases hd : ns.getD j 0 ≤ lo
      · rw [if_pos hd, if_pos hd, if_pos rfl, Option.bind_some, if_pos (by simp; omega), Option.bind_some, if_pos (by simp; omega)]
        rfl
      · rw [if_neg hd, if_neg hd, if_neg (by decide)]
  · rw [decide_eq_false hi', if_neg (fun h => hi' h.2.2), trickleref39_Fire.j0.eq_2, if_pos (by decide)]
/-- What always holds of a wheel. -/
structure WInv (ps ns : List Int) : Prop where
  per : ∀ p ∈ ps, okP p
  len : ns.length = ps.length
  ok : ∀ i, i < ps.length → okR (ps.getD i 0) (ns.getD i 0)
theorem WInv.fire {ps ns : List Int} (h : WInv ps ns) (t lo hi : Int) : WInv ps (fireW ps ns t lo hi).1 := by
  unfold fireW
  by_cases hg : 0 ≤ t ∧ t < (ps.length : Int) ∧ okI lo hi
  · rw [if_pos hg]
    obtain ⟨j, rfl⟩ := Int.eq_ofNat_of_zero_le hg.1
    have hj : j < ps.length := by omega
    rw [Int.toNat_natCast]
    by_cases hz : ps.getD j 0 = 0
    · rw [if_pos hz]; exact h
    · rw [if_neg hz]
      by_cases hd : ns.getD j 0 ≤ lo
      · rw [if_pos hd]
        have hi' := hg.2.2
        unfold okI at hi'
        have := Fired.step (ns0 := ns) (done := []) ⟨h.len, h.ok, fun _ _ h => absurd h (by simp), fun _ _ _ => rfl⟩ h.per hi'.1 (by omega) hj hz hd
        exact ⟨h.per, this.len, this.ok⟩
      · rw [if_neg hd]; exact h
  · rw [if_neg hg]; exact h
theorem WInv.set {ps ns l : List Int} (h : WInv ps ns) (hg : goodSet ps l) : WInv ps l := ⟨h.per, hg.1, hg.2⟩
theorem WInv.new {ps : List Int} {start : Int} (h : 0 ≤ start ∧ start ≤ 1099511627776 ∧ ∀ p ∈ ps, okP p) : WInv ps (ps.map (relOf start)) :=
  ⟨h.2.2, List.length_map _, fun i hi => (rel_at (start := start) hi) ▸ okR_rel h.1 h.2.1 (h.2.2 _ (getD_mem hi))⟩
end Go.Proofs.Ytjdpogkddoaioaa.QWh

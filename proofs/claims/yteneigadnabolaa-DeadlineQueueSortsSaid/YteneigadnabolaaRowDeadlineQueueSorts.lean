/- DeadlineQueueSorts holds: for every input the law answers true and leaves its arguments as they were. -/
import Derived.Test.YteneigadnabolaaLwS
import Derived.Test.YteneigadnabolaaKa
namespace Go.Proofs.Yteneigadnabolaa.RowDeadlineQueueSorts
open Go.RowKit Go.WideShapes Go.ChangeShapes Go.Proofs.YteneigadnabolaaW.PrintWords Go.Proofs.Yteneigadnabolaa.Ka
theorem own : ownKnob Try.prog.godebug = none := by kernel_rfl
theorem laidOut : laidOutB Try.prog = true := by kernel_rfl
section
variable {H : Type} {enc : TypeId × Value → H} {w : World}
def Good27 (x : QAl.S27) : Prop := ((Lit.int .i64 x.f0).wf = true) ∧ ((Lit.int .i64 x.f1).wf = true) ∧ ((Lit.int .i64 x.f2).wf = true)
theorem open27 : Opens enc Try.prog w 27 QAl.k27 Good27 :=
  opens_iso (fun x : QAl.S27 => (x.f0, x.f1, x.f2)) (fun p => ⟨p.1, p.2.1, p.2.2⟩) (fun _ => rfl) ((opens_struct Try.underlying27 (by kernel_rfl) (opensF_cons rfl (by kernel_rfl) (opens_int Try.underlying3) (opensF_cons rfl (by kernel_rfl) (opens_int Try.underlying3) (opensF_one rfl (by kernel_rfl) (opens_int Try.underlying2))))).imp fun x hx => hx)
end
set_option maxRecDepth 100000 in
theorem lifted (os : Os) (started : os.Started) (H : Type) (enc : TypeId × Value → H) :
    ReturnsInHanded {} Try.checked os 3 .any (Rows.deadlineQueueSortsSpec.pre6 enc Try.prog Try.f3 Rows.deadlineQueueSortsRow.domain false) (Rows.deadlineQueueSortsSpec.post enc Try.prog Try.f3 false true false false) := by
  refine law_lifted (C := Try.checked) (rt := 4) own started (by kernel_rfl) Try.func3
    (ChangeSpec.witness6 (enc := enc) (C := Try.checked) false ⟨#[], #[.slice none 0 0], []⟩ 8 (by kernel_rfl) (by kernel_rfl) (by kernel_rfl) (by kernel_rfl)) laidOut rfl (by kernel_rfl) rfl Try.underlying4 ?_ ?_
  · intro ds hds
    match ds, hds with
    | [d0], _ => rfl
  · intro W args ds pl hval0 hA0 hw0
    have hval : ∀ (j : Nat) t v, Try.f3.params[j]? = some t → args[j]? = some v → ∃ base, Value.okWide Try.prog W .any base t v := hval0
    have hA : DataW.TrodAll enc Try.prog W 0 (fun _ => true) true Try.f3.params.toList args.toList ds pl := hA0
    have hw : ∀ n ∈ DataW.weightsEach Try.prog Try.f3.params.toList ds, n ≤ reachBytes := hw0
    rw [Try.params3] at hA hval hw
    clear hval0 hA0 hw0
    obtain ⟨v0, vs0, ds0, ps0, x0, e0, K0, g0, hA0, hw0⟩ := args_cons hA hw (opens_slice Try.underlying22 (by kernel_rfl) open27)
    have hn := args_nil hA0
    obtain rfl : args = #[v0] := by
      have : args.toList = [v0] := by rw [e0, hn]
      exact Array.ext' this
    obtain ⟨A0, c0, hv0, hc0, hr0⟩ := K0
    obtain rfl := val_slice Try.underlying22 (hval 0 22 v0 rfl rfl) hv0
    exact QAl.Sorts_row A0 c0 x0 W hr0 hc0 g0
theorem holds : Rows.DeadlineQueueSortsSaid :=
  OpenClaim.holds_of_wide 3 Try.f3 rfl rfl rfl rfl rfl rfl rfl ⟨rfl, rfl, rfl, rfl, rfl⟩ rfl rfl rfl rfl rfl (by kernel_rfl) Try.func3 (by kernel_rfl)
    (of_decide_eq_true (by kernel_rfl)) (by unfold Func.isWrapper; first | (rw [if_pos (by decide +kernel)]; kernel_rfl) | (rw [if_neg (by decide +kernel)]; exact ⟨rfl, rfl⟩))
    (fun os started H enc _ => lifted os started H enc)
#print axioms holds
end Go.Proofs.Yteneigadnabolaa.RowDeadlineQueueSorts

/- DeadlineQueueMonotone holds: for every input the law answers true and leaves its arguments as they were. -/
import Derived.Test.YteneigadnabolaaLwN
import Derived.Test.YteneigadnabolaaKa
namespace Go.Proofs.Yteneigadnabolaa.RowDeadlineQueueMonotone
open Go.RowKit Go.WideShapes Go.ChangeShapes Go.Proofs.YteneigadnabolaaW.PrintWords Go.Proofs.Yteneigadnabolaa.Ka
theorem own : ownKnob Try.prog.godebug = none := by kernel_rfl
theorem laidOut : laidOutB Try.prog = true := by kernel_rfl
section
variable {H : Type} {enc : TypeId × Value → H} {w : World}
def Good30 (x : QAl.S30) : Prop := ((Lit.int .i64 x.f0).wf = true) ∧ ((Lit.int .i64 x.f1).wf = true)
theorem open30 : Opens enc Try.prog w 30 QAl.k30 Good30 :=
  opens_iso (fun x : QAl.S30 => (x.f0, x.f1)) (fun p => ⟨p.1, p.2⟩) (fun _ => rfl) ((opens_struct Try.underlying30 (by kernel_rfl) (opensF_cons rfl (by kernel_rfl) (opens_int Try.underlying3) (opensF_one rfl (by kernel_rfl) (opens_int Try.underlying2)))).imp fun x hx => hx)
end
set_option maxRecDepth 100000 in
theorem lifted (os : Os) (started : os.Started) (H : Type) (enc : TypeId × Value → H) :
    ReturnsInHanded {} Try.checked os 6 .any (Rows.deadlineQueueMonotoneSpec.pre6 enc Try.prog Try.f6 Rows.deadlineQueueMonotoneRow.domain false) (Rows.deadlineQueueMonotoneSpec.post enc Try.prog Try.f6 false true false false) := by
  refine law_lifted (C := Try.checked) (rt := 4) own started (by kernel_rfl) Try.func6
    (ChangeSpec.witness6 (enc := enc) (C := Try.checked) false ⟨#[], #[.int .i64 0, .agg #[.slice none 0 0, .slice none 0 0], .int .u8 0], []⟩ 8 (by kernel_rfl) (by kernel_rfl) (by kernel_rfl) (by kernel_rfl)) laidOut rfl (by kernel_rfl) rfl Try.underlying4 ?_ ?_
  · intro ds hds
    match ds, hds with
    | [d0, d1, d2], _ => rfl
  · intro W args ds pl hval0 hA0 hw0
    have hval : ∀ (j : Nat) t v, Try.f6.params[j]? = some t → args[j]? = some v → ∃ base, Value.okWide Try.prog W .any base t v := hval0
    have hA : DataW.TrodAll enc Try.prog W 0 (fun _ => true) true Try.f6.params.toList args.toList ds pl := hA0
    have hw : ∀ n ∈ DataW.weightsEach Try.prog Try.f6.params.toList ds, n ≤ reachBytes := hw0
    rw [Try.params6] at hA hval hw
    clear hval0 hA0 hw0
    obtain ⟨v0, vs0, ds0, ps0, x0, e0, K0, g0, hA0, hw0⟩ := args_cons hA hw (opens_int Try.underlying2)
    obtain ⟨v1, vs1, ds1, ps1, x1, e1, K1, g1, hA1, hw1⟩ := args_cons hA0 hw0 (opens_struct Try.underlying41 (by kernel_rfl) (opensF_cons rfl (by kernel_rfl) (opens_slice Try.underlying38 (by kernel_rfl) open30) (opensF_one rfl (by kernel_rfl) (opens_slice Try.underlying39 (by kernel_rfl) (opens_int Try.underlying2)))))
    obtain ⟨v2, vs2, ds2, ps2, x2, e2, K2, g2, hA2, hw2⟩ := args_cons hA1 hw1 (opens_int Try.underlying5)
    have hn := args_nil hA2
    obtain rfl : args = #[v0, v1, v2] := by
      have : args.toList = [v0, v1, v2] := by rw [e0, e1, e2, hn]
      exact Array.ext' this
    obtain rfl := val_int Try.underlying2 (hval 0 2 v0 rfl rfl) K0
    obtain ⟨c1_0, r1_0, hc1_0, K1_0, R1_0⟩ := K1
    obtain ⟨A1_0, c1_0s, k1_0, hl1_0, hr1_0⟩ := K1_0
    have K1_1 := R1_0
    obtain ⟨A1_1, c1_1s, k1_1, hl1_1, hr1_1⟩ := K1_1
    have hv1 : v1.cells.toList = [.slice A1_0 x1.1.length c1_0s, .slice A1_1 x1.2.length c1_1s] := by simp only [hc1_0, k1_0, k1_1, List.cons_append, List.nil_append]
    obtain rfl := val_agg Try.underlying41 (hval 1 41 v1 rfl rfl) hv1
    obtain rfl := val_int Try.underlying5 (hval 2 5 v2 rfl rfl) K2
    exact QAl.Mono_row x0 A1_0 c1_0s x1.1 A1_1 c1_1s x1.2 x2 W hr1_0 hl1_0 hr1_1 hl1_1 g0 g1 g2
theorem holds : Rows.DeadlineQueueMonotoneSaid :=
  OpenClaim.holds_of_wide 6 Try.f6 rfl rfl rfl rfl rfl rfl rfl ⟨rfl, rfl, rfl, rfl, rfl⟩ rfl rfl rfl rfl rfl (by kernel_rfl) Try.func6 (by kernel_rfl)
    (of_decide_eq_true (by kernel_rfl)) (by unfold Func.isWrapper; first | (rw [if_pos (by decide +kernel)]; kernel_rfl) | (rw [if_neg (by decide +kernel)]; exact ⟨rfl, rfl⟩))
    (fun os started H enc _ => lifted os started H enc)
#print axioms holds
end Go.Proofs.Yteneigadnabolaa.RowDeadlineQueueMonotone

/- OutputRepeat holds: for every input the law answers true and leaves its arguments as they were. -/
import Derived.Test.YtfacjkcndfpmpaaLawsD
import Derived.Test.YtfacjkcndfpmpaaKa
namespace Go.Proofs.Ytfacjkcndfpmpaa.RowOutputRepeat
open Go.RowKit Go.WideShapes Go.ChangeShapes Go.Proofs.YtfacjkcndfpmpaaW.PrintWords Go.Proofs.Ytfacjkcndfpmpaa.Ka
theorem own : ownKnob Try.prog.godebug = none := by kernel_rfl
theorem laidOut : laidOutB Try.prog = true := by kernel_rfl
section
variable {H : Type} {enc : TypeId × Value → H} {w : World}
def Good46 (x : QAl.S46) : Prop := ((Lit.int .i64 x.f0).wf = true) ∧ ((Lit.int .i64 x.f1).wf = true) ∧ ((Lit.int .i16 x.f2).wf = true)
theorem open46 : Opens enc Try.prog w 46 QAl.k46 Good46 :=
  opens_iso (fun x : QAl.S46 => (x.f0, x.f1, x.f2)) (fun p => ⟨p.1, p.2.1, p.2.2⟩) (fun _ => rfl) ((opens_struct Try.underlying46 (by kernel_rfl) (opensF_cons rfl (by kernel_rfl) (opens_int Try.underlying2) (opensF_cons rfl (by kernel_rfl) (opens_int Try.underlying3) (opensF_one rfl (by kernel_rfl) (opens_int Try.underlying35))))).imp fun x hx => hx)
end
set_option maxRecDepth 100000 in
theorem lifted (os : Os) (started : os.Started) (H : Type) (enc : TypeId × Value → H) :
    ReturnsInHanded {} Try.checked os 7 .any (Rows.outputRepeatSpec.pre6 enc Try.prog Try.f7 Rows.outputRepeatRow.domain false) (Rows.outputRepeatSpec.post enc Try.prog Try.f7 false true false false) := by
  refine law_lifted (C := Try.checked) (rt := 4) own started (by kernel_rfl) Try.func7
    (ChangeSpec.witness6 (enc := enc) (C := Try.checked) false ⟨#[], #[.int .i64 0, .slice none 0 0, .int .i64 0], []⟩ 8 (by kernel_rfl) (by kernel_rfl) (by kernel_rfl) (by kernel_rfl)) laidOut rfl (by kernel_rfl) rfl Try.underlying4 ?_ ?_
  · intro ds hds
    match ds, hds with
    | [d0, d1, d2], _ => rfl
  · intro W args ds pl hval0 hA0 hw0
    have hval : ∀ (j : Nat) t v, Try.f7.params[j]? = some t → args[j]? = some v → ∃ base, Value.okWide Try.prog W .any base t v := hval0
    have hA : DataW.TrodAll enc Try.prog W 0 (fun _ => true) true Try.f7.params.toList args.toList ds pl := hA0
    have hw : ∀ n ∈ DataW.weightsEach Try.prog Try.f7.params.toList ds, n ≤ reachBytes := hw0
    rw [Try.params7] at hA hval hw
    clear hval0 hA0 hw0
    obtain ⟨v0, vs0, ds0, ps0, x0, e0, K0, g0, hA0, hw0⟩ := args_cons hA hw (opens_int Try.underlying3)
    obtain ⟨v1, vs1, ds1, ps1, x1, e1, K1, g1, hA1, hw1⟩ := args_cons hA0 hw0 (opens_slice Try.underlying22 (by kernel_rfl) open46)
    obtain ⟨v2, vs2, ds2, ps2, x2, e2, K2, g2, hA2, hw2⟩ := args_cons hA1 hw1 (opens_int Try.underlying3)
    have hn := args_nil hA2
    obtain rfl : args = #[v0, v1, v2] := by
      have : args.toList = [v0, v1, v2] := by rw [e0, e1, e2, hn]
      exact Array.ext' this
    obtain rfl := val_int Try.underlying3 (hval 0 3 v0 rfl rfl) K0
    obtain ⟨A1, c1, hv1, hc1, hr1⟩ := K1
    obtain rfl := val_slice Try.underlying22 (hval 1 22 v1 rfl rfl) hv1
    obtain rfl := val_int Try.underlying3 (hval 2 3 v2 rfl rfl) K2
    exact QAl.OutputRepeat_row x0 A1 c1 x1 x2 W hr1 hc1 g0 g1 g2
theorem holds : Rows.OutputRepeatSaid :=
  OpenClaim.holds_of_wide 7 Try.f7 rfl rfl rfl rfl rfl rfl rfl ⟨rfl, rfl, rfl, rfl, rfl⟩ rfl rfl rfl rfl rfl (by kernel_rfl) Try.func7 (by kernel_rfl)
    (of_decide_eq_true (by kernel_rfl)) (by unfold Func.isWrapper; first | (rw [if_pos (by decide +kernel)]; kernel_rfl) | (rw [if_neg (by decide +kernel)]; exact ⟨rfl, rfl⟩))
    (fun os started H enc _ => lifted os started H enc)
#print axioms holds
end Go.Proofs.Ytfacjkcndfpmpaa.RowOutputRepeat

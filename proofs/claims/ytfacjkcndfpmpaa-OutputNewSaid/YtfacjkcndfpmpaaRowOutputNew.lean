/- OutputNew holds: for every input the law answers true and leaves its arguments as they were. -/
import Derived.Test.YtfacjkcndfpmpaaLawsA
import Derived.Test.YtfacjkcndfpmpaaKa
namespace Go.Proofs.Ytfacjkcndfpmpaa.RowOutputNew
open Go.RowKit Go.WideShapes Go.ChangeShapes Go.Proofs.YtfacjkcndfpmpaaW.PrintWords Go.Proofs.Ytfacjkcndfpmpaa.Ka
theorem own : ownKnob Try.prog.godebug = none := by kernel_rfl
theorem laidOut : laidOutB Try.prog = true := by kernel_rfl
section
variable {H : Type} {enc : TypeId × Value → H} {w : World}
end
set_option maxRecDepth 100000 in
theorem lifted (os : Os) (started : os.Started) (H : Type) (enc : TypeId × Value → H) :
    ReturnsInHanded {} Try.checked os 6 .any (Rows.outputNewSpec.pre6 enc Try.prog Try.f6 Rows.outputNewRow.domain false) (Rows.outputNewSpec.post enc Try.prog Try.f6 false true false false) := by
  refine law_lifted (C := Try.checked) (rt := 4) own started (by kernel_rfl) Try.func6
    (ChangeSpec.witness6 (enc := enc) (C := Try.checked) false ⟨#[], #[.int .i64 0], []⟩ 8 (by kernel_rfl) (by kernel_rfl) (by kernel_rfl) (by kernel_rfl)) laidOut rfl (by kernel_rfl) rfl Try.underlying4 ?_ ?_
  · intro ds hds
    match ds, hds with
    | [d0], _ => rfl
  · intro W args ds pl hval0 hA0 hw0
    have hval : ∀ (j : Nat) t v, Try.f6.params[j]? = some t → args[j]? = some v → ∃ base, Value.okWide Try.prog W .any base t v := hval0
    have hA : DataW.TrodAll enc Try.prog W 0 (fun _ => true) true Try.f6.params.toList args.toList ds pl := hA0
    have hw : ∀ n ∈ DataW.weightsEach Try.prog Try.f6.params.toList ds, n ≤ reachBytes := hw0
    rw [Try.params6] at hA hval hw
    clear hval0 hA0 hw0
    obtain ⟨v0, vs0, ds0, ps0, x0, e0, K0, g0, hA0, hw0⟩ := args_cons hA hw (opens_int Try.underlying3)
    have hn := args_nil hA0
    obtain rfl : args = #[v0] := by
      have : args.toList = [v0] := by rw [e0, hn]
      exact Array.ext' this
    obtain rfl := val_int Try.underlying3 (hval 0 3 v0 rfl rfl) K0
    exact QAl.OutputNew_row x0 W  g0
theorem holds : Rows.OutputNewSaid :=
  OpenClaim.holds_of_wide 6 Try.f6 rfl rfl rfl rfl rfl rfl rfl ⟨rfl, rfl, rfl, rfl, rfl⟩ rfl rfl rfl rfl rfl (by kernel_rfl) Try.func6 (by kernel_rfl)
    (of_decide_eq_true (by kernel_rfl)) (by unfold Func.isWrapper; first | (rw [if_pos (by decide +kernel)]; kernel_rfl) | (rw [if_neg (by decide +kernel)]; exact ⟨rfl, rfl⟩))
    (fun os started H enc _ => lifted os started H enc)
#print axioms holds
end Go.Proofs.Ytfacjkcndfpmpaa.RowOutputNew

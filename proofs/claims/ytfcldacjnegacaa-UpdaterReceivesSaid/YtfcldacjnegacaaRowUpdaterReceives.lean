/- UpdaterReceives holds: for every input the law answers true and leaves its arguments as they were. -/
import Derived.Test.YtfcldacjnegacaaRc
import Derived.Test.YtfcldacjnegacaaKa
namespace Go.Proofs.Ytfcldacjnegacaa.RowUpdaterReceives
open Go.RowKit Go.WideShapes Go.ChangeShapes Go.Proofs.YtfcldacjnegacaaW.PrintWords Go.Proofs.Ytfcldacjnegacaa.Ka
theorem own : ownKnob Try.prog.godebug = none := by kernel_rfl
theorem laidOut : laidOutB Try.prog = true := by kernel_rfl
section
variable {H : Type} {enc : TypeId × Value → H} {w : World}
end
set_option maxRecDepth 100000 in
theorem lifted (os : Os) (started : os.Started) (H : Type) (enc : TypeId × Value → H) :
    ReturnsInHanded {} Try.checked os 6 .any (Rows.updaterReceivesSpec.pre6 enc Try.prog Try.f6 Rows.updaterReceivesRow.domain false) (Rows.updaterReceivesSpec.post enc Try.prog Try.f6 false true false false) := by
  refine law_lifted (C := Try.checked) (rt := 4) own started (by kernel_rfl) Try.func6
    (ChangeSpec.witness6 (enc := enc) (C := Try.checked) false ⟨#[], #[.slice none 0 0, .slice none 0 0, .slice none 0 0], []⟩ 8 (by kernel_rfl) (by kernel_rfl) (by kernel_rfl) (by kernel_rfl)) laidOut rfl (by kernel_rfl) rfl Try.underlying4 ?_ ?_
  · intro ds hds
    match ds, hds with
    | [d0, d1, d2], _ => rfl
  · intro W args ds pl hval0 hA0 hw0
    have hval : ∀ (j : Nat) t v, Try.f6.params[j]? = some t → args[j]? = some v → ∃ base, Value.okWide Try.prog W .any base t v := hval0
    have hA : DataW.TrodAll enc Try.prog W 0 (fun _ => true) true Try.f6.params.toList args.toList ds pl := hA0
    have hw : ∀ n ∈ DataW.weightsEach Try.prog Try.f6.params.toList ds, n ≤ reachBytes := hw0
    rw [Try.params6] at hA hval hw
    clear hval0 hA0 hw0
    obtain ⟨v0, vs0, ds0, ps0, x0, e0, K0, g0, hA0, hw0⟩ := args_cons hA hw (opens_slice Try.underlying22 (by kernel_rfl) (opens_int Try.underlying5))
    obtain ⟨v1, vs1, ds1, ps1, x1, e1, K1, g1, hA1, hw1⟩ := args_cons hA0 hw0 (opens_slice Try.underlying22 (by kernel_rfl) (opens_int Try.underlying5))
    obtain ⟨v2, vs2, ds2, ps2, x2, e2, K2, g2, hA2, hw2⟩ := args_cons hA1 hw1 (opens_slice Try.underlying22 (by kernel_rfl) (opens_int Try.underlying5))
    have hn := args_nil hA2
    obtain rfl : args = #[v0, v1, v2] := by
      have : args.toList = [v0, v1, v2] := by rw [e0, e1, e2, hn]
      exact Array.ext' this
    obtain ⟨A0, c0, hv0, hc0, hr0⟩ := K0
    obtain rfl := val_slice Try.underlying22 (hval 0 22 v0 rfl rfl) hv0
    obtain ⟨A1, c1, hv1, hc1, hr1⟩ := K1
    obtain rfl := val_slice Try.underlying22 (hval 1 22 v1 rfl rfl) hv1
    obtain ⟨A2, c2, hv2, hc2, hr2⟩ := K2
    obtain rfl := val_slice Try.underlying22 (hval 2 22 v2 rfl rfl) hv2
    exact Up.Receives_row A0 c0 x0 A1 c1 x1 A2 c2 x2 W hr0 hc0 hr1 hc1 hr2 hc2 g0 g1 g2
theorem holds : Rows.UpdaterReceivesSaid :=
  OpenClaim.holds_of_wide 6 Try.f6 rfl rfl rfl rfl rfl rfl rfl ⟨rfl, rfl, rfl, rfl, rfl⟩ rfl rfl rfl rfl rfl (by kernel_rfl) Try.func6 (by kernel_rfl)
    (of_decide_eq_true (by kernel_rfl)) (by unfold Func.isWrapper; first | (rw [if_pos (by decide +kernel)]; kernel_rfl) | (rw [if_neg (by decide +kernel)]; exact ⟨rfl, rfl⟩))
    (fun os started H enc _ => lifted os started H enc)
#print axioms holds
end Go.Proofs.Ytfcldacjnegacaa.RowUpdaterReceives

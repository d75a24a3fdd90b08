/- CRC16Append holds: for every input the law answers true and leaves its arguments as they were. -/
import Derived.Test.YtcedelnpdeakaaaWalkAppend
import Derived.Test.YtcedelnpdeakaaaKa
namespace Go.Proofs.Ytcedelnpdeakaaa.RowCRC16Append
open Go.RowKit Go.WideShapes Go.ChangeShapes Go.Proofs.YtcedelnpdeakaaaW.PrintWords Go.Proofs.Ytcedelnpdeakaaa.Ka
theorem own : ownKnob Try.prog.godebug = none := by kernel_rfl
theorem laidOut : laidOutB Try.prog = true := by kernel_rfl
section
variable {H : Type} {enc : TypeId × Value → H} {w : World}
end
set_option maxRecDepth 100000 in
theorem lifted (os : Os) (started : os.Started) (H : Type) (enc : TypeId × Value → H) :
    ReturnsInHanded {} Try.checked os 8 .any (Rows.cRC16AppendSpec.pre6 enc Try.prog Try.f8 Rows.cRC16AppendRow.domain false) (Rows.cRC16AppendSpec.post enc Try.prog Try.f8 false true false false) := by
  refine law_lifted (C := Try.checked) (rt := 4) own started (by kernel_rfl) Try.func8
    (ChangeSpec.witness6 (enc := enc) (C := Try.checked) false ⟨#[], #[.slice none 0 0], []⟩ 8 (by kernel_rfl) (by kernel_rfl) (by kernel_rfl) (by kernel_rfl)) laidOut rfl (by kernel_rfl) rfl Try.underlying4 ?_ ?_
  · intro ds hds
    match ds, hds with
    | [d0], _ => rfl
  · intro W args ds pl hval0 hA0 hw0
    have hval : ∀ (j : Nat) t v, Try.f8.params[j]? = some t → args[j]? = some v → ∃ base, Value.okWide Try.prog W .any base t v := hval0
    have hA : DataW.TrodAll enc Try.prog W 0 (fun _ => true) true Try.f8.params.toList args.toList ds pl := hA0
    have hw : ∀ n ∈ DataW.weightsEach Try.prog Try.f8.params.toList ds, n ≤ reachBytes := hw0
    rw [Try.params8] at hA hval hw
    clear hval0 hA0 hw0
    obtain ⟨v0, vs0, ds0, ps0, x0, e0, K0, g0, hA0, hw0⟩ := args_cons hA hw (opens_slice Try.underlying22 (by kernel_rfl) (opens_int Try.underlying5))
    have hn := args_nil hA0
    obtain rfl : args = #[v0] := by
      have : args.toList = [v0] := by rw [e0, hn]
      exact Array.ext' this
    obtain ⟨A0, c0, hv0, hc0, hr0⟩ := K0
    obtain rfl := val_slice Try.underlying22 (hval 0 22 v0 rfl rfl) hv0
    exact QAll.append_all A0 c0 x0 W hr0 hc0 g0
theorem holds : Rows.CRC16AppendSaid :=
  OpenClaim.holds_of_wide 8 Try.f8 rfl rfl rfl rfl rfl rfl rfl ⟨rfl, rfl, rfl, rfl, rfl⟩ rfl rfl rfl rfl rfl (by kernel_rfl) Try.func8 (by kernel_rfl)
    (of_decide_eq_true (by kernel_rfl)) (by unfold Func.isWrapper; first | (rw [if_pos (by decide +kernel)]; kernel_rfl) | (rw [if_neg (by decide +kernel)]; exact ⟨rfl, rfl⟩))
    (fun os started H enc _ => lifted os started H enc)
#print axioms holds
end Go.Proofs.Ytcedelnpdeakaaa.RowCRC16Append

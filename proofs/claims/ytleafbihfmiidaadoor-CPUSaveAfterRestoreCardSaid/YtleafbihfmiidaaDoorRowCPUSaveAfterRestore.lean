/- CPUSaveAfterRestore holds: for every input the law answers true and leaves its arguments as they were; the card. Printed by mkRow12.py. -/
import Derived.Test.YtleafbihfmiidaaDoorSrL
import Derived.Test.YtleafbihfmiidaaDoorOp
namespace Go.Proofs.YtleafbihfmiidaaDoor.RowCPUSaveAfterRestore
open Go.RowKit Go.WideShapes Go.ChangeShapes Go.Proofs.YtleafbihfmiidaaDoorW.PrintWords Go.Proofs.YtleafbihfmiidaaDoor.Ka Go.Proofs.YtleafbihfmiidaaDoor.Kc
set_option maxRecDepth 100000 in
theorem lifted (os : Os) (started : os.Started) (H : Type) (enc : TypeId × Value → H) :
    ReturnsInHanded {} Tryd.checked os 4 .any (fun w args => (Rows.cPUSaveAfterRestoreSpec.pre enc Tryd.prog Tryd.f4 [] false w args ∧ laidMetH Tryd.prog binL w) ∧ sizedMet enc Tryd.prog Tryd.f4 (OpenSpec.ofChange Rows.cPUSaveAfterRestoreSpec) false w args)
      (Rows.cPUSaveAfterRestoreSpec.post enc Tryd.prog Tryd.f4 false true false false) := by
  refine law_lifted_laid (C := Tryd.checked) (rt := 4) own started (by kernel_rfl) Tryd.func4
    (ChangeSpec.witness_shaped (enc := enc) (C := Tryd.checked) (os := os) (X := fun w _ => laidMetH Tryd.prog binL w) false (World.doorLaid Tryd.prog 14 os) #[.agg (.int .i64 0 :: List.replicate 72 (.int .i16 0)).toArray, .agg #[.int .i64 0, .slice none 0 0], .slice none 0 0] 8 rfl (World.shaped_of_RefB (by kernel_rfl) (by kernel_rfl)) (by kernel_rfl) (by kernel_rfl) (by kernel_rfl) (door_met os _))
    laidOut rfl (by kernel_rfl) rfl Tryd.underlying4 ?_ ?_
  · intro ds hds
    match ds, hds with
    | [d0, d1, d2], _ => rfl
  · intro W args ds pl hval0 hA0 hw0 hL
    have hval : ∀ (j : Nat) t v, Tryd.f4.params[j]? = some t → args[j]? = some v → ∃ base, Value.okWide Tryd.prog W .any base t v := hval0
    have hA : DataW.TrodAll enc Tryd.prog W 0 (fun _ => true) true Tryd.f4.params.toList args.toList ds pl := hA0
    have hw : ∀ n ∈ DataW.weightsEach Tryd.prog Tryd.f4.params.toList ds, n ≤ reachBytes := hw0
    rw [Tryd.params4] at hA hval hw
    clear hval0 hA0 hw0
    obtain ⟨v0, vs0, ds0, ps0, x0, e0, K0, g0, hA0, hw0⟩ := args_cons hA hw opens_State
    obtain ⟨v1, vs1, ds1, ps1, x1, e1, K1, g1, hA1, hw1⟩ := args_cons hA0 hw0 opens_Region
    obtain ⟨v2, vs2, ds2, ps2, x2, e2, K2, g2, hA2, hw2⟩ := args_cons hA1 hw1 (opens_slice Tryd.underlying30 (by kernel_rfl) (opens_int Tryd.underlying22))
    have hn := args_nil hA2
    obtain rfl : args = #[v0, v1, v2] := by
      have : args.toList = [v0, v1, v2] := by rw [e0, e1, e2, hn]
      exact Array.ext' this
    obtain ⟨s0, rfl, ok0, pc0⟩ := State_cells (hval 0 26 v0 rfl rfl) K0 g0
    obtain ⟨A1, c1, rfl, hc1, hr1⟩ := Region_cells (hval 1 29 v1 rfl rfl) K1
    obtain ⟨A2, c2, hv2, hc2, hr2⟩ := K2
    obtain rfl := val_slice Tryd.underlying30 (hval 2 30 v2 rfl rfl) hv2
    exact QAl.SaveAfterRestore_row s0 ok0 x1.1 A1 c1 x1.2 A2 c2 x2 W hr1 hc1 hr2 hc2 (fun v hv => s16_of (g2.2.2 v hv)) (gt_of hL)
theorem holds : Rows.CPUSaveAfterRestoreSaid :=
  OpenClaim.holds_of_wide 4 Tryd.f4 rfl rfl rfl rfl rfl rfl rfl ⟨rfl, rfl, rfl, rfl, rfl⟩ rfl rfl rfl rfl rfl (by kernel_rfl) Tryd.func4 (by kernel_rfl)
    (of_decide_eq_true (by kernel_rfl)) (by unfold Func.isWrapper; first | (rw [if_pos (by decide +kernel)]; kernel_rfl) | (rw [if_neg (by decide +kernel)]; exact ⟨rfl, rfl⟩))
    (fun os started H enc _ => lifted os started H enc)
theorem card_holds : Rows.CPUSaveAfterRestoreCardSaid :=
  Claim7.holds_tied_plain_at .later [] [.data] true (true, "4508f4b98369958045edda3a9e2ba80430f670cb70db7d4b090c887b5bed01c3") false
    holds (fun _ h => by cases h) (by kernel_rfl) (fun _ h => by cases h) cPUSaveAfterRestore_row_tie rfl ⟨rfl, rfl⟩ (by kernel_rfl) rfl
    (fun f fn hf hfn => by
      obtain rfl : f = 4 := Option.some.inj ((show Tryd.prog.funcNamed "trickle/tricklelaw12.CPUSaveAfterRestore" = some 4 by kernel_rfl).symm.trans hf) |>.symm
      obtain rfl : fn = Tryd.f4 := (Option.some.inj (Tryd.func4.symm.trans hfn)).symm
      exact ⟨by kernel_rfl, fun j t ht => by
        rw [Tryd.params4] at ht
        match j, ht with
        | 0, ht =>
          obtain rfl : (26 : TypeId) = t := Option.some.inj ht
          exact (show Tryd.prog.wantsStandIn 26 = false by kernel_rfl)
        | 1, ht =>
          obtain rfl : (29 : TypeId) = t := Option.some.inj ht
          exact (show Tryd.prog.wantsStandIn 29 = false by kernel_rfl)
        | 2, ht =>
          obtain rfl : (30 : TypeId) = t := Option.some.inj ht
          exact (show Tryd.prog.wantsStandIn 30 = false by kernel_rfl)
        | n + 3, ht => simp at ht⟩)
    (by kernel_rfl)
#print axioms card_holds
end Go.Proofs.YtleafbihfmiidaaDoor.RowCPUSaveAfterRestore

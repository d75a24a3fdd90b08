/- CPUSaves holds: for every input the law answers true and leaves its arguments as they were; the card. -/
import Derived.Test.YtleafbihfmiidaaDoorSaL
import Derived.Test.YtleafbihfmiidaaDoorOp
namespace Go.Proofs.YtleafbihfmiidaaDoor.RowCPUSaves
open Go.RowKit Go.WideShapes Go.ChangeShapes Go.Proofs.YtleafbihfmiidaaDoorW.PrintWords Go.Proofs.YtleafbihfmiidaaDoor.Ka Go.Proofs.YtleafbihfmiidaaDoor.Kc
set_option maxRecDepth 100000 in
theorem lifted (os : Os) (started : os.Started) (H : Type) (enc : TypeId × Value → H) :
    ReturnsInHanded {} Tryd.checked os 9 .any (fun w args => (Rows.cPUSavesSpec.pre enc Tryd.prog Tryd.f9 [] false w args ∧ laidMetH Tryd.prog binL w) ∧ sizedMet enc Tryd.prog Tryd.f9 (OpenSpec.ofChange Rows.cPUSavesSpec) false w args)
      (Rows.cPUSavesSpec.post enc Tryd.prog Tryd.f9 false true false false) := by
  refine law_lifted_laid (C := Tryd.checked) (rt := 4) own started (by kernel_rfl) Tryd.func9
    (ChangeSpec.witness_shaped (enc := enc) (C := Tryd.checked) (os := os) (X := fun w _ => laidMetH Tryd.prog binL w) false (World.doorLaid Tryd.prog 14 os) #[.agg (.int .i64 0 :: List.replicate 72 (.int .i16 0)).toArray, .agg #[.int .i64 0, .slice none 0 0]] 8 rfl (World.shaped_of_RefB (by kernel_rfl) (by kernel_rfl)) (by kernel_rfl) (by kernel_rfl) (by kernel_rfl) (door_met os _))
    laidOut rfl (by kernel_rfl) rfl Tryd.underlying4 ?_ ?_
  · intro ds hds
    match ds, hds with
    | [d0, d1], _ => rfl
  · intro W args ds pl hval0 hA0 hw0 hL
    have hval : ∀ (j : Nat) t v, Tryd.f9.params[j]? = some t → args[j]? = some v → ∃ base, Value.okWide Tryd.prog W .any base t v := hval0
    have hA : DataW.TrodAll enc Tryd.prog W 0 (fun _ => true) true Tryd.f9.params.toList args.toList ds pl := hA0
    have hw : ∀ n ∈ DataW.weightsEach Tryd.prog Tryd.f9.params.toList ds, n ≤ reachBytes := hw0
    rw [Tryd.params9] at hA hval hw
    clear hval0 hA0 hw0
    obtain ⟨v0, vs0, ds0, ps0, x0, e0, K0, g0, hA0, hw0⟩ := args_cons hA hw opens_State
    obtain ⟨v1, vs1, ds1, ps1, x1, e1, K1, g1, hA1, hw1⟩ := args_cons hA0 hw0 opens_Region
    have hn := args_nil hA1
    obtain rfl : args = #[v0, v1] := by
      have : args.toList = [v0, v1] := by rw [e0, e1, hn]
      exact Array.ext' this
    obtain ⟨s, rfl, ok, _⟩ := State_cells (hval 0 26 v0 rfl rfl) K0 g0
    obtain ⟨A, c, rfl, hc, hr⟩ := Region_cells (hval 1 29 v1 rfl rfl) K1
    exact QAl.Saves_row s ok x1.1 A c x1.2 W hr hc (gt_of hL)
theorem holds : Rows.CPUSavesSaid :=
  OpenClaim.holds_of_wide 9 Tryd.f9 rfl rfl rfl rfl rfl rfl rfl ⟨rfl, rfl, rfl, rfl, rfl⟩ rfl rfl rfl rfl rfl (by kernel_rfl) Tryd.func9 (by kernel_rfl)
    (of_decide_eq_true (by kernel_rfl)) (by unfold Func.isWrapper; first | (rw [if_pos (by decide +kernel)]; kernel_rfl) | (rw [if_neg (by decide +kernel)]; exact ⟨rfl, rfl⟩))
    (fun os started H enc _ => lifted os started H enc)
theorem card_holds : Rows.CPUSavesCardSaid :=
  Claim7.holds_tied_plain_at .later [] [.data] true (true, "4508f4b98369958045edda3a9e2ba80430f670cb70db7d4b090c887b5bed01c3") false
    holds (fun _ h => by cases h) (by kernel_rfl) (fun _ h => by cases h) cPUSaves_row_tie rfl ⟨rfl, rfl⟩ (by kernel_rfl) rfl
    (fun f fn hf hfn => by
      obtain rfl : f = 9 := Option.some.inj ((show Tryd.prog.funcNamed "trickle/tricklelaw12.CPUSaves" = some 9 by kernel_rfl).symm.trans hf) |>.symm
      obtain rfl : fn = Tryd.f9 := (Option.some.inj (Tryd.func9.symm.trans hfn)).symm
      exact ⟨by kernel_rfl, fun j t ht => by
        rw [Tryd.params9] at ht
        match j, ht with
        | 0, ht =>
          obtain rfl : (26 : TypeId) = t := Option.some.inj ht
          exact (show Tryd.prog.wantsStandIn 26 = false by kernel_rfl)
        | 1, ht =>
          obtain rfl : (29 : TypeId) = t := Option.some.inj ht
          exact (show Tryd.prog.wantsStandIn 29 = false by kernel_rfl)
        | n + 2, ht => simp at ht⟩)
    (by kernel_rfl)
#print axioms card_holds
end Go.Proofs.YtleafbihfmiidaaDoor.RowCPUSaves

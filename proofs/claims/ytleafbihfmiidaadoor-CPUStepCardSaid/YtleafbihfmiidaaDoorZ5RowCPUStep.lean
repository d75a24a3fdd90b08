/- What this claim needs of RowCPUStep. Parted by prune.py. -/
import Derived.Test.YtleafbihfmiidaaDoorZ5Stp
import Derived.Test.YtleafbihfmiidaaDoorZ5Op
namespace Go.Proofs.YtleafbihfmiidaaDoor.RowCPUStep
open Go.RowKit Go.WideShapes Go.ChangeShapes Go.Proofs.YtleafbihfmiidaaDoorW.PrintWords Go.Proofs.YtleafbihfmiidaaDoor.Ka Go.Proofs.YtleafbihfmiidaaDoor.Kc
set_option maxRecDepth 100000 in
theorem lifted (os : Os) (started : os.Started) (H : Type) (enc : TypeId × Value → H) :
    ReturnsInHanded {} Tryd.checked os 5 .any (fun w args => (Rows.cPUStepSpec.pre enc Tryd.prog Tryd.f5 [] false w args ∧ laidMetH Tryd.prog binL w) ∧ sizedMet enc Tryd.prog Tryd.f5 (OpenSpec.ofChange Rows.cPUStepSpec) false w args)
      (Rows.cPUStepSpec.post enc Tryd.prog Tryd.f5 false true false false) := by
  refine law_lifted_laid (C := Tryd.checked) (rt := 4) own started (by kernel_rfl) Tryd.func5
    (ChangeSpec.witness_shaped (enc := enc) (C := Tryd.checked) (os := os) (X := fun w _ => laidMetH Tryd.prog binL w) false (World.doorLaid Tryd.prog 14 os) #[.agg #[.int .i64 0, .slice none 0 0, .int .i64 0, .int .i64 0, .slice none 0 0, .slice none 0 0, .slice none 0 0, .slice none 0 0, .slice none 0 0, .slice none 0 0, .slice none 0 0, .slice none 0 0], .agg ((Value.int .i64 0 :: List.replicate 72 (Value.int .i16 0)) ++ [Value.slice none 0 0, Value.slice none 0 0, Value.int .i64 0, Value.slice none 0 0] : List Value).toArray] 8 rfl (World.shaped_of_RefB (by kernel_rfl) (by kernel_rfl)) (by kernel_rfl) (by kernel_rfl) (by kernel_rfl) (door_met os _))
    laidOut rfl (by kernel_rfl) rfl Tryd.underlying4 ?_ ?_
  · intro ds hds
    match ds, hds with
    | [d0, d1], _ => rfl
  · intro W args ds pl hval0 hA0 hw0 hL
    have hval : ∀ (j : Nat) t v, Tryd.f5.params[j]? = some t → args[j]? = some v → ∃ base, Value.okWide Tryd.prog W .any base t v := hval0
    have hA : DataW.TrodAll enc Tryd.prog W 0 (fun _ => true) true Tryd.f5.params.toList args.toList ds pl := hA0
    have hw : ∀ n ∈ DataW.weightsEach Tryd.prog Tryd.f5.params.toList ds, n ≤ reachBytes := hw0
    rw [Tryd.params5] at hA hval hw
    clear hval0 hA0 hw0
    obtain ⟨v0, vs0, ds0, ps0, x0, e0, K0, g0, hA0, hw0⟩ := args_cons hA hw opens_Image
    obtain ⟨v1, vs1, ds1, ps1, x1, e1, K1, g1, hA1, hw1⟩ := args_cons hA0 hw0 opens_Case
    have hn := args_nil hA1
    obtain rfl : args = #[v0, v1] := by
      have : args.toList = [v0, v1] := by rw [e0, e1, hn]
      exact Array.ext' this
    obtain ⟨I1, i1, I4, i4, I6, i6, I11, i11, L0, hI1, hI4, hI6, hI11⟩ := Image_list K0
    obtain rfl := val_agg Tryd.underlying47 (hval 0 47 v0 rfl rfl) L0
    obtain ⟨s1, l1, rfl, ok1, KW1⟩ := Case_cells (hval 1 52 v1 rfl rfl) K1 g1.1
    obtain ⟨B0, b0, B1, b1, B3, b3, rfl, hB0, hB1, hB3⟩ := World_list KW1
    exact QAl.Step_row s1 ok1 ⟨x0.1, I1, I4, I6, I11, i1, i4, i6, i11, x0.2.2.2.2.2.1.1, x0.2.2.2.2.2.2.2.1.1, x0.2.2.2.2.2.2.2.2.1.1, x0.2.2.2.2.2.2.2.2.2.1.1, x0.2.2.2.2.2.2.2.2.2.2.1.1⟩ ⟨x0.2.2.2.2.2.2.2.2.2.2.2, x0.2.1, x0.2.2.1, x0.2.2.2.1, x0.2.2.2.2.1.length, x0.2.2.2.2.2.2.1⟩ (fun c hc => s16_of (g0.2.2.2.2.2.2.2.2.2.2.2.2.2 c hc).2.2.2.2) B0 B1 B3 _ _ _ b0 b1 b3 x1.2.2.2.1 x1.2.1 x1.2.2.1 x1.2.2.2.2 W hB0.2 hB1.2 hB3.2 rfl rfl rfl (fun v hv => s16_of (g1.2.1.2.2 v hv)) (fun v hv => s16_of (g1.2.2.1.2.2 v hv)) ⟨hI1.2, hI6.2, hI11.2⟩ (gt_of hL)
theorem holds : Rows.CPUStepSaid :=
  OpenClaim.holds_of_wide 5 Tryd.f5 rfl rfl rfl rfl rfl rfl rfl ⟨rfl, rfl, rfl, rfl, rfl⟩ rfl rfl rfl rfl rfl (by kernel_rfl) Tryd.func5 (by kernel_rfl)
    (of_decide_eq_true (by kernel_rfl)) (by unfold Func.isWrapper; first | (rw [if_pos (by decide +kernel)]; kernel_rfl) | (rw [if_neg (by decide +kernel)]; exact ⟨rfl, rfl⟩))
    (fun os started H enc _ => lifted os started H enc)
theorem card_holds : Rows.CPUStepCardSaid :=
  Claim7.holds_tied_plain_at .later [] [.data] true (true, "4508f4b98369958045edda3a9e2ba80430f670cb70db7d4b090c887b5bed01c3") false
    holds (fun _ h => by cases h) (by kernel_rfl) (fun _ h => by cases h) cPUStep_row_tie rfl ⟨rfl, rfl⟩ (by kernel_rfl) rfl
    (fun f fn hf hfn => by
      obtain rfl : f = 5 := Option.some.inj ((show Tryd.prog.funcNamed "trickle/tricklelaw12.CPUStep" = some 5 by kernel_rfl).symm.trans hf) |>.symm
      obtain rfl : fn = Tryd.f5 := (Option.some.inj (Tryd.func5.symm.trans hfn)).symm
      exact ⟨by kernel_rfl, fun j t ht => by
        rw [Tryd.params5] at ht
        match j, ht with
        | 0, ht =>
          obtain rfl : (47 : TypeId) = t := Option.some.inj ht
          exact (show Tryd.prog.wantsStandIn 47 = false by kernel_rfl)
        | 1, ht =>
          obtain rfl : (52 : TypeId) = t := Option.some.inj ht
          exact (show Tryd.prog.wantsStandIn 52 = false by kernel_rfl)
        | n + 2, ht => simp at ht⟩)
    (by kernel_rfl)
end Go.Proofs.YtleafbihfmiidaaDoor.RowCPUStep

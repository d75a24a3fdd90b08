/- CPURun holds: for every input the law answers true and leaves its arguments as they were; the card. Printed by mkRow12.py. -/
import Derived.Test.YtleafbihfmiidaaDoorZ5Rnw
import Derived.Test.YtleafbihfmiidaaDoorZ5Op
namespace Go.Proofs.YtleafbihfmiidaaDoor.RowCPURun
open Go.RowKit Go.WideShapes Go.ChangeShapes Go.Proofs.YtleafbihfmiidaaDoorW.PrintWords Go.Proofs.YtleafbihfmiidaaDoor.Ka Go.Proofs.YtleafbihfmiidaaDoor.Kc
theorem val_int {P : Program} {w : World} {r : Reach} {t : TypeId} {v : Value} {k : IntKind} {n : Int} (hu : P.underlying t = some (.int k)) (h : ∃ base, Value.okWide P w r base t v) (hc : (Kd.int k).K w n v.cells.toList) : .int k n = v := by
  obtain ⟨base, h⟩ := h
  obtain ⟨m, rfl⟩ := okWide_int hu h
  have hc' : [Value.int k m] = [Value.int k n] := hc
  exact (List.cons.inj hc').1.symm
theorem u8_nat {n : Int} (h : (Lit.int .u8 n).wf = true) : ∃ k : Nat, n = (k : Int) ∧ k ≤ 255 := by
  have h1 : IntKind.u8.min = 0 := rfl
  have h2 : IntKind.u8.max = 255 := rfl
  simp only [Lit.wf, h1, h2, Bool.and_eq_true, decide_eq_true_eq] at h
  exact ⟨n.toNat, by omega, by omega⟩
theorem len2 {l : List Int} (h : l.length = 2) : ∃ a b, l = [a, b] := by
  match l, h with
  | [a, b], _ => exact ⟨a, b, rfl⟩
set_option maxRecDepth 100000 in
theorem lifted (os : Os) (started : os.Started) (H : Type) (enc : TypeId × Value → H) :
    ReturnsInHanded {} Tryd.checked os 6 .any (fun w args => (Rows.cPURunSpec.pre enc Tryd.prog Tryd.f6 [] false w args ∧ laidMetH Tryd.prog binL w) ∧ sizedMet enc Tryd.prog Tryd.f6 (OpenSpec.ofChange Rows.cPURunSpec) false w args)
      (Rows.cPURunSpec.post enc Tryd.prog Tryd.f6 false true false false) := by
  refine law_lifted_laid (C := Tryd.checked) (rt := 4) own started (by kernel_rfl) Tryd.func6
    (ChangeSpec.witness_shaped (enc := enc) (C := Tryd.checked) (os := os) (X := fun w _ => laidMetH Tryd.prog binL w) false (World.doorLaid Tryd.prog 14 os) #[.agg #[.int .i64 0, .slice none 0 0, .int .i64 0, .int .i64 0, .slice none 0 0, .slice none 0 0, .slice none 0 0, .slice none 0 0, .slice none 0 0, .slice none 0 0, .slice none 0 0, .slice none 0 0], .agg ((Value.int .i64 0 :: List.replicate 72 (Value.int .i16 0)) ++ [Value.slice none 0 0, Value.slice none 0 0, Value.int .i64 0, Value.slice none 0 0] : List Value).toArray, .int .u8 0] 8 rfl (World.shaped_of_RefB (by kernel_rfl) (by kernel_rfl)) (by kernel_rfl) (by kernel_rfl) (by kernel_rfl) (door_met os _))
    laidOut rfl (by kernel_rfl) rfl Tryd.underlying4 ?_ ?_
  · intro ds hds
    match ds, hds with
    | [d0, d1, d2], _ => rfl
  · intro W args ds pl hval0 hA0 hw0 hL
    have hval : ∀ (j : Nat) t v, Tryd.f6.params[j]? = some t → args[j]? = some v → ∃ base, Value.okWide Tryd.prog W .any base t v := hval0
    have hA : DataW.TrodAll enc Tryd.prog W 0 (fun _ => true) true Tryd.f6.params.toList args.toList ds pl := hA0
    have hw : ∀ n ∈ DataW.weightsEach Tryd.prog Tryd.f6.params.toList ds, n ≤ reachBytes := hw0
    rw [Tryd.params6] at hA hval hw
    clear hval0 hA0 hw0
    obtain ⟨v0, vs0, ds0, ps0, x0, e0, K0, g0, hA0, hw0⟩ := args_cons hA hw opens_Image
    obtain ⟨v1, vs1, ds1, ps1, x1, e1, K1, g1, hA1, hw1⟩ := args_cons hA0 hw0 opens_Case
    obtain ⟨v2, vs2, ds2, ps2, x2, e2, K2, g2, hA2, hw2⟩ := args_cons hA1 hw1 (opens_int Tryd.underlying5)
    have hn := args_nil hA2
    obtain rfl : args = #[v0, v1, v2] := by
      have : args.toList = [v0, v1, v2] := by rw [e0, e1, e2, hn]
      exact Array.ext' this
    obtain ⟨I1, i1, I4, i4, I6, i6, I11, i11, L0, hI1, hI4, hI6, hI11⟩ := Image_list K0
    obtain rfl := val_agg Tryd.underlying47 (hval 0 47 v0 rfl rfl) L0
    obtain ⟨s1, l1, rfl, ok1, KW1⟩ := Case_cells (hval 1 52 v1 rfl rfl) K1 g1.1
    obtain ⟨B0, b0, B1, b1, B3, b3, rfl, hB0, hB1, hB3⟩ := World_list KW1
    obtain ⟨n2, rfl, hn2⟩ := u8_nat g2
    obtain rfl := val_int Tryd.underlying5 (hval 2 5 v2 rfl rfl) K2
    exact QAl.Run_row s1 ok1 ⟨x0.1, I1, I4, I6, I11, i1, i4, i6, i11, x0.2.2.2.2.2.1.1, x0.2.2.2.2.2.2.2.1.1, x0.2.2.2.2.2.2.2.2.1.1, x0.2.2.2.2.2.2.2.2.2.1.1, x0.2.2.2.2.2.2.2.2.2.2.1.1⟩ ⟨x0.2.2.2.2.2.2.2.2.2.2.2, x0.2.1, x0.2.2.1, x0.2.2.2.1, x0.2.2.2.2.1.length, x0.2.2.2.2.2.2.1⟩ (fun c hc => s16_of (g0.2.2.2.2.2.2.2.2.2.2.2.2.2 c hc).2.2.2.2) n2 hn2 B0 B1 B3 _ _ _ b0 b1 b3 x1.2.2.2.1 x1.2.1 x1.2.2.1 x1.2.2.2.2 W hB0.2 hB1.2 hB3.2 rfl rfl rfl (fun v hv => s16_of (g1.2.1.2.2 v hv)) (fun v hv => s16_of (g1.2.2.1.2.2 v hv)) ⟨hI1.2, hI6.2, hI11.2⟩ (gt_of hL)
theorem holds : Rows.CPURunSaid :=
  OpenClaim.holds_of_wide 6 Tryd.f6 rfl rfl rfl rfl rfl rfl rfl ⟨rfl, rfl, rfl, rfl, rfl⟩ rfl rfl rfl rfl rfl (by kernel_rfl) Tryd.func6 (by kernel_rfl)
    (of_decide_eq_true (by kernel_rfl)) (by unfold Func.isWrapper; first | (rw [if_pos (by decide +kernel)]; kernel_rfl) | (rw [if_neg (by decide +kernel)]; exact ⟨rfl, rfl⟩))
    (fun os started H enc _ => lifted os started H enc)
theorem card_holds : Rows.CPURunCardSaid :=
  Claim7.holds_tied_plain_at .later [] [.data] true (true, "4508f4b98369958045edda3a9e2ba80430f670cb70db7d4b090c887b5bed01c3") false
    holds (fun _ h => by cases h) (by kernel_rfl) (fun _ h => by cases h) cPURun_row_tie rfl ⟨rfl, rfl⟩ (by kernel_rfl) rfl
    (fun f fn hf hfn => by
      obtain rfl : f = 6 := Option.some.inj ((show Tryd.prog.funcNamed "trickle/tricklelaw12.CPURun" = some 6 by kernel_rfl).symm.trans hf) |>.symm
      obtain rfl : fn = Tryd.f6 := (Option.some.inj (Tryd.func6.symm.trans hfn)).symm
      exact ⟨by kernel_rfl, fun j t ht => by
        rw [Tryd.params6] at ht
        match j, ht with
        | 0, ht =>
          obtain rfl : (47 : TypeId) = t := Option.some.inj ht
          exact (show Tryd.prog.wantsStandIn 47 = false by kernel_rfl)
        | 1, ht =>
          obtain rfl : (52 : TypeId) = t := Option.some.inj ht
          exact (show Tryd.prog.wantsStandIn 52 = false by kernel_rfl)
        | 2, ht =>
          obtain rfl : (5 : TypeId) = t := Option.some.inj ht
          exact (show Tryd.prog.wantsStandIn 5 = false by kernel_rfl)
        | n + 3, ht => simp at ht⟩)
    (by kernel_rfl)
end Go.Proofs.YtleafbihfmiidaaDoor.RowCPURun

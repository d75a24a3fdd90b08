/- CapacitorEnergyBalance holds: for every input the law answers true and leaves its arguments as they were. -/
import Derived.Test.YtifogngffmhmaaaPureCapacitorEnergyBalance
import Derived.Test.YtifogngffmhmaaaKa
namespace Go.Proofs.Ytifogngffmhmaaa.RowCapacitorEnergyBalance
open Go.RowKit Go.WideShapes Go.ChangeShapes Go.Proofs.YtifogngffmhmaaaW.PrintWords Go.Proofs.Ytifogngffmhmaaa.Ka
theorem own : ownKnob Try.prog.godebug = none := by kernel_rfl
theorem laidOut : laidOutB Try.prog = true := by kernel_rfl
section
variable {H : Type} {enc : TypeId × Value → H} {w : World}
def Good57 (x : QSd.S57) : Prop := ((Lit.int .i64 x.f0).wf = true) ∧ ((Lit.int .i64 x.f1).wf = true)
theorem open57 : Opens enc Try.prog w 57 QSd.k57 Good57 :=
  opens_iso (fun x : QSd.S57 => (x.f0, x.f1)) (fun p => ⟨p.1, p.2⟩) (fun _ => rfl) ((opens_struct Try.underlying57 (by kernel_rfl) (opensF_cons rfl (by kernel_rfl) (opens_int Try.underlying3) (opensF_one rfl (by kernel_rfl) (opens_int Try.underlying2)))).imp fun x hx => hx)
end
set_option maxRecDepth 100000 in
theorem lifted (os : Os) (started : os.Started) (H : Type) (enc : TypeId × Value → H) :
    ReturnsInHanded {} Try.checked os 8 .any (Rows.capacitorEnergyBalanceSpec.pre6 enc Try.prog Try.f8 Rows.capacitorEnergyBalanceRow.domain false) (Rows.capacitorEnergyBalanceSpec.post enc Try.prog Try.f8 false true false false) := by
  refine law_lifted (C := Try.checked) (rt := 4) own started (by kernel_rfl) Try.func8
    (ChangeSpec.witness6 (enc := enc) (C := Try.checked) false ⟨#[], #[.agg #[.int .i64 0, .int .i64 0, .int .i64 0], .int .u8 0, .slice none 0 0], []⟩ 8 (by kernel_rfl) (by kernel_rfl) (by kernel_rfl) (by kernel_rfl)) laidOut rfl (by kernel_rfl) rfl Try.underlying4 ?_ ?_
  · intro ds hds
    match ds, hds with
    | [d0, d1, d2], _ => rfl
  · intro W args ds pl hval0 hA0 hw0
    have hval : ∀ (j : Nat) t v, Try.f8.params[j]? = some t → args[j]? = some v → ∃ base, Value.okWide Try.prog W .any base t v := hval0
    have hA : DataW.TrodAll enc Try.prog W 0 (fun _ => true) true Try.f8.params.toList args.toList ds pl := hA0
    have hw : ∀ n ∈ DataW.weightsEach Try.prog Try.f8.params.toList ds, n ≤ reachBytes := hw0
    rw [Try.params8] at hA hval hw
    clear hval0 hA0 hw0
    obtain ⟨v0, vs0, ds0, ps0, x0, e0, K0, g0, hA0, hw0⟩ := args_cons hA hw (opens_struct Try.underlying23 (by kernel_rfl) (opensF_cons rfl (by kernel_rfl) (opens_int Try.underlying3) (opensF_cons rfl (by kernel_rfl) (opens_int Try.underlying3) (opensF_one rfl (by kernel_rfl) (opens_int Try.underlying3)))))
    obtain ⟨v1, vs1, ds1, ps1, x1, e1, K1, g1, hA1, hw1⟩ := args_cons hA0 hw0 (opens_int Try.underlying5)
    obtain ⟨v2, vs2, ds2, ps2, x2, e2, K2, g2, hA2, hw2⟩ := args_cons hA1 hw1 (opens_slice Try.underlying55 (by kernel_rfl) open57)
    have hn := args_nil hA2
    obtain rfl : args = #[v0, v1, v2] := by
      have : args.toList = [v0, v1, v2] := by rw [e0, e1, e2, hn]
      exact Array.ext' this
    obtain ⟨c0_0, r0_0, hc0_0, K0_0, R0_0⟩ := K0
    have k0_0 : c0_0 = [Value.int .i64 x0.1] := K0_0
    obtain ⟨c0_1, r0_1, hc0_1, K0_1, R0_1⟩ := R0_0
    have k0_1 : c0_1 = [Value.int .i64 x0.2.1] := K0_1
    have K0_2 := R0_1
    have k0_2 : r0_1 = [Value.int .i64 x0.2.2] := K0_2
    have hv0 : v0.cells.toList = [.int .i64 x0.1, .int .i64 x0.2.1, .int .i64 x0.2.2] := by simp only [hc0_0, hc0_1, k0_0, k0_1, k0_2, List.cons_append, List.nil_append]
    obtain rfl := val_agg Try.underlying23 (hval 0 23 v0 rfl rfl) hv0
    obtain rfl := val_int Try.underlying5 (hval 1 5 v1 rfl rfl) K1
    obtain ⟨A2, c2, hv2, hc2, hr2⟩ := K2
    obtain rfl := val_slice Try.underlying55 (hval 2 55 v2 rfl rfl) hv2
    obtain ⟨k, hk⟩ := QSd.CapacitorEnergyBalance_row x0.1 x0.2.1 x0.2.2 x1 x2 g0 g1 g2
    exact QSd.tricklelaw08_CapacitorEnergyBalance.calls k x0.1 x0.2.1 x0.2.2 x1 A2 c2 x2 true W hr2 hc2 hk
theorem holds : Rows.CapacitorEnergyBalanceSaid :=
  OpenClaim.holds_of_wide 8 Try.f8 rfl rfl rfl rfl rfl rfl rfl ⟨rfl, rfl, rfl, rfl, rfl⟩ rfl rfl rfl rfl rfl (by kernel_rfl) Try.func8 (by kernel_rfl)
    (of_decide_eq_true (by kernel_rfl)) (by unfold Func.isWrapper; first | (rw [if_pos (by decide +kernel)]; kernel_rfl) | (rw [if_neg (by decide +kernel)]; exact ⟨rfl, rfl⟩))
    (fun os started H enc _ => lifted os started H enc)
#print axioms holds
end Go.Proofs.Ytifogngffmhmaaa.RowCapacitorEnergyBalance

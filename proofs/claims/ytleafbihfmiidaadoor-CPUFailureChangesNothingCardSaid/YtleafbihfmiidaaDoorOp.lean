/- c12: what the laws' arguments hold. -/
import Derived.Test.YtleafbihfmiidaaDoorKc
import Derived.Test.YtleafbihfmiidaaDoorCards
import Derived.Test.YtleafbihfmiidaaDoorTie
namespace Go.Proofs.YtleafbihfmiidaaDoor.Kc
open Go.RowKit Go.WideShapes Go.ChangeShapes Go.Proofs.YtleafbihfmiidaaDoor.Ka
open Go.Proofs.YtleafbihfmiidaaDoorW.PrintWords
variable {H : Type} {enc : TypeId × Value → H} {W : World}
theorem s16_of {n : Int} (h : (Lit.int .i16 n).wf = true) : QAl.S16 n := by
  simp [Lit.wf] at h
  exact ⟨by first | exact h.1 | omega, by first | exact h.2 | omega⟩
abbrev kState : Kd (Int × List Int × List Int) := Kd.pair (Kd.int .i64) (Kd.pair (Kd.arr 8 (Kd.int .i16) (by decide)) (Kd.arr 64 (Kd.int .i16) (by decide)))
set_option maxRecDepth 100000 in
theorem opens_State : Opens enc Tryd.prog W 26 kState (fun x => (Lit.int .i64 x.1).wf = true ∧ (∀ v ∈ x.2.1, (Lit.int .i16 v).wf = true) ∧ (∀ v ∈ x.2.2, (Lit.int .i16 v).wf = true)) :=
  opens_struct Tryd.underlying26 (by kernel_rfl) (opensF_cons rfl (by kernel_rfl) (opens_int Tryd.underlying3)
    (opensF_cons rfl (by kernel_rfl) (Arr.opens_array (by decide) Tryd.underlying23 (by kernel_rfl) (by kernel_rfl) (opens_int Tryd.underlying22))
      (opensF_one rfl (by kernel_rfl) (Arr.opens_array (by decide) Tryd.underlying24 (by kernel_rfl) (by kernel_rfl) (opens_int Tryd.underlying22)))))
abbrev kRegion : Kd (Int × List Int) := Kd.pair (Kd.int .i64) (Kd.slice 3 (Kd.int .i64))
set_option maxRecDepth 100000 in
theorem opens_Region : Opens enc Tryd.prog W 29 kRegion (fun x => (Lit.int .i64 x.1).wf = true ∧ (x.2.length * Tryd.prog.bytesOf 3 ≤ reachBytes ∧ x.2.length ≤ maxLen ∧ ∀ v ∈ x.2, (Lit.int .i64 v).wf = true)) :=
  opens_struct Tryd.underlying29 (by kernel_rfl) (opensF_cons rfl (by kernel_rfl) (opens_int Tryd.underlying3) (opensF_one rfl (by kernel_rfl) (opens_slice Tryd.underlying27 (by kernel_rfl) (opens_int Tryd.underlying3))))
theorem State_cells {x : Int × List Int × List Int} {v : Value} (hv : ∃ base, Value.okWide Tryd.prog W .any base 26 v) (h : kState.K W x v.cells.toList)
    (hg : (Lit.int .i64 x.1).wf = true ∧ (∀ v ∈ x.2.1, (Lit.int .i16 v).wf = true) ∧ (∀ v ∈ x.2.2, (Lit.int .i16 v).wf = true)) :
    ∃ s : QAl.Cs, v = .agg s.cells ∧ s.Ok ∧ (Lit.int .i64 s.pc).wf = true := by
  obtain ⟨pc, R, F⟩ := x
  obtain ⟨c0, c1, hcs, h0, c2, c3, rfl, h1, h2⟩ := h
  obtain ⟨l1, e1⟩ := Kd.arr_cells h1
  obtain ⟨l2, e2⟩ := Kd.arr_cells h2
  have h0 : c0 = [.int .i64 pc] := h0
  subst h0 e1 e2
  refine ⟨⟨pc, R ++ F⟩, ?_, ⟨?_, ?_⟩, hg.1⟩
  · rw [← val_agg Tryd.underlying26 hv hcs]
    unfold QAl.Cs.cells
    simp [encs]
  · dsimp only at l1 l2
    simp [l1, l2]
  · intro v hv'
    rcases List.mem_append.1 hv' with h | h
    · exact s16_of (hg.2.1 v h)
    · exact s16_of (hg.2.2 v h)
theorem Region_cells {x : Int × List Int} {v : Value} (hv : ∃ base, Value.okWide Tryd.prog W .any base 29 v) (h : kRegion.K W x v.cells.toList) :
    ∃ (A : Option Addr) (c : Nat), v = .agg #[.int .i64 x.1, .slice A x.2.length c] ∧ x.2.length ≤ c ∧ (Kd.int .i64).C W A x.2.length x.2 := by
  obtain ⟨st, ls⟩ := x
  obtain ⟨c0, c1, hcs, h0, A, c, e1, hc, hr⟩ := h
  have h0 : c0 = [.int .i64 st] := h0
  subst h0 e1
  exact ⟨A, c, (val_agg Tryd.underlying29 hv hcs).symm, hc, hr⟩
end Go.Proofs.YtleafbihfmiidaaDoor.Kc

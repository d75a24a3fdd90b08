/- What this claim needs of Op. Parted by prune.py. -/
import Derived.Test.YtleafbihfmiidaaDoorZ5Kc
import Derived.Test.YtleafbihfmiidaaDoorCards
import Derived.Test.YtleafbihfmiidaaDoorTie
namespace Go.Proofs.YtleafbihfmiidaaDoor.Kc
open Go.RowKit Go.WideShapes Go.ChangeShapes Go.Proofs.YtleafbihfmiidaaDoor.Ka
open Go.Proofs.YtleafbihfmiidaaDoorW.PrintWords
variable {H : Type} {enc : TypeId × Value → H} {W : World}
theorem s16_of {n : Int} (h : (Lit.int .i16 n).wf = true) : QAl.S16 n := by
  simp [Lit.wf] at h
  exact ⟨by first | exact h.1 | omega, by first | exact h.2 | omega⟩
abbrev kState : Kd (Int × List Int × List Int) := Kd.pair (Kd.int .i64) (Kd.pair (Kd.arr 8 (Kd.int .i16) (by decide)) (Kd.arr 64 (Kd.int .i16) (by decide)))
set_option maxRecDepth 100000 in
theorem opens_State : Opens enc Tryd.prog W 26 kState (fun x => (Lit.int .i64 x.1).wf = true ∧ (∀ v ∈ x.2.1, (Lit.int .i16 v).wf = true) ∧ (∀ v ∈ x.2.2, (Lit.int .i16 v).wf = true)) :=
  opens_struct Tryd.underlying26 (by kernel_rfl) (opensF_cons rfl (by kernel_rfl) (opens_int Tryd.underlying3)
    (opensF_cons rfl (by kernel_rfl) (Arr.opens_array (by decide) Tryd.underlying23 (by kernel_rfl) (by kernel_rfl) (opens_int Tryd.underlying22))
      (opensF_one rfl (by kernel_rfl) (Arr.opens_array (by decide) Tryd.underlying24 (by kernel_rfl) (by kernel_rfl) (opens_int Tryd.underlying22)))))
end Go.Proofs.YtleafbihfmiidaaDoor.Kc

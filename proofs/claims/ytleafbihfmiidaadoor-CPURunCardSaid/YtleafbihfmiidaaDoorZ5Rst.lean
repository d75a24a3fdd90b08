/- What this claim needs of Rst. Parted by prune.py. -/
import Derived.Test.YtleafbihfmiidaaDoorZ5RsA
import Derived.Test.YtleafbihfmiidaaDoorZ5RsB
import Derived.Test.YtleafbihfmiidaaDoorZ5RsC
import Derived.Test.YtleafbihfmiidaaDoorZ5RsD
namespace Go.Proofs.YtleafbihfmiidaaDoor.QAl
open Go.RowKit Go.Proofs.YtleafbihfmiidaaDoorW.PrintWords Go.Proofs.YtleafbihfmiidaaDoorW.PrintLast Go.Proofs.YtleafbihfmiidaaDoorW.PrintMore Go.Proofs.YtleafbihfmiidaaDoor.Sl
theorem rStep_call {L : List Chunk} {w0 w : World} {gw : Nat} {s : Cs} {B : Bs} {p : XP} {x : Img} (h : BusM w0 w gw B L) (hl : B.calls.length ≤ 50000) (hs : s.Ok) (hB : B.Ok) (hxo : x.Ok) (hXR : XR p x w0) :
    Calls Tryd.prog 20 #[.agg s.cells, .agg (p.arr x), .pointer (some ⟨gw, 0, none⟩)] w fun e w' => e = .returned (.tuple #[.agg (stepC x s B).1.cells, .int .i64 (stepC x s B).2.2]) ∧ BusM w0 w' gw (stepC x s B).2.1 L := by
  by_cases h0 : trapB x s = true
  · exact rStep_A h hl hs hB hxo hXR (fun hn => by rw [h0] at hn; cases hn)
  have h1 : trapB x s = false := by simpa using h0
  obtain ⟨_, hv, _⟩ := trap_no h1
  obtain ⟨_, _, _, _, _, _, _, hop, _⟩ := valid_ins hv
  by_cases a8 : (codeAt x s.pc).f0 ≤ 8
  · exact rStep_A h hl hs hB hxo hXR (fun _ => ⟨hop.1, a8⟩)
  by_cases a15 : (codeAt x s.pc).f0 ≤ 15
  · exact rStep_B h hl hs hB hxo hXR (fun _ => ⟨by omega, a15⟩)
  by_cases a22 : (codeAt x s.pc).f0 ≤ 22
  · exact rStep_C h hl hs hB hxo hXR (fun _ => ⟨by omega, a22⟩)
  · exact rStep_D h hl hs hB hxo hXR (fun _ => ⟨by omega, hop.2⟩)
end Go.Proofs.YtleafbihfmiidaaDoor.QAl

/- What this claim needs of Rsz. Parted by prune.py. -/
import Derived.Test.YtleafbihfmiidaaDoorZ5Rq
import Derived.Test.YtleafbihfmiidaaDoorZ5Tw
namespace Go.Proofs.YtleafbihfmiidaaDoor.QAl
open Go.RowKit Go.Proofs.YtleafbihfmiidaaDoorW.PrintWords Go.Proofs.YtleafbihfmiidaaDoorW.PrintLast Go.Proofs.YtleafbihfmiidaaDoorW.PrintMore Go.Proofs.YtleafbihfmiidaaDoor.Sl
set_option linter.unusedVariables false
set_option linter.unusedSimpArgs false
theorem results_ct {P : Program} {fn : Func} {p v : Tmp} {ty : TypeId} (h : fn.results = #[.cell p ty, .tmp v]) (tmps : Array Value) (w : World) (g : Nat) (t : TypeId) (cs : Array Value) (fr : Nat × Nat) (d : TypeDesc)
    (hp : tmps.getD p undef = .pointer (some ⟨g, 0, none⟩)) (hg : w.heap[g]? = some (.cells cs t fr))
    (hu : P.underlying ty = some d) (hd : (match d with | .struct _ | .array _ _ => true | _ => false) = true) (hi : (P.info? ty).map (·.size) = some cs.size) :
    (results fn tmps).run P w = .ok (.tuple #[.agg cs, tmps.getD v undef]) w := by
  have hp' : tmps[p]?.getD undef = .pointer (some ⟨g, 0, none⟩) := by simpa using hp
  simp [results, h, hp', asAddr, run_loadVar_row w g t ty cs fr d hg hu hd hi]
theorem BusM.putRow {w0 w : World} {L : List Chunk} {gw g t : Nat} {B : Bs} {old : Array Value} (h : BusM w0 w gw B (ob g (.cells old t) :: L)) (new : Array Value) : BusM w0 (w.setRow g new) gw B (ob g (.cells new t) :: L) := by
  obtain ⟨M, hm, hb⟩ := h.lift
  have hm : Mem w0 w (ob g (.cells old t) :: (L ++ M)) := hm
  exact hb _ (ob g (.cells new t) :: L) (Go.Proofs.YtleafbihfmiidaaDoor.QAl.putRow hm new)
theorem trap_no {x : Img} {s : Cs} (h : trapB x s = false) : (0 ≤ s.pc ∧ s.pc < (x.codes.length : Int)) ∧ validC (codeAt x s.pc) = true ∧ opsB x s (codeAt x s.pc).f0 (codeAt x s.pc).f1.toNat (codeAt x s.pc).f2.toNat (codeAt x s.pc).f4 = true := by
  unfold trapB at h
  split at h
  · rename_i hp
    cases h1 : validC (codeAt x s.pc) <;> cases h2 : opsB x s (codeAt x s.pc).f0 (codeAt x s.pc).f1.toNat (codeAt x s.pc).f2.toNat (codeAt x s.pc).f4 <;> simp_all
  · cases h
/-- What lies in memory ahead of the switch. -/
def StW (w0 W : World) (gw g gi gq : Nat) (B : Bs) (t s : Cs) (op : Int) (a b cc : Nat) (im : Int) (p : XP) (x : Img) (L : List Chunk) : Prop :=
  BusM w0 W gw B (ob g (.cells t.cells 26) :: ob gq (.cells s.cells 26) :: ob gi (iO op a b cc im) :: ob (g + 1 + 1) (.cells Tryd.zeroCells26 26) :: ob (g + 1) (.cells (p.arr x) 47) :: L)
end Go.Proofs.YtleafbihfmiidaaDoor.QAl

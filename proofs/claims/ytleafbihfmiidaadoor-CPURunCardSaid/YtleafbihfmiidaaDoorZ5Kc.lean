/- What this claim needs of Kc. Parted by prune.py. -/
import Derived.Test.YtleafbihfmiidaaDoorZ5Aw
import Derived.Test.YtleafbihfmiidaaDoorZ5Ka
import Derived.Test.YtleafbihfmiidaaDoorZ5Arr
import Derived.LaidMore
import Derived.LaidLaws
import Derived.LaidHandle
import Derived.MakeChecks
import Derived.Handed
import Derived.Stop.Joined
import Derived.Lib.LaidTab
namespace Go.Proofs.YtleafbihfmiidaaDoor.Kc
open Go.RowKit Go.WideShapes Go.ChangeShapes Go.Proofs.YtleafbihfmiidaaDoor.Ka
open Go.Proofs.YtleafbihfmiidaaDoorW.PrintWords
variable {H : Type} {enc : TypeId × Value → H}
theorem law_lifted_laid {C : Checked} {os : Os} {f : FuncId} {fn : Func} {s : ChangeSpec} {rt : TypeId} {laid : List (String × DataW Unit)}
    (own : ownKnob C.prog.godebug = none) (started : os.Started) (noInit : C.prog.inits.idxOf? f = none) (hfn : C.prog.funcs[f]? = some fn)
    (witness : ∃ (w : World) (tape : Tape) (i : Input), w.os = os ∧ (w.forCall tape i).Shaped C.prog ∧ i.vars = [] ∧ Input.okWide C.prog (w.forCall tape i) .any w.heap.size f i ∧
      ((s.pre enc C.prog fn [] false (w.forCall tape i).memory i.args ∧ laidMetH C.prog laid (w.forCall tape i).memory) ∧ sizedMet enc C.prog fn (OpenSpec.ofChange s) false (w.forCall tape i).memory i.args) ∧ ({} : Assume).holds C.prog (lone (Frame.enter C.prog f i.args .normal) [] (w.forCall tape i)))
    (hl : laidOutB C.prog = true) (hv : s.vars = []) (hr : (fn.params.toList.all fun t => C.prog.readableRec t && decide (t < C.prog.types.size)) = true)
    (hrt : fn.resultTypes = #[rt]) (hu : C.prog.underlying rt = some .bool)
    (hs : ∀ ds : List (DataW H), ds.length = fn.params.size → s.fn H ds = { results := [.lit (.bool true)], args := ds })
    (walk : ∀ (W : World) (args : Array Value) (ds : List (DataW H)) (ps : List MemPlace),
      (∀ (j : Nat) t v, fn.params[j]? = some t → args[j]? = some v → ∃ base, Value.okWide C.prog W .any base t v) →
      DataW.TrodAll enc C.prog W 0 (fun _ => true) true fn.params.toList args.toList ds ps →
      (∀ n ∈ DataW.weightsEach C.prog fn.params.toList ds, n ≤ reachBytes) → laidMetH C.prog laid W →
      Calls C.prog f args W fun e W' => e = .returned (.bool true) ∧ Below W.heap.size W W') :
    ReturnsInHanded {} C os f .any (fun w args => (s.pre enc C.prog fn [] false w args ∧ laidMetH C.prog laid w) ∧ sizedMet enc C.prog fn (OpenSpec.ofChange s) false w args) (s.post enc C.prog fn false true false false) := by
  refine returnsInHanded_of_change_and (X := fun w _ => laidMetH C.prog laid w) (fun _ _ _ hh h => laidMetH.of_heap hh h) own started noInit hfn witness ?_
  intro W base args ds gs before hval hW hcnd hsz hX _
  have hW' := hW
  obtain ⟨p, q, hA, hV, rfl, hfz, hnd⟩ := hW
  have hgs : gs = [] ∧ q = [] := by
    rw [hv] at hV
    cases gs with
    | nil => exact ⟨rfl, hV⟩
    | cons _ _ => exact absurd hV (by simp [DataW.TrodVars])
  obtain ⟨rfl, rfl⟩ := hgs
  have hvt : s.plain.varTypes C.prog = [] := by simp [ChangeSpec.plain, DataSpec.varTypes, hv]
  rw [hvt, List.append_nil, List.append_nil] at hsz
  have hlt : ∀ x ∈ p, x.block < W.heap.size := fun x hx => by simpa using hW'.lt x (by simp [hx])
  refine (walk W args ds p (fun j t v h1 h2 => ⟨base, hval j t v h1 h2⟩) hA (fun n hn => by simpa using List.all_eq_true.1 hsz n hn) hX).mono fun e W' ⟨he, bel⟩ => ⟨_, he, ?_⟩
  have hlen := trodAll_length _ _ _ _ hA
  have hs' := hs (ds ++ []) (by rw [List.append_nil, hlen.1]; simp)
  refine ⟨ds, [], p ++ [], [], p, [], hW', ?_, ?_, ?_, bel.frame _, fun h => by cases h⟩
  · rw [hs', hrt]
    exact trodAll_mk1 (shut_bool hu true)
  · rw [hs', List.append_nil]
    exact trodAll_stays hl bel _ _ _ _ hr hA hlt _ (fun x hx => by simpa using hlt x hx)
  · rw [hv, hs']
    show DataW.TrodVars enc C.prog W' _ [] (Left.vars _) []
    rfl
abbrev binL : List (String × DataW Unit) := [("trickle/cpu.binary", Rows.laid_trickle_cpu_binary)]
theorem own : ownKnob Tryd.prog.godebug = none := by kernel_rfl
theorem laidOut : laidOutB Tryd.prog = true := by kernel_rfl
theorem gBin : Tryd.prog.globalNamed "trickle/cpu.binary" = some 0 := by kernel_rfl
theorem tBin : (Tryd.prog.globals[0]?).map (·.type) = some 114 := by kernel_rfl
theorem c3 : Tryd.prog.cellsOf 3 = 1 := by kernel_rfl
theorem c114 : Tryd.prog.cellsOf 114 = 14 := by kernel_rfl
theorem door_met (os : Os) (args : Array Value) : laidMetH Tryd.prog binL ((World.doorLaid Tryd.prog 14 os).forCall (fun _ _ => 0) ⟨#[], args, []⟩).memory :=
  laidMetH_of_parts3 (fuel := 8) (laidMet_of_run' 8 (by kernel_rfl) (by kernel_rfl)) (by kernel_rfl) (by kernel_rfl)
theorem gt_of {W : World} (h : laidMetH Tryd.prog binL W) : QAl.GT W := by
  rw [MakeChecks.laidMetH_plain _ _ _ (by kernel_rfl)] at h
  have ht := Lib.tabIs_of_head (k := .i64) (zs := QAl.binT) gBin tBin Tryd.underlying114 Tryd.underlying3 c3 c114 h
  intro i hi
  exact ht.cell gBin i hi
end Go.Proofs.YtleafbihfmiidaaDoor.Kc

/-
  NARROWER THAN 'FOR EVERY INPUT', by the rows' own cells (each row's printed sentence says how): CPURestores: laid · CPUSaveAfterRestore: laid · CPUStep: loops, laid · CPURun: loops, laid · CPUSplitsRun: loops, laid · CPUFailureChangesNothing: loops, laid · CPUSaves: laid.
  DERIVED. THE GIVEN ROWS OF THIS SEAT. 7 by the template 'for every input the law returns true; each argument reads behind the call as it read before'; 0 by the template 'total and deterministic' (their statements: YtleafbihfmiidaaDoorTotals.lean).
  GIVEN WITH THE SEED: the statements are not yours to turn. If you find one false, say at which input.
  Laid BY PROGRAM, IN A SANDBOX (cutbox-rows.mjs): the forced cells as the released guide's own fill.sh prints them over the translation 5c974da02eb47bb0… (all of the seat's roots in one cut). By AI agents, Wed Nov 11 2026. No macro, syntax, notation, axiom, sorry.
-/
import Derived.Test.YtleafbihfmiidaaDoorChecked
import GoSem.Claim
import GoSem.ClaimJoined
import GoSem.ClaimMapViews
import Derived.JoinedTies
import Derived.KernelRfl
namespace Go.Proofs.YtleafbihfmiidaaDoor
/- THE CELL 'sum', in the pinned program and in every row, IS THE sha256 OF THE DUMP (.gsa) THAT YtleafbihfmiidaaDoorProg.lean LOADS. Nothing in Lean hashes anything: it is a label: what it is worth is what the hold of that sum in a sandbox is worth. -/
noncomputable def Tryd.pinned : Pinned := { name := "ytleafbihfmiidaadoor", sum := "5c974da02eb47bb0a2370f5b8d5500f640d0e5460abba7ef9c1fce0271601a63", checked := Tryd.checked }
namespace Rows
def none {H : Type} : Left H := { results := [], args := [] }

/- WHAT THE LISTED PACKAGE-LEVEL VARIABLES READ AS WHEN THE CALL BEGINS. Each datum BY PROGRAM (the guide's laid-datum.mjs) off the statement by which the dump's own 'gosem.cut.vars' lays the variable. In a bare row this is a premise. The card (YtleafbihfmiidaaDoorCards.lean) ties it to the program's text. -/
def laid_trickle_cpu_binary {H : Type} : DataW H := .agg [.lit (.int .i64 0), .lit (.int .i64 0), .lit (.int .i64 0), .lit (.int .i64 0), .lit (.int .i64 0), .lit (.int .i64 0), .lit (.int .i64 3), .lit (.int .i64 4), .lit (.int .i64 5), .lit (.int .i64 6), .lit (.int .i64 7), .lit (.int .i64 8), .lit (.int .i64 10), .lit (.int .i64 11)]

/-- 'tricklelaw12.CPURestores': WHATEVER THE INPUT: true; the input reads as it did. -/
def cPURestoresSpec : ChangeSpec := { name := "cPURestores", fn := fun _ => fun
  | [d1, d2, d3] => { results := [.lit (.bool true)], args := [d1, d2, d3] }
  | _ => none }
def cPURestoresRow : OpenClaim := { program := "ytleafbihfmiidaadoor", sum := "5c974da02eb47bb0a2370f5b8d5500f640d0e5460abba7ef9c1fce0271601a63", func := "trickle/tricklelaw12.CPURestores", spec := "cPURestores", unfollowed := true, recurses := true, named := ["trickle/cpu.binary"], apart := false, laid := [("trickle/cpu.binary", laid_trickle_cpu_binary)] }
def CPURestoresSaid : Prop := cPURestoresRow.holds Tryd.pinned (OpenSpec.ofChange cPURestoresSpec)

/-- ITS FALSE NEIGHBOUR: 'it returns false'. Refute it at one input. -/
def cPURestoresWrong : ChangeSpec := { name := "cPURestores", fn := fun _ => fun
  | [d1, d2, d3] => { results := [.lit (.bool false)], args := [d1, d2, d3] }
  | _ => none }
def CPURestoresWrongFalsely : Prop := cPURestoresRow.holds Tryd.pinned (OpenSpec.ofChange cPURestoresWrong)

/-- 'tricklelaw12.CPUSaveAfterRestore': WHATEVER THE INPUT: true; the input reads as it did. -/
def cPUSaveAfterRestoreSpec : ChangeSpec := { name := "cPUSaveAfterRestore", fn := fun _ => fun
  | [d1, d2, d3] => { results := [.lit (.bool true)], args := [d1, d2, d3] }
  | _ => none }
def cPUSaveAfterRestoreRow : OpenClaim := { program := "ytleafbihfmiidaadoor", sum := "5c974da02eb47bb0a2370f5b8d5500f640d0e5460abba7ef9c1fce0271601a63", func := "trickle/tricklelaw12.CPUSaveAfterRestore", spec := "cPUSaveAfterRestore", unfollowed := true, recurses := true, named := ["trickle/cpu.binary"], apart := false, laid := [("trickle/cpu.binary", laid_trickle_cpu_binary)] }
def CPUSaveAfterRestoreSaid : Prop := cPUSaveAfterRestoreRow.holds Tryd.pinned (OpenSpec.ofChange cPUSaveAfterRestoreSpec)

/-- ITS FALSE NEIGHBOUR: 'it returns false'. Refute it at one input. -/
def cPUSaveAfterRestoreWrong : ChangeSpec := { name := "cPUSaveAfterRestore", fn := fun _ => fun
  | [d1, d2, d3] => { results := [.lit (.bool false)], args := [d1, d2, d3] }
  | _ => none }
def CPUSaveAfterRestoreWrongFalsely : Prop := cPUSaveAfterRestoreRow.holds Tryd.pinned (OpenSpec.ofChange cPUSaveAfterRestoreWrong)

/-- 'tricklelaw12.CPUStep': WHATEVER THE INPUT: true; the input reads as it did. -/
def cPUStepSpec : ChangeSpec := { name := "cPUStep", fn := fun _ => fun
  | [d1, d2] => { results := [.lit (.bool true)], args := [d1, d2] }
  | _ => none }
def cPUStepRow : OpenClaim := { program := "ytleafbihfmiidaadoor", sum := "5c974da02eb47bb0a2370f5b8d5500f640d0e5460abba7ef9c1fce0271601a63", func := "trickle/tricklelaw12.CPUStep", spec := "cPUStep", unfollowed := true, recurses := true, named := ["trickle/cpu.binary"], loops := true, apart := false, laid := [("trickle/cpu.binary", laid_trickle_cpu_binary)] }
def CPUStepSaid : Prop := cPUStepRow.holds Tryd.pinned (OpenSpec.ofChange cPUStepSpec)

/-- ITS FALSE NEIGHBOUR: 'it returns false'. Refute it at one input. -/
def cPUStepWrong : ChangeSpec := { name := "cPUStep", fn := fun _ => fun
  | [d1, d2] => { results := [.lit (.bool false)], args := [d1, d2] }
  | _ => none }
def CPUStepWrongFalsely : Prop := cPUStepRow.holds Tryd.pinned (OpenSpec.ofChange cPUStepWrong)

/-- 'tricklelaw12.CPURun': WHATEVER THE INPUT: true; the input reads as it did. -/
def cPURunSpec : ChangeSpec := { name := "cPURun", fn := fun _ => fun
  | [d1, d2, d3] => { results := [.lit (.bool true)], args := [d1, d2, d3] }
  | _ => none }
def cPURunRow : OpenClaim := { program := "ytleafbihfmiidaadoor", sum := "5c974da02eb47bb0a2370f5b8d5500f640d0e5460abba7ef9c1fce0271601a63", func := "trickle/tricklelaw12.CPURun", spec := "cPURun", unfollowed := true, recurses := true, named := ["trickle/cpu.binary"], loops := true, apart := false, laid := [("trickle/cpu.binary", laid_trickle_cpu_binary)] }
def CPURunSaid : Prop := cPURunRow.holds Tryd.pinned (OpenSpec.ofChange cPURunSpec)

/-- ITS FALSE NEIGHBOUR: 'it returns false'. Refute it at one input. -/
def cPURunWrong : ChangeSpec := { name := "cPURun", fn := fun _ => fun
  | [d1, d2, d3] => { results := [.lit (.bool false)], args := [d1, d2, d3] }
  | _ => none }
def CPURunWrongFalsely : Prop := cPURunRow.holds Tryd.pinned (OpenSpec.ofChange cPURunWrong)

/-- 'tricklelaw12.CPUSplitsRun': WHATEVER THE INPUT: true; the input reads as it did. -/
def cPUSplitsRunSpec : ChangeSpec := { name := "cPUSplitsRun", fn := fun _ => fun
  | [d1, d2, d3] => { results := [.lit (.bool true)], args := [d1, d2, d3] }
  | _ => none }
def cPUSplitsRunRow : OpenClaim := { program := "ytleafbihfmiidaadoor", sum := "5c974da02eb47bb0a2370f5b8d5500f640d0e5460abba7ef9c1fce0271601a63", func := "trickle/tricklelaw12.CPUSplitsRun", spec := "cPUSplitsRun", unfollowed := true, recurses := true, named := ["trickle/cpu.binary"], loops := true, apart := false, laid := [("trickle/cpu.binary", laid_trickle_cpu_binary)] }
def CPUSplitsRunSaid : Prop := cPUSplitsRunRow.holds Tryd.pinned (OpenSpec.ofChange cPUSplitsRunSpec)

/-- ITS FALSE NEIGHBOUR: 'it returns false'. Refute it at one input. -/
def cPUSplitsRunWrong : ChangeSpec := { name := "cPUSplitsRun", fn := fun _ => fun
  | [d1, d2, d3] => { results := [.lit (.bool false)], args := [d1, d2, d3] }
  | _ => none }
def CPUSplitsRunWrongFalsely : Prop := cPUSplitsRunRow.holds Tryd.pinned (OpenSpec.ofChange cPUSplitsRunWrong)

/-- 'tricklelaw12.CPUFailureChangesNothing': WHATEVER THE INPUT: true; the input reads as it did. -/
def cPUFailureChangesNothingSpec : ChangeSpec := { name := "cPUFailureChangesNothing", fn := fun _ => fun
  | [d1, d2] => { results := [.lit (.bool true)], args := [d1, d2] }
  | _ => none }
def cPUFailureChangesNothingRow : OpenClaim := { program := "ytleafbihfmiidaadoor", sum := "5c974da02eb47bb0a2370f5b8d5500f640d0e5460abba7ef9c1fce0271601a63", func := "trickle/tricklelaw12.CPUFailureChangesNothing", spec := "cPUFailureChangesNothing", unfollowed := true, recurses := true, named := ["trickle/cpu.binary"], loops := true, apart := false, laid := [("trickle/cpu.binary", laid_trickle_cpu_binary)] }
def CPUFailureChangesNothingSaid : Prop := cPUFailureChangesNothingRow.holds Tryd.pinned (OpenSpec.ofChange cPUFailureChangesNothingSpec)

/-- ITS FALSE NEIGHBOUR: 'it returns false'. Refute it at one input. -/
def cPUFailureChangesNothingWrong : ChangeSpec := { name := "cPUFailureChangesNothing", fn := fun _ => fun
  | [d1, d2] => { results := [.lit (.bool false)], args := [d1, d2] }
  | _ => none }
def CPUFailureChangesNothingWrongFalsely : Prop := cPUFailureChangesNothingRow.holds Tryd.pinned (OpenSpec.ofChange cPUFailureChangesNothingWrong)

/-- 'tricklelaw12.CPUSaves': WHATEVER THE INPUT: true; the input reads as it did. -/
def cPUSavesSpec : ChangeSpec := { name := "cPUSaves", fn := fun _ => fun
  | [d1, d2] => { results := [.lit (.bool true)], args := [d1, d2] }
  | _ => none }
def cPUSavesRow : OpenClaim := { program := "ytleafbihfmiidaadoor", sum := "5c974da02eb47bb0a2370f5b8d5500f640d0e5460abba7ef9c1fce0271601a63", func := "trickle/tricklelaw12.CPUSaves", spec := "cPUSaves", unfollowed := true, recurses := true, named := ["trickle/cpu.binary"], apart := false, laid := [("trickle/cpu.binary", laid_trickle_cpu_binary)] }
def CPUSavesSaid : Prop := cPUSavesRow.holds Tryd.pinned (OpenSpec.ofChange cPUSavesSpec)

/-- ITS FALSE NEIGHBOUR: 'it returns false'. Refute it at one input. -/
def cPUSavesWrong : ChangeSpec := { name := "cPUSaves", fn := fun _ => fun
  | [d1, d2] => { results := [.lit (.bool false)], args := [d1, d2] }
  | _ => none }
def CPUSavesWrongFalsely : Prop := cPUSavesRow.holds Tryd.pinned (OpenSpec.ofChange cPUSavesWrong)

/- THE SECOND FORM. 'bulk': how many values and letters a reading holds, each counted each time it is reached (what is shared counts as often as it is met; a slice's spare places count too). A statement '..UptoSaid' is the law's where the arguments, and the package variables that the reading takes, are together of bulk at most 1048576: NARROWER than '..Said'. Prove '..Said' where nothing that the law and all that it calls make is longer than what came in: it says more and counts as full. Else prove '..UptoSaid'. A law counts once. -/
mutual
def uptoBulk {H : Type} : DataW H → Nat
  | .lit (.string bytes) => bytes.length + 1
  | .lit _ => 1
  | .nil => 1
  | .ptr d => uptoBulk d + 1
  | .slice elems spare => uptoBulkAll elems + uptoBulkAll spare + 1
  | .agg parts => uptoBulkAll parts + 1
  | .iface _ d => uptoBulk d + 1
  | .map entries => uptoBulkEntries entries + 1
  | .held _ => 1
def uptoBulkAll {H : Type} : List (DataW H) → Nat
  | [] => 0
  | d :: r => uptoBulk d + uptoBulkAll r
def uptoBulkEntries {H : Type} : List (Lit × DataW H) → Nat
  | [] => 0
  | x :: r => uptoBulkEntry x + uptoBulkEntries r
def uptoBulkEntry {H : Type} : Lit × DataW H → Nat
  | (.string bytes, d) => bytes.length + uptoBulk d + 1
  | (_, d) => uptoBulk d + 1
 end
def uptoSmall : (H : Type) → List (DataW H) → Bool := fun _ ds => decide (uptoBulkAll ds ≤ 1048576)
def OpenSpec.upto (s : _root_.Go.ChangeSpec) : _root_.Go.OpenSpec := { _root_.Go.OpenSpec.ofChange s with cond := some uptoSmall }

/-- 'tricklelaw12.CPURestores', WHERE WHAT IT READS IS OF BULK AT MOST 1048576: true; the input reads as it did. -/
def cPURestoresUptoRow : OpenClaim := { program := "ytleafbihfmiidaadoor", sum := "5c974da02eb47bb0a2370f5b8d5500f640d0e5460abba7ef9c1fce0271601a63", func := "trickle/tricklelaw12.CPURestores", spec := "cPURestores", unfollowed := true, recurses := true, named := ["trickle/cpu.binary"], apart := false, laid := [("trickle/cpu.binary", laid_trickle_cpu_binary)], narrowed := true }
def CPURestoresUptoSaid : Prop := cPURestoresUptoRow.holds Tryd.pinned (OpenSpec.upto cPURestoresSpec)

/-- 'tricklelaw12.CPUSaveAfterRestore', WHERE WHAT IT READS IS OF BULK AT MOST 1048576: true; the input reads as it did. -/
def cPUSaveAfterRestoreUptoRow : OpenClaim := { program := "ytleafbihfmiidaadoor", sum := "5c974da02eb47bb0a2370f5b8d5500f640d0e5460abba7ef9c1fce0271601a63", func := "trickle/tricklelaw12.CPUSaveAfterRestore", spec := "cPUSaveAfterRestore", unfollowed := true, recurses := true, named := ["trickle/cpu.binary"], apart := false, laid := [("trickle/cpu.binary", laid_trickle_cpu_binary)], narrowed := true }
def CPUSaveAfterRestoreUptoSaid : Prop := cPUSaveAfterRestoreUptoRow.holds Tryd.pinned (OpenSpec.upto cPUSaveAfterRestoreSpec)

/-- 'tricklelaw12.CPUStep', WHERE WHAT IT READS IS OF BULK AT MOST 1048576: true; the input reads as it did. -/
def cPUStepUptoRow : OpenClaim := { program := "ytleafbihfmiidaadoor", sum := "5c974da02eb47bb0a2370f5b8d5500f640d0e5460abba7ef9c1fce0271601a63", func := "trickle/tricklelaw12.CPUStep", spec := "cPUStep", unfollowed := true, recurses := true, named := ["trickle/cpu.binary"], loops := true, apart := false, laid := [("trickle/cpu.binary", laid_trickle_cpu_binary)], narrowed := true }
def CPUStepUptoSaid : Prop := cPUStepUptoRow.holds Tryd.pinned (OpenSpec.upto cPUStepSpec)

/-- 'tricklelaw12.CPURun', WHERE WHAT IT READS IS OF BULK AT MOST 1048576: true; the input reads as it did. -/
def cPURunUptoRow : OpenClaim := { program := "ytleafbihfmiidaadoor", sum := "5c974da02eb47bb0a2370f5b8d5500f640d0e5460abba7ef9c1fce0271601a63", func := "trickle/tricklelaw12.CPURun", spec := "cPURun", unfollowed := true, recurses := true, named := ["trickle/cpu.binary"], loops := true, apart := false, laid := [("trickle/cpu.binary", laid_trickle_cpu_binary)], narrowed := true }
def CPURunUptoSaid : Prop := cPURunUptoRow.holds Tryd.pinned (OpenSpec.upto cPURunSpec)

/-- 'tricklelaw12.CPUSplitsRun', WHERE WHAT IT READS IS OF BULK AT MOST 1048576: true; the input reads as it did. -/
def cPUSplitsRunUptoRow : OpenClaim := { program := "ytleafbihfmiidaadoor", sum := "5c974da02eb47bb0a2370f5b8d5500f640d0e5460abba7ef9c1fce0271601a63", func := "trickle/tricklelaw12.CPUSplitsRun", spec := "cPUSplitsRun", unfollowed := true, recurses := true, named := ["trickle/cpu.binary"], loops := true, apart := false, laid := [("trickle/cpu.binary", laid_trickle_cpu_binary)], narrowed := true }
def CPUSplitsRunUptoSaid : Prop := cPUSplitsRunUptoRow.holds Tryd.pinned (OpenSpec.upto cPUSplitsRunSpec)

/-- 'tricklelaw12.CPUFailureChangesNothing', WHERE WHAT IT READS IS OF BULK AT MOST 1048576: true; the input reads as it did. -/
def cPUFailureChangesNothingUptoRow : OpenClaim := { program := "ytleafbihfmiidaadoor", sum := "5c974da02eb47bb0a2370f5b8d5500f640d0e5460abba7ef9c1fce0271601a63", func := "trickle/tricklelaw12.CPUFailureChangesNothing", spec := "cPUFailureChangesNothing", unfollowed := true, recurses := true, named := ["trickle/cpu.binary"], loops := true, apart := false, laid := [("trickle/cpu.binary", laid_trickle_cpu_binary)], narrowed := true }
def CPUFailureChangesNothingUptoSaid : Prop := cPUFailureChangesNothingUptoRow.holds Tryd.pinned (OpenSpec.upto cPUFailureChangesNothingSpec)

/-- 'tricklelaw12.CPUSaves', WHERE WHAT IT READS IS OF BULK AT MOST 1048576: true; the input reads as it did. -/
def cPUSavesUptoRow : OpenClaim := { program := "ytleafbihfmiidaadoor", sum := "5c974da02eb47bb0a2370f5b8d5500f640d0e5460abba7ef9c1fce0271601a63", func := "trickle/tricklelaw12.CPUSaves", spec := "cPUSaves", unfollowed := true, recurses := true, named := ["trickle/cpu.binary"], apart := false, laid := [("trickle/cpu.binary", laid_trickle_cpu_binary)], narrowed := true }
def CPUSavesUptoSaid : Prop := cPUSavesUptoRow.holds Tryd.pinned (OpenSpec.upto cPUSavesSpec)

end Rows
end Go.Proofs.YtleafbihfmiidaaDoor

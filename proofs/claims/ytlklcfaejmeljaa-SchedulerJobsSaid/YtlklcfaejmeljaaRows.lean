/-
  NARROWER THAN 'FOR EVERY INPUT', by the rows' own cells (each row's printed sentence says how): SchedulerJobs: loops.
  DERIVED. THE GIVEN ROWS OF THIS SEAT. 6 by the template 'for every input the law returns true; each argument reads behind the call as it read before'; 0 by the template 'total and deterministic' (their statements: YtlklcfaejmeljaaTotals.lean).
  GIVEN WITH THE SEED: the statements are not yours to turn. If you find one false, say at which input.
  Laid BY PROGRAM, IN A SANDBOX (cutbox-rows.mjs): the forced cells as the released guide's own fill.sh prints them over the translation baffc095bdb1771c… (all of the seat's roots in one cut). By AI agents, Wed Nov 11 2026. No macro, syntax, notation, axiom, sorry.
-/
import Derived.Test.YtlklcfaejmeljaaChecked
import GoSem.Claim
import GoSem.ClaimJoined
import GoSem.ClaimMapViews
import Derived.JoinedTies
import Derived.KernelRfl
namespace Go.Proofs.Ytlklcfaejmeljaa
/- THE CELL 'sum', in the pinned program and in every row, IS THE sha256 OF THE DUMP (.gsa) THAT YtlklcfaejmeljaaProg.lean LOADS. Nothing in Lean hashes anything: it is a label: what it is worth is what the hold of that sum in a sandbox is worth. -/
noncomputable def Try.pinned : Pinned := { name := "ytlklcfaejmeljaa", sum := "baffc095bdb1771c45e883e651ff8239952d5984653fb758e7e4377946a8ed2a", checked := Try.checked }
namespace Rows
def none {H : Type} : Left H := { results := [], args := [] }

/-- 'tricklelaw40.SchedulerSelects': WHATEVER THE INPUT: true; the input reads as it did. -/
def schedulerSelectsSpec : ChangeSpec := { name := "schedulerSelects", fn := fun _ => fun
  | [d1, d2] => { results := [.lit (.bool true)], args := [d1, d2] }
  | _ => none }
def schedulerSelectsRow : OpenClaim := { program := "ytlklcfaejmeljaa", sum := "baffc095bdb1771c45e883e651ff8239952d5984653fb758e7e4377946a8ed2a", func := "trickle/tricklelaw40.SchedulerSelects", spec := "schedulerSelects", unfollowed := true, recurses := true, apart := false }
def SchedulerSelectsSaid : Prop := schedulerSelectsRow.holds Try.pinned (OpenSpec.ofChange schedulerSelectsSpec)

/-- ITS FALSE NEIGHBOUR: 'it returns false'. Refute it at one input. -/
def schedulerSelectsWrong : ChangeSpec := { name := "schedulerSelects", fn := fun _ => fun
  | [d1, d2] => { results := [.lit (.bool false)], args := [d1, d2] }
  | _ => none }
def SchedulerSelectsWrongFalsely : Prop := schedulerSelectsRow.holds Try.pinned (OpenSpec.ofChange schedulerSelectsWrong)

/-- 'tricklelaw40.SchedulerUtilization': WHATEVER THE INPUT: true; the input reads as it did. -/
def schedulerUtilizationSpec : ChangeSpec := { name := "schedulerUtilization", fn := fun _ => fun
  | [d1, d2] => { results := [.lit (.bool true)], args := [d1, d2] }
  | _ => none }
def schedulerUtilizationRow : OpenClaim := { program := "ytlklcfaejmeljaa", sum := "baffc095bdb1771c45e883e651ff8239952d5984653fb758e7e4377946a8ed2a", func := "trickle/tricklelaw40.SchedulerUtilization", spec := "schedulerUtilization", unfollowed := true, recurses := true, apart := false }
def SchedulerUtilizationSaid : Prop := schedulerUtilizationRow.holds Try.pinned (OpenSpec.ofChange schedulerUtilizationSpec)

/-- ITS FALSE NEIGHBOUR: 'it returns false'. Refute it at one input. -/
def schedulerUtilizationWrong : ChangeSpec := { name := "schedulerUtilization", fn := fun _ => fun
  | [d1, d2] => { results := [.lit (.bool false)], args := [d1, d2] }
  | _ => none }
def SchedulerUtilizationWrongFalsely : Prop := schedulerUtilizationRow.holds Try.pinned (OpenSpec.ofChange schedulerUtilizationWrong)

/-- 'tricklelaw40.SchedulerJobs': WHATEVER THE INPUT: true; the input reads as it did. -/
def schedulerJobsSpec : ChangeSpec := { name := "schedulerJobs", fn := fun _ => fun
  | [d1, d2] => { results := [.lit (.bool true)], args := [d1, d2] }
  | _ => none }
def schedulerJobsRow : OpenClaim := { program := "ytlklcfaejmeljaa", sum := "baffc095bdb1771c45e883e651ff8239952d5984653fb758e7e4377946a8ed2a", func := "trickle/tricklelaw40.SchedulerJobs", spec := "schedulerJobs", unfollowed := true, recurses := true, loops := true, apart := false }
def SchedulerJobsSaid : Prop := schedulerJobsRow.holds Try.pinned (OpenSpec.ofChange schedulerJobsSpec)

/-- ITS FALSE NEIGHBOUR: 'it returns false'. Refute it at one input. -/
def schedulerJobsWrong : ChangeSpec := { name := "schedulerJobs", fn := fun _ => fun
  | [d1, d2] => { results := [.lit (.bool false)], args := [d1, d2] }
  | _ => none }
def SchedulerJobsWrongFalsely : Prop := schedulerJobsRow.holds Try.pinned (OpenSpec.ofChange schedulerJobsWrong)

/-- 'tricklelaw40.SchedulerMonotone': WHATEVER THE INPUT: true; the input reads as it did. -/
def schedulerMonotoneSpec : ChangeSpec := { name := "schedulerMonotone", fn := fun _ => fun
  | [d1, d2, d3] => { results := [.lit (.bool true)], args := [d1, d2, d3] }
  | _ => none }
def schedulerMonotoneRow : OpenClaim := { program := "ytlklcfaejmeljaa", sum := "baffc095bdb1771c45e883e651ff8239952d5984653fb758e7e4377946a8ed2a", func := "trickle/tricklelaw40.SchedulerMonotone", spec := "schedulerMonotone", unfollowed := true, recurses := true, apart := false }
def SchedulerMonotoneSaid : Prop := schedulerMonotoneRow.holds Try.pinned (OpenSpec.ofChange schedulerMonotoneSpec)

/-- ITS FALSE NEIGHBOUR: 'it returns false'. Refute it at one input. -/
def schedulerMonotoneWrong : ChangeSpec := { name := "schedulerMonotone", fn := fun _ => fun
  | [d1, d2, d3] => { results := [.lit (.bool false)], args := [d1, d2, d3] }
  | _ => none }
def SchedulerMonotoneWrongFalsely : Prop := schedulerMonotoneRow.holds Try.pinned (OpenSpec.ofChange schedulerMonotoneWrong)

/-- 'tricklelaw40.SchedulerEarliestDeadlineFirst': WHATEVER THE INPUT: true; the input reads as it did. -/
def schedulerEarliestDeadlineFirstSpec : ChangeSpec := { name := "schedulerEarliestDeadlineFirst", fn := fun _ => fun
  | [d1, d2] => { results := [.lit (.bool true)], args := [d1, d2] }
  | _ => none }
def schedulerEarliestDeadlineFirstRow : OpenClaim := { program := "ytlklcfaejmeljaa", sum := "baffc095bdb1771c45e883e651ff8239952d5984653fb758e7e4377946a8ed2a", func := "trickle/tricklelaw40.SchedulerEarliestDeadlineFirst", spec := "schedulerEarliestDeadlineFirst", unfollowed := true, recurses := true, apart := false }
def SchedulerEarliestDeadlineFirstSaid : Prop := schedulerEarliestDeadlineFirstRow.holds Try.pinned (OpenSpec.ofChange schedulerEarliestDeadlineFirstSpec)

/-- ITS FALSE NEIGHBOUR: 'it returns false'. Refute it at one input. -/
def schedulerEarliestDeadlineFirstWrong : ChangeSpec := { name := "schedulerEarliestDeadlineFirst", fn := fun _ => fun
  | [d1, d2] => { results := [.lit (.bool false)], args := [d1, d2] }
  | _ => none }
def SchedulerEarliestDeadlineFirstWrongFalsely : Prop := schedulerEarliestDeadlineFirstRow.holds Try.pinned (OpenSpec.ofChange schedulerEarliestDeadlineFirstWrong)

/-- 'tricklelaw40.SchedulerOrders': WHATEVER THE INPUT: true; the input reads as it did. -/
def schedulerOrdersSpec : ChangeSpec := { name := "schedulerOrders", fn := fun _ => fun
  | [d1, d2] => { results := [.lit (.bool true)], args := [d1, d2] }
  | _ => none }
def schedulerOrdersRow : OpenClaim := { program := "ytlklcfaejmeljaa", sum := "baffc095bdb1771c45e883e651ff8239952d5984653fb758e7e4377946a8ed2a", func := "trickle/tricklelaw40.SchedulerOrders", spec := "schedulerOrders", unfollowed := true, recurses := true, apart := false }
def SchedulerOrdersSaid : Prop := schedulerOrdersRow.holds Try.pinned (OpenSpec.ofChange schedulerOrdersSpec)

/-- ITS FALSE NEIGHBOUR: 'it returns false'. Refute it at one input. -/
def schedulerOrdersWrong : ChangeSpec := { name := "schedulerOrders", fn := fun _ => fun
  | [d1, d2] => { results := [.lit (.bool false)], args := [d1, d2] }
  | _ => none }
def SchedulerOrdersWrongFalsely : Prop := schedulerOrdersRow.holds Try.pinned (OpenSpec.ofChange schedulerOrdersWrong)

/- THE SECOND FORM. 'bulk': how many values and letters a reading holds, each counted each time it is reached (what is shared counts as often as it is met; a slice's spare places count too). A statement '..UptoSaid' is the law's where the arguments, and the package variables that the reading takes, are together of bulk at most 1048576: NARROWER than '..Said'. Prove '..Said' where nothing that the law and all that it calls make is longer than what came in: it says more and counts as full. Else prove '..UptoSaid'. A law counts once. -/
mutual
def uptoBulk {H : Type} : DataW H → Nat
  | .lit (.string bytes) => bytes.length + 1
  | .lit _ => 1
  | .nil => 1
  | .ptr d => uptoBulk d + 1
  | .slice elems spare => uptoBulkAll elems + uptoBulkAll spare + 1
  | .agg parts => uptoBulkAll parts + 1
  | .iface _ d => uptoBulk d + 1
  | .map entries => uptoBulkEntries entries + 1
  | .held _ => 1
def uptoBulkAll {H : Type} : List (DataW H) → Nat
  | [] => 0
  | d :: r => uptoBulk d + uptoBulkAll r
def uptoBulkEntries {H : Type} : List (Lit × DataW H) → Nat
  | [] => 0
  | x :: r => uptoBulkEntry x + uptoBulkEntries r
def uptoBulkEntry {H : Type} : Lit × DataW H → Nat
  | (.string bytes, d) => bytes.length + uptoBulk d + 1
  | (_, d) => uptoBulk d + 1
 end
def uptoSmall : (H : Type) → List (DataW H) → Bool := fun _ ds => decide (uptoBulkAll ds ≤ 1048576)
def OpenSpec.upto (s : _root_.Go.ChangeSpec) : _root_.Go.OpenSpec := { _root_.Go.OpenSpec.ofChange s with cond := some uptoSmall }

/-- 'tricklelaw40.SchedulerSelects', WHERE WHAT IT READS IS OF BULK AT MOST 1048576: true; the input reads as it did. -/
def schedulerSelectsUptoRow : OpenClaim := { program := "ytlklcfaejmeljaa", sum := "baffc095bdb1771c45e883e651ff8239952d5984653fb758e7e4377946a8ed2a", func := "trickle/tricklelaw40.SchedulerSelects", spec := "schedulerSelects", unfollowed := true, recurses := true, apart := false, narrowed := true }
def SchedulerSelectsUptoSaid : Prop := schedulerSelectsUptoRow.holds Try.pinned (OpenSpec.upto schedulerSelectsSpec)

/-- 'tricklelaw40.SchedulerUtilization', WHERE WHAT IT READS IS OF BULK AT MOST 1048576: true; the input reads as it did. -/
def schedulerUtilizationUptoRow : OpenClaim := { program := "ytlklcfaejmeljaa", sum := "baffc095bdb1771c45e883e651ff8239952d5984653fb758e7e4377946a8ed2a", func := "trickle/tricklelaw40.SchedulerUtilization", spec := "schedulerUtilization", unfollowed := true, recurses := true, apart := false, narrowed := true }
def SchedulerUtilizationUptoSaid : Prop := schedulerUtilizationUptoRow.holds Try.pinned (OpenSpec.upto schedulerUtilizationSpec)

/-- 'tricklelaw40.SchedulerJobs', WHERE WHAT IT READS IS OF BULK AT MOST 1048576: true; the input reads as it did. -/
def schedulerJobsUptoRow : OpenClaim := { program := "ytlklcfaejmeljaa", sum := "baffc095bdb1771c45e883e651ff8239952d5984653fb758e7e4377946a8ed2a", func := "trickle/tricklelaw40.SchedulerJobs", spec := "schedulerJobs", unfollowed := true, recurses := true, loops := true, apart := false, narrowed := true }
def SchedulerJobsUptoSaid : Prop := schedulerJobsUptoRow.holds Try.pinned (OpenSpec.upto schedulerJobsSpec)

/-- 'tricklelaw40.SchedulerMonotone', WHERE WHAT IT READS IS OF BULK AT MOST 1048576: true; the input reads as it did. -/
def schedulerMonotoneUptoRow : OpenClaim := { program := "ytlklcfaejmeljaa", sum := "baffc095bdb1771c45e883e651ff8239952d5984653fb758e7e4377946a8ed2a", func := "trickle/tricklelaw40.SchedulerMonotone", spec := "schedulerMonotone", unfollowed := true, recurses := true, apart := false, narrowed := true }
def SchedulerMonotoneUptoSaid : Prop := schedulerMonotoneUptoRow.holds Try.pinned (OpenSpec.upto schedulerMonotoneSpec)

/-- 'tricklelaw40.SchedulerEarliestDeadlineFirst', WHERE WHAT IT READS IS OF BULK AT MOST 1048576: true; the input reads as it did. -/
def schedulerEarliestDeadlineFirstUptoRow : OpenClaim := { program := "ytlklcfaejmeljaa", sum := "baffc095bdb1771c45e883e651ff8239952d5984653fb758e7e4377946a8ed2a", func := "trickle/tricklelaw40.SchedulerEarliestDeadlineFirst", spec := "schedulerEarliestDeadlineFirst", unfollowed := true, recurses := true, apart := false, narrowed := true }
def SchedulerEarliestDeadlineFirstUptoSaid : Prop := schedulerEarliestDeadlineFirstUptoRow.holds Try.pinned (OpenSpec.upto schedulerEarliestDeadlineFirstSpec)

/-- 'tricklelaw40.SchedulerOrders', WHERE WHAT IT READS IS OF BULK AT MOST 1048576: true; the input reads as it did. -/
def schedulerOrdersUptoRow : OpenClaim := { program := "ytlklcfaejmeljaa", sum := "baffc095bdb1771c45e883e651ff8239952d5984653fb758e7e4377946a8ed2a", func := "trickle/tricklelaw40.SchedulerOrders", spec := "schedulerOrders", unfollowed := true, recurses := true, apart := false, narrowed := true }
def SchedulerOrdersUptoSaid : Prop := schedulerOrdersUptoRow.holds Try.pinned (OpenSpec.upto schedulerOrdersSpec)

end Rows
end Go.Proofs.Ytlklcfaejmeljaa

/-
  No cell of these rows narrows 'for every input' (looked for: loops, veiled, ifaces, maps, wideKeys, modest, calm, conditions, laid).
  DERIVED. THE GIVEN ROWS OF THIS SEAT. 6 by the template 'for every input the law returns true; each argument reads behind the call as it read before'; 0 by the template 'total and deterministic' (their statements: YtifogngffmhmaaaTotals.lean).
  GIVEN WITH THE SEED: the statements are not yours to turn. If you find one false, say at which input.
  Laid BY PROGRAM, IN A SANDBOX (cutbox-rows.mjs): the forced cells as the released guide's own fill.sh prints them over the translation 3ff14b29b0a5e6ab… (all of the seat's roots in one cut). By AI agents, Wed Nov 11 2026. No macro, syntax, notation, axiom, sorry.
-/
import Derived.Test.YtifogngffmhmaaaChecked
import GoSem.Claim
import GoSem.ClaimJoined
import GoSem.ClaimMapViews
import Derived.JoinedTies
import Derived.KernelRfl
namespace Go.Proofs.Ytifogngffmhmaaa
/- THE CELL 'sum', in the pinned program and in every row, IS THE sha256 OF THE DUMP (.gsa) THAT YtifogngffmhmaaaProg.lean LOADS. Nothing in Lean hashes anything: it is a label: what it is worth is what the hold of that sum in a sandbox is worth. -/
noncomputable def Try.pinned : Pinned := { name := "ytifogngffmhmaaa", sum := "3ff14b29b0a5e6abde3e52eb9c95185d10f5287c3d09b4c461b3487dd79c7652", checked := Try.checked }
namespace Rows
def none {H : Type} : Left H := { results := [], args := [] }

/-- 'tricklelaw08.CapacitorBounds': WHATEVER THE INPUT: true; the input reads as it did. -/
def capacitorBoundsSpec : ChangeSpec := { name := "capacitorBounds", fn := fun _ => fun
  | [d1, d2] => { results := [.lit (.bool true)], args := [d1, d2] }
  | _ => none }
def capacitorBoundsRow : OpenClaim := { program := "ytifogngffmhmaaa", sum := "3ff14b29b0a5e6abde3e52eb9c95185d10f5287c3d09b4c461b3487dd79c7652", func := "trickle/tricklelaw08.CapacitorBounds", spec := "capacitorBounds", apart := false }
def CapacitorBoundsSaid : Prop := capacitorBoundsRow.holds Try.pinned (OpenSpec.ofChange capacitorBoundsSpec)

/-- ITS FALSE NEIGHBOUR: 'it returns false'. Refute it at one input. -/
def capacitorBoundsWrong : ChangeSpec := { name := "capacitorBounds", fn := fun _ => fun
  | [d1, d2] => { results := [.lit (.bool false)], args := [d1, d2] }
  | _ => none }
def CapacitorBoundsWrongFalsely : Prop := capacitorBoundsRow.holds Try.pinned (OpenSpec.ofChange capacitorBoundsWrong)

/-- 'tricklelaw08.CapacitorMatchesModel': WHATEVER THE INPUT: true; the input reads as it did. -/
def capacitorMatchesModelSpec : ChangeSpec := { name := "capacitorMatchesModel", fn := fun _ => fun
  | [d1, d2, d3] => { results := [.lit (.bool true)], args := [d1, d2, d3] }
  | _ => none }
def capacitorMatchesModelRow : OpenClaim := { program := "ytifogngffmhmaaa", sum := "3ff14b29b0a5e6abde3e52eb9c95185d10f5287c3d09b4c461b3487dd79c7652", func := "trickle/tricklelaw08.CapacitorMatchesModel", spec := "capacitorMatchesModel", apart := false }
def CapacitorMatchesModelSaid : Prop := capacitorMatchesModelRow.holds Try.pinned (OpenSpec.ofChange capacitorMatchesModelSpec)

/-- ITS FALSE NEIGHBOUR: 'it returns false'. Refute it at one input. -/
def capacitorMatchesModelWrong : ChangeSpec := { name := "capacitorMatchesModel", fn := fun _ => fun
  | [d1, d2, d3] => { results := [.lit (.bool false)], args := [d1, d2, d3] }
  | _ => none }
def CapacitorMatchesModelWrongFalsely : Prop := capacitorMatchesModelRow.holds Try.pinned (OpenSpec.ofChange capacitorMatchesModelWrong)

/-- 'tricklelaw08.CapacitorWaitTime': WHATEVER THE INPUT: true; the input reads as it did. -/
def capacitorWaitTimeSpec : ChangeSpec := { name := "capacitorWaitTime", fn := fun _ => fun
  | [d1, d2, d3] => { results := [.lit (.bool true)], args := [d1, d2, d3] }
  | _ => none }
def capacitorWaitTimeRow : OpenClaim := { program := "ytifogngffmhmaaa", sum := "3ff14b29b0a5e6abde3e52eb9c95185d10f5287c3d09b4c461b3487dd79c7652", func := "trickle/tricklelaw08.CapacitorWaitTime", spec := "capacitorWaitTime", apart := false }
def CapacitorWaitTimeSaid : Prop := capacitorWaitTimeRow.holds Try.pinned (OpenSpec.ofChange capacitorWaitTimeSpec)

/-- ITS FALSE NEIGHBOUR: 'it returns false'. Refute it at one input. -/
def capacitorWaitTimeWrong : ChangeSpec := { name := "capacitorWaitTime", fn := fun _ => fun
  | [d1, d2, d3] => { results := [.lit (.bool false)], args := [d1, d2, d3] }
  | _ => none }
def CapacitorWaitTimeWrongFalsely : Prop := capacitorWaitTimeRow.holds Try.pinned (OpenSpec.ofChange capacitorWaitTimeWrong)

/-- 'tricklelaw08.CapacitorGuaranteed': WHATEVER THE INPUT: true; the input reads as it did. -/
def capacitorGuaranteedSpec : ChangeSpec := { name := "capacitorGuaranteed", fn := fun _ => fun
  | [d1, d2, d3] => { results := [.lit (.bool true)], args := [d1, d2, d3] }
  | _ => none }
def capacitorGuaranteedRow : OpenClaim := { program := "ytifogngffmhmaaa", sum := "3ff14b29b0a5e6abde3e52eb9c95185d10f5287c3d09b4c461b3487dd79c7652", func := "trickle/tricklelaw08.CapacitorGuaranteed", spec := "capacitorGuaranteed", apart := false }
def CapacitorGuaranteedSaid : Prop := capacitorGuaranteedRow.holds Try.pinned (OpenSpec.ofChange capacitorGuaranteedSpec)

/-- ITS FALSE NEIGHBOUR: 'it returns false'. Refute it at one input. -/
def capacitorGuaranteedWrong : ChangeSpec := { name := "capacitorGuaranteed", fn := fun _ => fun
  | [d1, d2, d3] => { results := [.lit (.bool false)], args := [d1, d2, d3] }
  | _ => none }
def CapacitorGuaranteedWrongFalsely : Prop := capacitorGuaranteedRow.holds Try.pinned (OpenSpec.ofChange capacitorGuaranteedWrong)

/-- 'tricklelaw08.CapacitorSchedules': WHATEVER THE INPUT: true; the input reads as it did. -/
def capacitorSchedulesSpec : ChangeSpec := { name := "capacitorSchedules", fn := fun _ => fun
  | [d1, d2, d3] => { results := [.lit (.bool true)], args := [d1, d2, d3] }
  | _ => none }
def capacitorSchedulesRow : OpenClaim := { program := "ytifogngffmhmaaa", sum := "3ff14b29b0a5e6abde3e52eb9c95185d10f5287c3d09b4c461b3487dd79c7652", func := "trickle/tricklelaw08.CapacitorSchedules", spec := "capacitorSchedules", unfollowed := true, recurses := true, apart := false }
def CapacitorSchedulesSaid : Prop := capacitorSchedulesRow.holds Try.pinned (OpenSpec.ofChange capacitorSchedulesSpec)

/-- ITS FALSE NEIGHBOUR: 'it returns false'. Refute it at one input. -/
def capacitorSchedulesWrong : ChangeSpec := { name := "capacitorSchedules", fn := fun _ => fun
  | [d1, d2, d3] => { results := [.lit (.bool false)], args := [d1, d2, d3] }
  | _ => none }
def CapacitorSchedulesWrongFalsely : Prop := capacitorSchedulesRow.holds Try.pinned (OpenSpec.ofChange capacitorSchedulesWrong)

/-- 'tricklelaw08.CapacitorEnergyBalance': WHATEVER THE INPUT: true; the input reads as it did. -/
def capacitorEnergyBalanceSpec : ChangeSpec := { name := "capacitorEnergyBalance", fn := fun _ => fun
  | [d1, d2, d3] => { results := [.lit (.bool true)], args := [d1, d2, d3] }
  | _ => none }
def capacitorEnergyBalanceRow : OpenClaim := { program := "ytifogngffmhmaaa", sum := "3ff14b29b0a5e6abde3e52eb9c95185d10f5287c3d09b4c461b3487dd79c7652", func := "trickle/tricklelaw08.CapacitorEnergyBalance", spec := "capacitorEnergyBalance", unfollowed := true, recurses := true, apart := false }
def CapacitorEnergyBalanceSaid : Prop := capacitorEnergyBalanceRow.holds Try.pinned (OpenSpec.ofChange capacitorEnergyBalanceSpec)

/-- ITS FALSE NEIGHBOUR: 'it returns false'. Refute it at one input. -/
def capacitorEnergyBalanceWrong : ChangeSpec := { name := "capacitorEnergyBalance", fn := fun _ => fun
  | [d1, d2, d3] => { results := [.lit (.bool false)], args := [d1, d2, d3] }
  | _ => none }
def CapacitorEnergyBalanceWrongFalsely : Prop := capacitorEnergyBalanceRow.holds Try.pinned (OpenSpec.ofChange capacitorEnergyBalanceWrong)

/- THE SECOND FORM. 'bulk': how many values and letters a reading holds, each counted each time it is reached (what is shared counts as often as it is met; a slice's spare places count too). A statement '..UptoSaid' is the law's where the arguments, and the package variables that the reading takes, are together of bulk at most 1048576: NARROWER than '..Said'. Prove '..Said' where nothing that the law and all that it calls make is longer than what came in: it says more and counts as full. Else prove '..UptoSaid'. A law counts once. -/
mutual
def uptoBulk {H : Type} : DataW H → Nat
  | .lit (.string bytes) => bytes.length + 1
  | .lit _ => 1
  | .nil => 1
  | .ptr d => uptoBulk d + 1
  | .slice elems spare => uptoBulkAll elems + uptoBulkAll spare + 1
  | .agg parts => uptoBulkAll parts + 1
  | .iface _ d => uptoBulk d + 1
  | .map entries => uptoBulkEntries entries + 1
  | .held _ => 1
def uptoBulkAll {H : Type} : List (DataW H) → Nat
  | [] => 0
  | d :: r => uptoBulk d + uptoBulkAll r
def uptoBulkEntries {H : Type} : List (Lit × DataW H) → Nat
  | [] => 0
  | x :: r => uptoBulkEntry x + uptoBulkEntries r
def uptoBulkEntry {H : Type} : Lit × DataW H → Nat
  | (.string bytes, d) => bytes.length + uptoBulk d + 1
  | (_, d) => uptoBulk d + 1
 end
def uptoSmall : (H : Type) → List (DataW H) → Bool := fun _ ds => decide (uptoBulkAll ds ≤ 1048576)
def OpenSpec.upto (s : _root_.Go.ChangeSpec) : _root_.Go.OpenSpec := { _root_.Go.OpenSpec.ofChange s with cond := some uptoSmall }

/-- 'tricklelaw08.CapacitorBounds', WHERE WHAT IT READS IS OF BULK AT MOST 1048576: true; the input reads as it did. -/
def capacitorBoundsUptoRow : OpenClaim := { program := "ytifogngffmhmaaa", sum := "3ff14b29b0a5e6abde3e52eb9c95185d10f5287c3d09b4c461b3487dd79c7652", func := "trickle/tricklelaw08.CapacitorBounds", spec := "capacitorBounds", apart := false, narrowed := true }
def CapacitorBoundsUptoSaid : Prop := capacitorBoundsUptoRow.holds Try.pinned (OpenSpec.upto capacitorBoundsSpec)

/-- 'tricklelaw08.CapacitorMatchesModel', WHERE WHAT IT READS IS OF BULK AT MOST 1048576: true; the input reads as it did. -/
def capacitorMatchesModelUptoRow : OpenClaim := { program := "ytifogngffmhmaaa", sum := "3ff14b29b0a5e6abde3e52eb9c95185d10f5287c3d09b4c461b3487dd79c7652", func := "trickle/tricklelaw08.CapacitorMatchesModel", spec := "capacitorMatchesModel", apart := false, narrowed := true }
def CapacitorMatchesModelUptoSaid : Prop := capacitorMatchesModelUptoRow.holds Try.pinned (OpenSpec.upto capacitorMatchesModelSpec)

/-- 'tricklelaw08.CapacitorWaitTime', WHERE WHAT IT READS IS OF BULK AT MOST 1048576: true; the input reads as it did. -/
def capacitorWaitTimeUptoRow : OpenClaim := { program := "ytifogngffmhmaaa", sum := "3ff14b29b0a5e6abde3e52eb9c95185d10f5287c3d09b4c461b3487dd79c7652", func := "trickle/tricklelaw08.CapacitorWaitTime", spec := "capacitorWaitTime", apart := false, narrowed := true }
def CapacitorWaitTimeUptoSaid : Prop := capacitorWaitTimeUptoRow.holds Try.pinned (OpenSpec.upto capacitorWaitTimeSpec)

/-- 'tricklelaw08.CapacitorGuaranteed', WHERE WHAT IT READS IS OF BULK AT MOST 1048576: true; the input reads as it did. -/
def capacitorGuaranteedUptoRow : OpenClaim := { program := "ytifogngffmhmaaa", sum := "3ff14b29b0a5e6abde3e52eb9c95185d10f5287c3d09b4c461b3487dd79c7652", func := "trickle/tricklelaw08.CapacitorGuaranteed", spec := "capacitorGuaranteed", apart := false, narrowed := true }
def CapacitorGuaranteedUptoSaid : Prop := capacitorGuaranteedUptoRow.holds Try.pinned (OpenSpec.upto capacitorGuaranteedSpec)

/-- 'tricklelaw08.CapacitorSchedules', WHERE WHAT IT READS IS OF BULK AT MOST 1048576: true; the input reads as it did. -/
def capacitorSchedulesUptoRow : OpenClaim := { program := "ytifogngffmhmaaa", sum := "3ff14b29b0a5e6abde3e52eb9c95185d10f5287c3d09b4c461b3487dd79c7652", func := "trickle/tricklelaw08.CapacitorSchedules", spec := "capacitorSchedules", unfollowed := true, recurses := true, apart := false, narrowed := true }
def CapacitorSchedulesUptoSaid : Prop := capacitorSchedulesUptoRow.holds Try.pinned (OpenSpec.upto capacitorSchedulesSpec)

/-- 'tricklelaw08.CapacitorEnergyBalance', WHERE WHAT IT READS IS OF BULK AT MOST 1048576: true; the input reads as it did. -/
def capacitorEnergyBalanceUptoRow : OpenClaim := { program := "ytifogngffmhmaaa", sum := "3ff14b29b0a5e6abde3e52eb9c95185d10f5287c3d09b4c461b3487dd79c7652", func := "trickle/tricklelaw08.CapacitorEnergyBalance", spec := "capacitorEnergyBalance", unfollowed := true, recurses := true, apart := false, narrowed := true }
def CapacitorEnergyBalanceUptoSaid : Prop := capacitorEnergyBalanceUptoRow.holds Try.pinned (OpenSpec.upto capacitorEnergyBalanceSpec)

end Rows
end Go.Proofs.Ytifogngffmhmaaa

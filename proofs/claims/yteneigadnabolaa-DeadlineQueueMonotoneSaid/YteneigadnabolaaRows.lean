/-
  No cell of these rows narrows 'for every input' (looked for: loops, veiled, ifaces, maps, wideKeys, modest, calm, conditions, laid).
  DERIVED. THE GIVEN ROWS OF THIS SEAT. 7 by the template 'for every input the law returns true; each argument reads behind the call as it read before'; 0 by the template 'total and deterministic' (their statements: YteneigadnabolaaTotals.lean).
  GIVEN WITH THE SEED: the statements are not yours to turn. If you find one false, say at which input.
  Laid BY PROGRAM, IN A SANDBOX (cutbox-rows.mjs): the forced cells as the released guide's own fill.sh prints them over the translation 1de011b9abfe497f… (all of the seat's roots in one cut). By AI agents, Wed Nov 11 2026. No macro, syntax, notation, axiom, sorry.
-/
import Derived.Test.YteneigadnabolaaChecked
import GoSem.Claim
import GoSem.ClaimJoined
import GoSem.ClaimMapViews
import Derived.JoinedTies
import Derived.KernelRfl
namespace Go.Proofs.Yteneigadnabolaa
/- THE CELL 'sum', in the pinned program and in every row, IS THE sha256 OF THE DUMP (.gsa) THAT YteneigadnabolaaProg.lean LOADS. Nothing in Lean hashes anything: it is a label: what it is worth is what the hold of that sum in a sandbox is worth. -/
noncomputable def Try.pinned : Pinned := { name := "yteneigadnabolaa", sum := "1de011b9abfe497fb1416af01487abfeb738cb6740af1535547ccbd6015a3676", checked := Try.checked }
namespace Rows
def none {H : Type} : Left H := { results := [], args := [] }

/-- 'tricklelaw06.DeadlineQueueSorts': WHATEVER THE INPUT: true; the input reads as it did. -/
def deadlineQueueSortsSpec : ChangeSpec := { name := "deadlineQueueSorts", fn := fun _ => fun
  | [d] => { results := [.lit (.bool true)], args := [d] }
  | _ => none }
def deadlineQueueSortsRow : OpenClaim := { program := "yteneigadnabolaa", sum := "1de011b9abfe497fb1416af01487abfeb738cb6740af1535547ccbd6015a3676", func := "trickle/tricklelaw06.DeadlineQueueSorts", spec := "deadlineQueueSorts", inPlace := ["slices.overlaps[trickle/deadlinequeue.Item]"], unfollowed := true, recurses := true, apart := false }
def DeadlineQueueSortsSaid : Prop := deadlineQueueSortsRow.holds Try.pinned (OpenSpec.ofChange deadlineQueueSortsSpec)

/-- ITS FALSE NEIGHBOUR: 'it returns false'. Refute it at one input. -/
def deadlineQueueSortsWrong : ChangeSpec := { name := "deadlineQueueSorts", fn := fun _ => fun
  | [d] => { results := [.lit (.bool false)], args := [d] }
  | _ => none }
def DeadlineQueueSortsWrongFalsely : Prop := deadlineQueueSortsRow.holds Try.pinned (OpenSpec.ofChange deadlineQueueSortsWrong)

/-- 'tricklelaw06.DeadlineQueueFeasible': WHATEVER THE INPUT: true; the input reads as it did. -/
def deadlineQueueFeasibleSpec : ChangeSpec := { name := "deadlineQueueFeasible", fn := fun _ => fun
  | [d1, d2] => { results := [.lit (.bool true)], args := [d1, d2] }
  | _ => none }
def deadlineQueueFeasibleRow : OpenClaim := { program := "yteneigadnabolaa", sum := "1de011b9abfe497fb1416af01487abfeb738cb6740af1535547ccbd6015a3676", func := "trickle/tricklelaw06.DeadlineQueueFeasible", spec := "deadlineQueueFeasible", inPlace := ["slices.overlaps[trickle/deadlinequeue.Item]"], unfollowed := true, recurses := true, apart := false }
def DeadlineQueueFeasibleSaid : Prop := deadlineQueueFeasibleRow.holds Try.pinned (OpenSpec.ofChange deadlineQueueFeasibleSpec)

/-- ITS FALSE NEIGHBOUR: 'it returns false'. Refute it at one input. -/
def deadlineQueueFeasibleWrong : ChangeSpec := { name := "deadlineQueueFeasible", fn := fun _ => fun
  | [d1, d2] => { results := [.lit (.bool false)], args := [d1, d2] }
  | _ => none }
def DeadlineQueueFeasibleWrongFalsely : Prop := deadlineQueueFeasibleRow.holds Try.pinned (OpenSpec.ofChange deadlineQueueFeasibleWrong)

/-- 'tricklelaw06.DeadlineQueueOptimal': WHATEVER THE INPUT: true; the input reads as it did. -/
def deadlineQueueOptimalSpec : ChangeSpec := { name := "deadlineQueueOptimal", fn := fun _ => fun
  | [d1, d2] => { results := [.lit (.bool true)], args := [d1, d2] }
  | _ => none }
def deadlineQueueOptimalRow : OpenClaim := { program := "yteneigadnabolaa", sum := "1de011b9abfe497fb1416af01487abfeb738cb6740af1535547ccbd6015a3676", func := "trickle/tricklelaw06.DeadlineQueueOptimal", spec := "deadlineQueueOptimal", inPlace := ["slices.overlaps[trickle/deadlinequeue.Item]"], unfollowed := true, recurses := true, apart := false }
def DeadlineQueueOptimalSaid : Prop := deadlineQueueOptimalRow.holds Try.pinned (OpenSpec.ofChange deadlineQueueOptimalSpec)

/-- ITS FALSE NEIGHBOUR: 'it returns false'. Refute it at one input. -/
def deadlineQueueOptimalWrong : ChangeSpec := { name := "deadlineQueueOptimal", fn := fun _ => fun
  | [d1, d2] => { results := [.lit (.bool false)], args := [d1, d2] }
  | _ => none }
def DeadlineQueueOptimalWrongFalsely : Prop := deadlineQueueOptimalRow.holds Try.pinned (OpenSpec.ofChange deadlineQueueOptimalWrong)

/-- 'tricklelaw06.DeadlineQueueMonotone': WHATEVER THE INPUT: true; the input reads as it did. -/
def deadlineQueueMonotoneSpec : ChangeSpec := { name := "deadlineQueueMonotone", fn := fun _ => fun
  | [d1, d2, d3] => { results := [.lit (.bool true)], args := [d1, d2, d3] }
  | _ => none }
def deadlineQueueMonotoneRow : OpenClaim := { program := "yteneigadnabolaa", sum := "1de011b9abfe497fb1416af01487abfeb738cb6740af1535547ccbd6015a3676", func := "trickle/tricklelaw06.DeadlineQueueMonotone", spec := "deadlineQueueMonotone", inPlace := ["slices.overlaps[trickle/deadlinequeue.Item]"], unfollowed := true, recurses := true, apart := false }
def DeadlineQueueMonotoneSaid : Prop := deadlineQueueMonotoneRow.holds Try.pinned (OpenSpec.ofChange deadlineQueueMonotoneSpec)

/-- ITS FALSE NEIGHBOUR: 'it returns false'. Refute it at one input. -/
def deadlineQueueMonotoneWrong : ChangeSpec := { name := "deadlineQueueMonotone", fn := fun _ => fun
  | [d1, d2, d3] => { results := [.lit (.bool false)], args := [d1, d2, d3] }
  | _ => none }
def DeadlineQueueMonotoneWrongFalsely : Prop := deadlineQueueMonotoneRow.holds Try.pinned (OpenSpec.ofChange deadlineQueueMonotoneWrong)

/-- 'tricklelaw06.DeadlineQueueMatches': WHATEVER THE INPUT: true; the input reads as it did. -/
def deadlineQueueMatchesSpec : ChangeSpec := { name := "deadlineQueueMatches", fn := fun _ => fun
  | [d] => { results := [.lit (.bool true)], args := [d] }
  | _ => none }
def deadlineQueueMatchesRow : OpenClaim := { program := "yteneigadnabolaa", sum := "1de011b9abfe497fb1416af01487abfeb738cb6740af1535547ccbd6015a3676", func := "trickle/tricklelaw06.DeadlineQueueMatches", spec := "deadlineQueueMatches", inPlace := ["slices.overlaps[trickle/deadlinequeue.Item]"], unfollowed := true, recurses := true, apart := false }
def DeadlineQueueMatchesSaid : Prop := deadlineQueueMatchesRow.holds Try.pinned (OpenSpec.ofChange deadlineQueueMatchesSpec)

/-- ITS FALSE NEIGHBOUR: 'it returns false'. Refute it at one input. -/
def deadlineQueueMatchesWrong : ChangeSpec := { name := "deadlineQueueMatches", fn := fun _ => fun
  | [d] => { results := [.lit (.bool false)], args := [d] }
  | _ => none }
def DeadlineQueueMatchesWrongFalsely : Prop := deadlineQueueMatchesRow.holds Try.pinned (OpenSpec.ofChange deadlineQueueMatchesWrong)

/-- 'tricklelaw06.DeadlineQueueReplaces': WHATEVER THE INPUT: true; the input reads as it did. -/
def deadlineQueueReplacesSpec : ChangeSpec := { name := "deadlineQueueReplaces", fn := fun _ => fun
  | [d1, d2, d3] => { results := [.lit (.bool true)], args := [d1, d2, d3] }
  | _ => none }
def deadlineQueueReplacesRow : OpenClaim := { program := "yteneigadnabolaa", sum := "1de011b9abfe497fb1416af01487abfeb738cb6740af1535547ccbd6015a3676", func := "trickle/tricklelaw06.DeadlineQueueReplaces", spec := "deadlineQueueReplaces", inPlace := ["slices.overlaps[trickle/deadlinequeue.Item]"], unfollowed := true, recurses := true, apart := false }
def DeadlineQueueReplacesSaid : Prop := deadlineQueueReplacesRow.holds Try.pinned (OpenSpec.ofChange deadlineQueueReplacesSpec)

/-- ITS FALSE NEIGHBOUR: 'it returns false'. Refute it at one input. -/
def deadlineQueueReplacesWrong : ChangeSpec := { name := "deadlineQueueReplaces", fn := fun _ => fun
  | [d1, d2, d3] => { results := [.lit (.bool false)], args := [d1, d2, d3] }
  | _ => none }
def DeadlineQueueReplacesWrongFalsely : Prop := deadlineQueueReplacesRow.holds Try.pinned (OpenSpec.ofChange deadlineQueueReplacesWrong)

/-- 'tricklelaw06.DeadlineQueueCopies': WHATEVER THE INPUT: true; the input reads as it did. -/
def deadlineQueueCopiesSpec : ChangeSpec := { name := "deadlineQueueCopies", fn := fun _ => fun
  | [d] => { results := [.lit (.bool true)], args := [d] }
  | _ => none }
def deadlineQueueCopiesRow : OpenClaim := { program := "yteneigadnabolaa", sum := "1de011b9abfe497fb1416af01487abfeb738cb6740af1535547ccbd6015a3676", func := "trickle/tricklelaw06.DeadlineQueueCopies", spec := "deadlineQueueCopies", inPlace := ["slices.overlaps[trickle/deadlinequeue.Item]"], unfollowed := true, recurses := true, apart := false }
def DeadlineQueueCopiesSaid : Prop := deadlineQueueCopiesRow.holds Try.pinned (OpenSpec.ofChange deadlineQueueCopiesSpec)

/-- ITS FALSE NEIGHBOUR: 'it returns false'. Refute it at one input. -/
def deadlineQueueCopiesWrong : ChangeSpec := { name := "deadlineQueueCopies", fn := fun _ => fun
  | [d] => { results := [.lit (.bool false)], args := [d] }
  | _ => none }
def DeadlineQueueCopiesWrongFalsely : Prop := deadlineQueueCopiesRow.holds Try.pinned (OpenSpec.ofChange deadlineQueueCopiesWrong)

/- THE SECOND FORM. 'bulk': how many values and letters a reading holds, each counted each time it is reached (what is shared counts as often as it is met; a slice's spare places count too). A statement '..UptoSaid' is the law's where the arguments, and the package variables that the reading takes, are together of bulk at most 1048576: NARROWER than '..Said'. Prove '..Said' where nothing that the law and all that it calls make is longer than what came in: it says more and counts as full. Else prove '..UptoSaid'. A law counts once. -/
mutual
def uptoBulk {H : Type} : DataW H → Nat
  | .lit (.string bytes) => bytes.length + 1
  | .lit _ => 1
  | .nil => 1
  | .ptr d => uptoBulk d + 1
  | .slice elems spare => uptoBulkAll elems + uptoBulkAll spare + 1
  | .agg parts => uptoBulkAll parts + 1
  | .iface _ d => uptoBulk d + 1
  | .map entries => uptoBulkEntries entries + 1
  | .held _ => 1
def uptoBulkAll {H : Type} : List (DataW H) → Nat
  | [] => 0
  | d :: r => uptoBulk d + uptoBulkAll r
def uptoBulkEntries {H : Type} : List (Lit × DataW H) → Nat
  | [] => 0
  | x :: r => uptoBulkEntry x + uptoBulkEntries r
def uptoBulkEntry {H : Type} : Lit × DataW H → Nat
  | (.string bytes, d) => bytes.length + uptoBulk d + 1
  | (_, d) => uptoBulk d + 1
 end
def uptoSmall : (H : Type) → List (DataW H) → Bool := fun _ ds => decide (uptoBulkAll ds ≤ 1048576)
def OpenSpec.upto (s : _root_.Go.ChangeSpec) : _root_.Go.OpenSpec := { _root_.Go.OpenSpec.ofChange s with cond := some uptoSmall }

/-- 'tricklelaw06.DeadlineQueueSorts', WHERE WHAT IT READS IS OF BULK AT MOST 1048576: true; the input reads as it did. -/
def deadlineQueueSortsUptoRow : OpenClaim := { program := "yteneigadnabolaa", sum := "1de011b9abfe497fb1416af01487abfeb738cb6740af1535547ccbd6015a3676", func := "trickle/tricklelaw06.DeadlineQueueSorts", spec := "deadlineQueueSorts", inPlace := ["slices.overlaps[trickle/deadlinequeue.Item]"], unfollowed := true, recurses := true, apart := false, narrowed := true }
def DeadlineQueueSortsUptoSaid : Prop := deadlineQueueSortsUptoRow.holds Try.pinned (OpenSpec.upto deadlineQueueSortsSpec)

/-- 'tricklelaw06.DeadlineQueueFeasible', WHERE WHAT IT READS IS OF BULK AT MOST 1048576: true; the input reads as it did. -/
def deadlineQueueFeasibleUptoRow : OpenClaim := { program := "yteneigadnabolaa", sum := "1de011b9abfe497fb1416af01487abfeb738cb6740af1535547ccbd6015a3676", func := "trickle/tricklelaw06.DeadlineQueueFeasible", spec := "deadlineQueueFeasible", inPlace := ["slices.overlaps[trickle/deadlinequeue.Item]"], unfollowed := true, recurses := true, apart := false, narrowed := true }
def DeadlineQueueFeasibleUptoSaid : Prop := deadlineQueueFeasibleUptoRow.holds Try.pinned (OpenSpec.upto deadlineQueueFeasibleSpec)

/-- 'tricklelaw06.DeadlineQueueOptimal', WHERE WHAT IT READS IS OF BULK AT MOST 1048576: true; the input reads as it did. -/
def deadlineQueueOptimalUptoRow : OpenClaim := { program := "yteneigadnabolaa", sum := "1de011b9abfe497fb1416af01487abfeb738cb6740af1535547ccbd6015a3676", func := "trickle/tricklelaw06.DeadlineQueueOptimal", spec := "deadlineQueueOptimal", inPlace := ["slices.overlaps[trickle/deadlinequeue.Item]"], unfollowed := true, recurses := true, apart := false, narrowed := true }
def DeadlineQueueOptimalUptoSaid : Prop := deadlineQueueOptimalUptoRow.holds Try.pinned (OpenSpec.upto deadlineQueueOptimalSpec)

/-- 'tricklelaw06.DeadlineQueueMonotone', WHERE WHAT IT READS IS OF BULK AT MOST 1048576: true; the input reads as it did. -/
def deadlineQueueMonotoneUptoRow : OpenClaim := { program := "yteneigadnabolaa", sum := "1de011b9abfe497fb1416af01487abfeb738cb6740af1535547ccbd6015a3676", func := "trickle/tricklelaw06.DeadlineQueueMonotone", spec := "deadlineQueueMonotone", inPlace := ["slices.overlaps[trickle/deadlinequeue.Item]"], unfollowed := true, recurses := true, apart := false, narrowed := true }
def DeadlineQueueMonotoneUptoSaid : Prop := deadlineQueueMonotoneUptoRow.holds Try.pinned (OpenSpec.upto deadlineQueueMonotoneSpec)

/-- 'tricklelaw06.DeadlineQueueMatches', WHERE WHAT IT READS IS OF BULK AT MOST 1048576: true; the input reads as it did. -/
def deadlineQueueMatchesUptoRow : OpenClaim := { program := "yteneigadnabolaa", sum := "1de011b9abfe497fb1416af01487abfeb738cb6740af1535547ccbd6015a3676", func := "trickle/tricklelaw06.DeadlineQueueMatches", spec := "deadlineQueueMatches", inPlace := ["slices.overlaps[trickle/deadlinequeue.Item]"], unfollowed := true, recurses := true, apart := false, narrowed := true }
def DeadlineQueueMatchesUptoSaid : Prop := deadlineQueueMatchesUptoRow.holds Try.pinned (OpenSpec.upto deadlineQueueMatchesSpec)

/-- 'tricklelaw06.DeadlineQueueReplaces', WHERE WHAT IT READS IS OF BULK AT MOST 1048576: true; the input reads as it did. -/
def deadlineQueueReplacesUptoRow : OpenClaim := { program := "yteneigadnabolaa", sum := "1de011b9abfe497fb1416af01487abfeb738cb6740af1535547ccbd6015a3676", func := "trickle/tricklelaw06.DeadlineQueueReplaces", spec := "deadlineQueueReplaces", inPlace := ["slices.overlaps[trickle/deadlinequeue.Item]"], unfollowed := true, recurses := true, apart := false, narrowed := true }
def DeadlineQueueReplacesUptoSaid : Prop := deadlineQueueReplacesUptoRow.holds Try.pinned (OpenSpec.upto deadlineQueueReplacesSpec)

/-- 'tricklelaw06.DeadlineQueueCopies', WHERE WHAT IT READS IS OF BULK AT MOST 1048576: true; the input reads as it did. -/
def deadlineQueueCopiesUptoRow : OpenClaim := { program := "yteneigadnabolaa", sum := "1de011b9abfe497fb1416af01487abfeb738cb6740af1535547ccbd6015a3676", func := "trickle/tricklelaw06.DeadlineQueueCopies", spec := "deadlineQueueCopies", inPlace := ["slices.overlaps[trickle/deadlinequeue.Item]"], unfollowed := true, recurses := true, apart := false, narrowed := true }
def DeadlineQueueCopiesUptoSaid : Prop := deadlineQueueCopiesUptoRow.holds Try.pinned (OpenSpec.upto deadlineQueueCopiesSpec)

end Rows
end Go.Proofs.Yteneigadnabolaa

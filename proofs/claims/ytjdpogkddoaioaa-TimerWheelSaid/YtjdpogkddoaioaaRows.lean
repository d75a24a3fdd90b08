/-
  No cell of these rows narrows 'for every input' (looked for: loops, veiled, ifaces, maps, wideKeys, modest, calm, conditions, laid).
  DERIVED. THE GIVEN ROWS OF THIS SEAT. 7 by the template 'for every input the law returns true; each argument reads behind the call as it read before'; 0 by the template 'total and deterministic' (their statements: YtjdpogkddoaioaaTotals.lean).
  GIVEN WITH THE SEED: the statements are not yours to turn. If you find one false, say at which input.
  Laid BY PROGRAM, IN A SANDBOX (cutbox-rows.mjs): the forced cells as the released guide's own fill.sh prints them over the translation 252783c417b2721a… (all of the seat's roots in one cut). By AI agents, Wed Nov 11 2026. No macro, syntax, notation, axiom, sorry.
-/
import Derived.Test.YtjdpogkddoaioaaChecked
import GoSem.Claim
import GoSem.ClaimJoined
import GoSem.ClaimMapViews
import Derived.JoinedTies
import Derived.KernelRfl
namespace Go.Proofs.Ytjdpogkddoaioaa
/- THE CELL 'sum', in the pinned program and in every row, IS THE sha256 OF THE DUMP (.gsa) THAT YtjdpogkddoaioaaProg.lean LOADS. Nothing in Lean hashes anything: it is a label: what it is worth is what the hold of that sum in a sandbox is worth. -/
noncomputable def Try.pinned : Pinned := { name := "ytjdpogkddoaioaa", sum := "252783c417b2721a9466f7e7b15432cbc9083b5a56ad5676ebb4f5d2f06c733e", checked := Try.checked }
namespace Rows
def none {H : Type} : Left H := { results := [], args := [] }

/-- 'tricklelaw39.TimerAdvance': WHATEVER THE INPUT: true; the input reads as it did. -/
def timerAdvanceSpec : ChangeSpec := { name := "timerAdvance", fn := fun _ => fun
  | [d1, d2, d3] => { results := [.lit (.bool true)], args := [d1, d2, d3] }
  | _ => none }
def timerAdvanceRow : OpenClaim := { program := "ytjdpogkddoaioaa", sum := "252783c417b2721a9466f7e7b15432cbc9083b5a56ad5676ebb4f5d2f06c733e", func := "trickle/tricklelaw39.TimerAdvance", spec := "timerAdvance", apart := false }
def TimerAdvanceSaid : Prop := timerAdvanceRow.holds Try.pinned (OpenSpec.ofChange timerAdvanceSpec)

/-- ITS FALSE NEIGHBOUR: 'it returns false'. Refute it at one input. -/
def timerAdvanceWrong : ChangeSpec := { name := "timerAdvance", fn := fun _ => fun
  | [d1, d2, d3] => { results := [.lit (.bool false)], args := [d1, d2, d3] }
  | _ => none }
def TimerAdvanceWrongFalsely : Prop := timerAdvanceRow.holds Try.pinned (OpenSpec.ofChange timerAdvanceWrong)

/-- 'tricklelaw39.TimerNext': WHATEVER THE INPUT: true; the input reads as it did. -/
def timerNextSpec : ChangeSpec := { name := "timerNext", fn := fun _ => fun
  | [d1, d2, d3] => { results := [.lit (.bool true)], args := [d1, d2, d3] }
  | _ => none }
def timerNextRow : OpenClaim := { program := "ytjdpogkddoaioaa", sum := "252783c417b2721a9466f7e7b15432cbc9083b5a56ad5676ebb4f5d2f06c733e", func := "trickle/tricklelaw39.TimerNext", spec := "timerNext", apart := false }
def TimerNextSaid : Prop := timerNextRow.holds Try.pinned (OpenSpec.ofChange timerNextSpec)

/-- ITS FALSE NEIGHBOUR: 'it returns false'. Refute it at one input. -/
def timerNextWrong : ChangeSpec := { name := "timerNext", fn := fun _ => fun
  | [d1, d2, d3] => { results := [.lit (.bool false)], args := [d1, d2, d3] }
  | _ => none }
def TimerNextWrongFalsely : Prop := timerNextRow.holds Try.pinned (OpenSpec.ofChange timerNextWrong)

/-- 'tricklelaw39.TimerFirst': WHATEVER THE INPUT: true; the input reads as it did. -/
def timerFirstSpec : ChangeSpec := { name := "timerFirst", fn := fun _ => fun
  | [d1, d2, d3] => { results := [.lit (.bool true)], args := [d1, d2, d3] }
  | _ => none }
def timerFirstRow : OpenClaim := { program := "ytjdpogkddoaioaa", sum := "252783c417b2721a9466f7e7b15432cbc9083b5a56ad5676ebb4f5d2f06c733e", func := "trickle/tricklelaw39.TimerFirst", spec := "timerFirst", apart := false }
def TimerFirstSaid : Prop := timerFirstRow.holds Try.pinned (OpenSpec.ofChange timerFirstSpec)

/-- ITS FALSE NEIGHBOUR: 'it returns false'. Refute it at one input. -/
def timerFirstWrong : ChangeSpec := { name := "timerFirst", fn := fun _ => fun
  | [d1, d2, d3] => { results := [.lit (.bool false)], args := [d1, d2, d3] }
  | _ => none }
def TimerFirstWrongFalsely : Prop := timerFirstRow.holds Try.pinned (OpenSpec.ofChange timerFirstWrong)

/-- 'tricklelaw39.TimerSleep': WHATEVER THE INPUT: true; the input reads as it did. -/
def timerSleepSpec : ChangeSpec := { name := "timerSleep", fn := fun _ => fun
  | [d1, d2] => { results := [.lit (.bool true)], args := [d1, d2] }
  | _ => none }
def timerSleepRow : OpenClaim := { program := "ytjdpogkddoaioaa", sum := "252783c417b2721a9466f7e7b15432cbc9083b5a56ad5676ebb4f5d2f06c733e", func := "trickle/tricklelaw39.TimerSleep", spec := "timerSleep", apart := false }
def TimerSleepSaid : Prop := timerSleepRow.holds Try.pinned (OpenSpec.ofChange timerSleepSpec)

/-- ITS FALSE NEIGHBOUR: 'it returns false'. Refute it at one input. -/
def timerSleepWrong : ChangeSpec := { name := "timerSleep", fn := fun _ => fun
  | [d1, d2] => { results := [.lit (.bool false)], args := [d1, d2] }
  | _ => none }
def TimerSleepWrongFalsely : Prop := timerSleepRow.holds Try.pinned (OpenSpec.ofChange timerSleepWrong)

/-- 'tricklelaw39.TimerNoAliasing': WHATEVER THE INPUT: true; the input reads as it did. -/
def timerNoAliasingSpec : ChangeSpec := { name := "timerNoAliasing", fn := fun _ => fun
  | [d1, d2] => { results := [.lit (.bool true)], args := [d1, d2] }
  | _ => none }
def timerNoAliasingRow : OpenClaim := { program := "ytjdpogkddoaioaa", sum := "252783c417b2721a9466f7e7b15432cbc9083b5a56ad5676ebb4f5d2f06c733e", func := "trickle/tricklelaw39.TimerNoAliasing", spec := "timerNoAliasing", apart := false }
def TimerNoAliasingSaid : Prop := timerNoAliasingRow.holds Try.pinned (OpenSpec.ofChange timerNoAliasingSpec)

/-- ITS FALSE NEIGHBOUR: 'it returns false'. Refute it at one input. -/
def timerNoAliasingWrong : ChangeSpec := { name := "timerNoAliasing", fn := fun _ => fun
  | [d1, d2] => { results := [.lit (.bool false)], args := [d1, d2] }
  | _ => none }
def TimerNoAliasingWrongFalsely : Prop := timerNoAliasingRow.holds Try.pinned (OpenSpec.ofChange timerNoAliasingWrong)

/-- 'tricklelaw39.TimerFireAll': WHATEVER THE INPUT: true; the input reads as it did. -/
def timerFireAllSpec : ChangeSpec := { name := "timerFireAll", fn := fun _ => fun
  | [d1, d2, d3] => { results := [.lit (.bool true)], args := [d1, d2, d3] }
  | _ => none }
def timerFireAllRow : OpenClaim := { program := "ytjdpogkddoaioaa", sum := "252783c417b2721a9466f7e7b15432cbc9083b5a56ad5676ebb4f5d2f06c733e", func := "trickle/tricklelaw39.TimerFireAll", spec := "timerFireAll", unfollowed := true, recurses := true, apart := false }
def TimerFireAllSaid : Prop := timerFireAllRow.holds Try.pinned (OpenSpec.ofChange timerFireAllSpec)

/-- ITS FALSE NEIGHBOUR: 'it returns false'. Refute it at one input. -/
def timerFireAllWrong : ChangeSpec := { name := "timerFireAll", fn := fun _ => fun
  | [d1, d2, d3] => { results := [.lit (.bool false)], args := [d1, d2, d3] }
  | _ => none }
def TimerFireAllWrongFalsely : Prop := timerFireAllRow.holds Try.pinned (OpenSpec.ofChange timerFireAllWrong)

/-- 'tricklelaw39.TimerWheel': WHATEVER THE INPUT: true; the input reads as it did. -/
def timerWheelSpec : ChangeSpec := { name := "timerWheel", fn := fun _ => fun
  | [d1, d2, d3] => { results := [.lit (.bool true)], args := [d1, d2, d3] }
  | _ => none }
def timerWheelRow : OpenClaim := { program := "ytjdpogkddoaioaa", sum := "252783c417b2721a9466f7e7b15432cbc9083b5a56ad5676ebb4f5d2f06c733e", func := "trickle/tricklelaw39.TimerWheel", spec := "timerWheel", unfollowed := true, recurses := true, apart := false }
def TimerWheelSaid : Prop := timerWheelRow.holds Try.pinned (OpenSpec.ofChange timerWheelSpec)

/-- ITS FALSE NEIGHBOUR: 'it returns false'. Refute it at one input. -/
def timerWheelWrong : ChangeSpec := { name := "timerWheel", fn := fun _ => fun
  | [d1, d2, d3] => { results := [.lit (.bool false)], args := [d1, d2, d3] }
  | _ => none }
def TimerWheelWrongFalsely : Prop := timerWheelRow.holds Try.pinned (OpenSpec.ofChange timerWheelWrong)

/- THE SECOND FORM. 'bulk': how many values and letters a reading holds, each counted each time it is reached (what is shared counts as often as it is met; a slice's spare places count too). A statement '..UptoSaid' is the law's where the arguments, and the package variables that the reading takes, are together of bulk at most 1048576: NARROWER than '..Said'. Prove '..Said' where nothing that the law and all that it calls make is longer than what came in: it says more and counts as full. Else prove '..UptoSaid'. A law counts once. -/
mutual
def uptoBulk {H : Type} : DataW H → Nat
  | .lit (.string bytes) => bytes.length + 1
  | .lit _ => 1
  | .nil => 1
  | .ptr d => uptoBulk d + 1
  | .slice elems spare => uptoBulkAll elems + uptoBulkAll spare + 1
  | .agg parts => uptoBulkAll parts + 1
  | .iface _ d => uptoBulk d + 1
  | .map entries => uptoBulkEntries entries + 1
  | .held _ => 1
def uptoBulkAll {H : Type} : List (DataW H) → Nat
  | [] => 0
  | d :: r => uptoBulk d + uptoBulkAll r
def uptoBulkEntries {H : Type} : List (Lit × DataW H) → Nat
  | [] => 0
  | x :: r => uptoBulkEntry x + uptoBulkEntries r
def uptoBulkEntry {H : Type} : Lit × DataW H → Nat
  | (.string bytes, d) => bytes.length + uptoBulk d + 1
  | (_, d) => uptoBulk d + 1
 end
def uptoSmall : (H : Type) → List (DataW H) → Bool := fun _ ds => decide (uptoBulkAll ds ≤ 1048576)
def OpenSpec.upto (s : _root_.Go.ChangeSpec) : _root_.Go.OpenSpec := { _root_.Go.OpenSpec.ofChange s with cond := some uptoSmall }

/-- 'tricklelaw39.TimerAdvance', WHERE WHAT IT READS IS OF BULK AT MOST 1048576: true; the input reads as it did. -/
def timerAdvanceUptoRow : OpenClaim := { program := "ytjdpogkddoaioaa", sum := "252783c417b2721a9466f7e7b15432cbc9083b5a56ad5676ebb4f5d2f06c733e", func := "trickle/tricklelaw39.TimerAdvance", spec := "timerAdvance", apart := false, narrowed := true }
def TimerAdvanceUptoSaid : Prop := timerAdvanceUptoRow.holds Try.pinned (OpenSpec.upto timerAdvanceSpec)

/-- 'tricklelaw39.TimerNext', WHERE WHAT IT READS IS OF BULK AT MOST 1048576: true; the input reads as it did. -/
def timerNextUptoRow : OpenClaim := { program := "ytjdpogkddoaioaa", sum := "252783c417b2721a9466f7e7b15432cbc9083b5a56ad5676ebb4f5d2f06c733e", func := "trickle/tricklelaw39.TimerNext", spec := "timerNext", apart := false, narrowed := true }
def TimerNextUptoSaid : Prop := timerNextUptoRow.holds Try.pinned (OpenSpec.upto timerNextSpec)

/-- 'tricklelaw39.TimerFirst', WHERE WHAT IT READS IS OF BULK AT MOST 1048576: true; the input reads as it did. -/
def timerFirstUptoRow : OpenClaim := { program := "ytjdpogkddoaioaa", sum := "252783c417b2721a9466f7e7b15432cbc9083b5a56ad5676ebb4f5d2f06c733e", func := "trickle/tricklelaw39.TimerFirst", spec := "timerFirst", apart := false, narrowed := true }
def TimerFirstUptoSaid : Prop := timerFirstUptoRow.holds Try.pinned (OpenSpec.upto timerFirstSpec)

/-- 'tricklelaw39.TimerSleep', WHERE WHAT IT READS IS OF BULK AT MOST 1048576: true; the input reads as it did. -/
def timerSleepUptoRow : OpenClaim := { program := "ytjdpogkddoaioaa", sum := "252783c417b2721a9466f7e7b15432cbc9083b5a56ad5676ebb4f5d2f06c733e", func := "trickle/tricklelaw39.TimerSleep", spec := "timerSleep", apart := false, narrowed := true }
def TimerSleepUptoSaid : Prop := timerSleepUptoRow.holds Try.pinned (OpenSpec.upto timerSleepSpec)

/-- 'tricklelaw39.TimerNoAliasing', WHERE WHAT IT READS IS OF BULK AT MOST 1048576: true; the input reads as it did. -/
def timerNoAliasingUptoRow : OpenClaim := { program := "ytjdpogkddoaioaa", sum := "252783c417b2721a9466f7e7b15432cbc9083b5a56ad5676ebb4f5d2f06c733e", func := "trickle/tricklelaw39.TimerNoAliasing", spec := "timerNoAliasing", apart := false, narrowed := true }
def TimerNoAliasingUptoSaid : Prop := timerNoAliasingUptoRow.holds Try.pinned (OpenSpec.upto timerNoAliasingSpec)

/-- 'tricklelaw39.TimerFireAll', WHERE WHAT IT READS IS OF BULK AT MOST 1048576: true; the input reads as it did. -/
def timerFireAllUptoRow : OpenClaim := { program := "ytjdpogkddoaioaa", sum := "252783c417b2721a9466f7e7b15432cbc9083b5a56ad5676ebb4f5d2f06c733e", func := "trickle/tricklelaw39.TimerFireAll", spec := "timerFireAll", unfollowed := true, recurses := true, apart := false, narrowed := true }
def TimerFireAllUptoSaid : Prop := timerFireAllUptoRow.holds Try.pinned (OpenSpec.upto timerFireAllSpec)

/-- 'tricklelaw39.TimerWheel', WHERE WHAT IT READS IS OF BULK AT MOST 1048576: true; the input reads as it did. -/
def timerWheelUptoRow : OpenClaim := { program := "ytjdpogkddoaioaa", sum := "252783c417b2721a9466f7e7b15432cbc9083b5a56ad5676ebb4f5d2f06c733e", func := "trickle/tricklelaw39.TimerWheel", spec := "timerWheel", unfollowed := true, recurses := true, apart := false, narrowed := true }
def TimerWheelUptoSaid : Prop := timerWheelUptoRow.holds Try.pinned (OpenSpec.upto timerWheelSpec)

end Rows
end Go.Proofs.Ytjdpogkddoaioaa

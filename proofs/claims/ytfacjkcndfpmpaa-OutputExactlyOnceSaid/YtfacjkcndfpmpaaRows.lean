/-
  No cell of these rows narrows 'for every input' (looked for: loops, veiled, ifaces, maps, wideKeys, modest, calm, conditions, laid).
  DERIVED. THE GIVEN ROWS OF THIS SEAT. 7 by the template 'for every input the law returns true; each argument reads behind the call as it read before'; 0 by the template 'total and deterministic' (their statements: YtfacjkcndfpmpaaTotals.lean).
  GIVEN WITH THE SEED: the statements are not yours to turn. If you find one false, say at which input.
  Laid BY PROGRAM, IN A SANDBOX (cutbox-rows.mjs): the forced cells as the released guide's own fill.sh prints them over the translation f035362e467e0272… (all of the seat's roots in one cut). By AI agents, Wed Nov 11 2026. No macro, syntax, notation, axiom, sorry.
-/
import Derived.Test.YtfacjkcndfpmpaaChecked
import GoSem.Claim
import GoSem.ClaimJoined
import GoSem.ClaimMapViews
import Derived.JoinedTies
import Derived.KernelRfl
namespace Go.Proofs.Ytfacjkcndfpmpaa
/- THE CELL 'sum', in the pinned program and in every row, IS THE sha256 OF THE DUMP (.gsa) THAT YtfacjkcndfpmpaaProg.lean LOADS. Nothing in Lean hashes anything: it is a label: what it is worth is what the hold of that sum in a sandbox is worth. -/
noncomputable def Try.pinned : Pinned := { name := "ytfacjkcndfpmpaa", sum := "f035362e467e02724d56c90250b649a50c5bf030bbf9150c7abb94d810c644fd", checked := Try.checked }
namespace Rows
def none {H : Type} : Left H := { results := [], args := [] }

/-- 'tricklelaw49.OutputWrite': WHATEVER THE INPUT: true; the input reads as it did. -/
def outputWriteSpec : ChangeSpec := { name := "outputWrite", fn := fun _ => fun
  | [d1, d2] => { results := [.lit (.bool true)], args := [d1, d2] }
  | _ => none }
def outputWriteRow : OpenClaim := { program := "ytfacjkcndfpmpaa", sum := "f035362e467e02724d56c90250b649a50c5bf030bbf9150c7abb94d810c644fd", func := "trickle/tricklelaw49.OutputWrite", spec := "outputWrite", apart := false }
def OutputWriteSaid : Prop := outputWriteRow.holds Try.pinned (OpenSpec.ofChange outputWriteSpec)

/-- ITS FALSE NEIGHBOUR: 'it returns false'. Refute it at one input. -/
def outputWriteWrong : ChangeSpec := { name := "outputWrite", fn := fun _ => fun
  | [d1, d2] => { results := [.lit (.bool false)], args := [d1, d2] }
  | _ => none }
def OutputWriteWrongFalsely : Prop := outputWriteRow.holds Try.pinned (OpenSpec.ofChange outputWriteWrong)

/-- 'tricklelaw49.OutputLog': WHATEVER THE INPUT: true; the input reads as it did. -/
def outputLogSpec : ChangeSpec := { name := "outputLog", fn := fun _ => fun
  | [d1, d2] => { results := [.lit (.bool true)], args := [d1, d2] }
  | _ => none }
def outputLogRow : OpenClaim := { program := "ytfacjkcndfpmpaa", sum := "f035362e467e02724d56c90250b649a50c5bf030bbf9150c7abb94d810c644fd", func := "trickle/tricklelaw49.OutputLog", spec := "outputLog", apart := false }
def OutputLogSaid : Prop := outputLogRow.holds Try.pinned (OpenSpec.ofChange outputLogSpec)

/-- ITS FALSE NEIGHBOUR: 'it returns false'. Refute it at one input. -/
def outputLogWrong : ChangeSpec := { name := "outputLog", fn := fun _ => fun
  | [d1, d2] => { results := [.lit (.bool false)], args := [d1, d2] }
  | _ => none }
def OutputLogWrongFalsely : Prop := outputLogRow.holds Try.pinned (OpenSpec.ofChange outputLogWrong)

/-- 'tricklelaw49.OutputLevel': WHATEVER THE INPUT: true; the input reads as it did. -/
def outputLevelSpec : ChangeSpec := { name := "outputLevel", fn := fun _ => fun
  | [d1, d2, d3] => { results := [.lit (.bool true)], args := [d1, d2, d3] }
  | _ => none }
def outputLevelRow : OpenClaim := { program := "ytfacjkcndfpmpaa", sum := "f035362e467e02724d56c90250b649a50c5bf030bbf9150c7abb94d810c644fd", func := "trickle/tricklelaw49.OutputLevel", spec := "outputLevel", apart := false }
def OutputLevelSaid : Prop := outputLevelRow.holds Try.pinned (OpenSpec.ofChange outputLevelSpec)

/-- ITS FALSE NEIGHBOUR: 'it returns false'. Refute it at one input. -/
def outputLevelWrong : ChangeSpec := { name := "outputLevel", fn := fun _ => fun
  | [d1, d2, d3] => { results := [.lit (.bool false)], args := [d1, d2, d3] }
  | _ => none }
def OutputLevelWrongFalsely : Prop := outputLevelRow.holds Try.pinned (OpenSpec.ofChange outputLevelWrong)

/-- 'tricklelaw49.OutputNew': WHATEVER THE INPUT: true; the input reads as it did. -/
def outputNewSpec : ChangeSpec := { name := "outputNew", fn := fun _ => fun
  | [d] => { results := [.lit (.bool true)], args := [d] }
  | _ => none }
def outputNewRow : OpenClaim := { program := "ytfacjkcndfpmpaa", sum := "f035362e467e02724d56c90250b649a50c5bf030bbf9150c7abb94d810c644fd", func := "trickle/tricklelaw49.OutputNew", spec := "outputNew", apart := false }
def OutputNewSaid : Prop := outputNewRow.holds Try.pinned (OpenSpec.ofChange outputNewSpec)

/-- ITS FALSE NEIGHBOUR: 'it returns false'. Refute it at one input. -/
def outputNewWrong : ChangeSpec := { name := "outputNew", fn := fun _ => fun
  | [d] => { results := [.lit (.bool false)], args := [d] }
  | _ => none }
def OutputNewWrongFalsely : Prop := outputNewRow.holds Try.pinned (OpenSpec.ofChange outputNewWrong)

/-- 'tricklelaw49.OutputRepeat': WHATEVER THE INPUT: true; the input reads as it did. -/
def outputRepeatSpec : ChangeSpec := { name := "outputRepeat", fn := fun _ => fun
  | [d1, d2, d3] => { results := [.lit (.bool true)], args := [d1, d2, d3] }
  | _ => none }
def outputRepeatRow : OpenClaim := { program := "ytfacjkcndfpmpaa", sum := "f035362e467e02724d56c90250b649a50c5bf030bbf9150c7abb94d810c644fd", func := "trickle/tricklelaw49.OutputRepeat", spec := "outputRepeat", apart := false }
def OutputRepeatSaid : Prop := outputRepeatRow.holds Try.pinned (OpenSpec.ofChange outputRepeatSpec)

/-- ITS FALSE NEIGHBOUR: 'it returns false'. Refute it at one input. -/
def outputRepeatWrong : ChangeSpec := { name := "outputRepeat", fn := fun _ => fun
  | [d1, d2, d3] => { results := [.lit (.bool false)], args := [d1, d2, d3] }
  | _ => none }
def OutputRepeatWrongFalsely : Prop := outputRepeatRow.holds Try.pinned (OpenSpec.ofChange outputRepeatWrong)

/-- 'tricklelaw49.OutputExactlyOnce': WHATEVER THE INPUT: true; the input reads as it did. -/
def outputExactlyOnceSpec : ChangeSpec := { name := "outputExactlyOnce", fn := fun _ => fun
  | [d1, d2] => { results := [.lit (.bool true)], args := [d1, d2] }
  | _ => none }
def outputExactlyOnceRow : OpenClaim := { program := "ytfacjkcndfpmpaa", sum := "f035362e467e02724d56c90250b649a50c5bf030bbf9150c7abb94d810c644fd", func := "trickle/tricklelaw49.OutputExactlyOnce", spec := "outputExactlyOnce", apart := false }
def OutputExactlyOnceSaid : Prop := outputExactlyOnceRow.holds Try.pinned (OpenSpec.ofChange outputExactlyOnceSpec)

/-- ITS FALSE NEIGHBOUR: 'it returns false'. Refute it at one input. -/
def outputExactlyOnceWrong : ChangeSpec := { name := "outputExactlyOnce", fn := fun _ => fun
  | [d1, d2] => { results := [.lit (.bool false)], args := [d1, d2] }
  | _ => none }
def OutputExactlyOnceWrongFalsely : Prop := outputExactlyOnceRow.holds Try.pinned (OpenSpec.ofChange outputExactlyOnceWrong)

/-- 'tricklelaw49.OutputPack': WHATEVER THE INPUT: true; the input reads as it did. -/
def outputPackSpec : ChangeSpec := { name := "outputPack", fn := fun _ => fun
  | [d1, d2, d3] => { results := [.lit (.bool true)], args := [d1, d2, d3] }
  | _ => none }
def outputPackRow : OpenClaim := { program := "ytfacjkcndfpmpaa", sum := "f035362e467e02724d56c90250b649a50c5bf030bbf9150c7abb94d810c644fd", func := "trickle/tricklelaw49.OutputPack", spec := "outputPack", apart := false }
def OutputPackSaid : Prop := outputPackRow.holds Try.pinned (OpenSpec.ofChange outputPackSpec)

/-- ITS FALSE NEIGHBOUR: 'it returns false'. Refute it at one input. -/
def outputPackWrong : ChangeSpec := { name := "outputPack", fn := fun _ => fun
  | [d1, d2, d3] => { results := [.lit (.bool false)], args := [d1, d2, d3] }
  | _ => none }
def OutputPackWrongFalsely : Prop := outputPackRow.holds Try.pinned (OpenSpec.ofChange outputPackWrong)

/- THE SECOND FORM. 'bulk': how many values and letters a reading holds, each counted each time it is reached (what is shared counts as often as it is met; a slice's spare places count too). A statement '..UptoSaid' is the law's where the arguments, and the package variables that the reading takes, are together of bulk at most 1048576: NARROWER than '..Said'. Prove '..Said' where nothing that the law and all that it calls make is longer than what came in: it says more and counts as full. Else prove '..UptoSaid'. A law counts once. -/
mutual
def uptoBulk {H : Type} : DataW H → Nat
  | .lit (.string bytes) => bytes.length + 1
  | .lit _ => 1
  | .nil => 1
  | .ptr d => uptoBulk d + 1
  | .slice elems spare => uptoBulkAll elems + uptoBulkAll spare + 1
  | .agg parts => uptoBulkAll parts + 1
  | .iface _ d => uptoBulk d + 1
  | .map entries => uptoBulkEntries entries + 1
  | .held _ => 1
def uptoBulkAll {H : Type} : List (DataW H) → Nat
  | [] => 0
  | d :: r => uptoBulk d + uptoBulkAll r
def uptoBulkEntries {H : Type} : List (Lit × DataW H) → Nat
  | [] => 0
  | x :: r => uptoBulkEntry x + uptoBulkEntries r
def uptoBulkEntry {H : Type} : Lit × DataW H → Nat
  | (.string bytes, d) => bytes.length + uptoBulk d + 1
  | (_, d) => uptoBulk d + 1
 end
def uptoSmall : (H : Type) → List (DataW H) → Bool := fun _ ds => decide (uptoBulkAll ds ≤ 1048576)
def OpenSpec.upto (s : _root_.Go.ChangeSpec) : _root_.Go.OpenSpec := { _root_.Go.OpenSpec.ofChange s with cond := some uptoSmall }

/-- 'tricklelaw49.OutputWrite', WHERE WHAT IT READS IS OF BULK AT MOST 1048576: true; the input reads as it did. -/
def outputWriteUptoRow : OpenClaim := { program := "ytfacjkcndfpmpaa", sum := "f035362e467e02724d56c90250b649a50c5bf030bbf9150c7abb94d810c644fd", func := "trickle/tricklelaw49.OutputWrite", spec := "outputWrite", apart := false, narrowed := true }
def OutputWriteUptoSaid : Prop := outputWriteUptoRow.holds Try.pinned (OpenSpec.upto outputWriteSpec)

/-- 'tricklelaw49.OutputLog', WHERE WHAT IT READS IS OF BULK AT MOST 1048576: true; the input reads as it did. -/
def outputLogUptoRow : OpenClaim := { program := "ytfacjkcndfpmpaa", sum := "f035362e467e02724d56c90250b649a50c5bf030bbf9150c7abb94d810c644fd", func := "trickle/tricklelaw49.OutputLog", spec := "outputLog", apart := false, narrowed := true }
def OutputLogUptoSaid : Prop := outputLogUptoRow.holds Try.pinned (OpenSpec.upto outputLogSpec)

/-- 'tricklelaw49.OutputLevel', WHERE WHAT IT READS IS OF BULK AT MOST 1048576: true; the input reads as it did. -/
def outputLevelUptoRow : OpenClaim := { program := "ytfacjkcndfpmpaa", sum := "f035362e467e02724d56c90250b649a50c5bf030bbf9150c7abb94d810c644fd", func := "trickle/tricklelaw49.OutputLevel", spec := "outputLevel", apart := false, narrowed := true }
def OutputLevelUptoSaid : Prop := outputLevelUptoRow.holds Try.pinned (OpenSpec.upto outputLevelSpec)

/-- 'tricklelaw49.OutputNew', WHERE WHAT IT READS IS OF BULK AT MOST 1048576: true; the input reads as it did. -/
def outputNewUptoRow : OpenClaim := { program := "ytfacjkcndfpmpaa", sum := "f035362e467e02724d56c90250b649a50c5bf030bbf9150c7abb94d810c644fd", func := "trickle/tricklelaw49.OutputNew", spec := "outputNew", apart := false, narrowed := true }
def OutputNewUptoSaid : Prop := outputNewUptoRow.holds Try.pinned (OpenSpec.upto outputNewSpec)

/-- 'tricklelaw49.OutputRepeat', WHERE WHAT IT READS IS OF BULK AT MOST 1048576: true; the input reads as it did. -/
def outputRepeatUptoRow : OpenClaim := { program := "ytfacjkcndfpmpaa", sum := "f035362e467e02724d56c90250b649a50c5bf030bbf9150c7abb94d810c644fd", func := "trickle/tricklelaw49.OutputRepeat", spec := "outputRepeat", apart := false, narrowed := true }
def OutputRepeatUptoSaid : Prop := outputRepeatUptoRow.holds Try.pinned (OpenSpec.upto outputRepeatSpec)

/-- 'tricklelaw49.OutputExactlyOnce', WHERE WHAT IT READS IS OF BULK AT MOST 1048576: true; the input reads as it did. -/
def outputExactlyOnceUptoRow : OpenClaim := { program := "ytfacjkcndfpmpaa", sum := "f035362e467e02724d56c90250b649a50c5bf030bbf9150c7abb94d810c644fd", func := "trickle/tricklelaw49.OutputExactlyOnce", spec := "outputExactlyOnce", apart := false, narrowed := true }
def OutputExactlyOnceUptoSaid : Prop := outputExactlyOnceUptoRow.holds Try.pinned (OpenSpec.upto outputExactlyOnceSpec)

/-- 'tricklelaw49.OutputPack', WHERE WHAT IT READS IS OF BULK AT MOST 1048576: true; the input reads as it did. -/
def outputPackUptoRow : OpenClaim := { program := "ytfacjkcndfpmpaa", sum := "f035362e467e02724d56c90250b649a50c5bf030bbf9150c7abb94d810c644fd", func := "trickle/tricklelaw49.OutputPack", spec := "outputPack", apart := false, narrowed := true }
def OutputPackUptoSaid : Prop := outputPackUptoRow.holds Try.pinned (OpenSpec.upto outputPackSpec)

end Rows
end Go.Proofs.Ytfacjkcndfpmpaa

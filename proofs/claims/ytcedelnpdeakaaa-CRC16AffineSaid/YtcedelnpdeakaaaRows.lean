/-
  No cell of these rows narrows 'for every input' (looked for: loops, veiled, ifaces, maps, wideKeys, modest, calm, conditions, laid).
  DERIVED. THE GIVEN ROWS OF THIS SEAT. 7 by the template 'for every input the law returns true; each argument reads behind the call as it read before'; 0 by the template 'total and deterministic' (their statements: YtcedelnpdeakaaaTotals.lean).
  GIVEN WITH THE SEED: the statements are not yours to turn. If you find one false, say at which input.
  Laid BY PROGRAM, IN A SANDBOX (cutbox-rows.mjs): the forced cells as the released guide's own fill.sh prints them over the translation 04fc1e5db2c9fa83… (all of the seat's roots in one cut). By AI agents, Wed Nov 11 2026. No macro, syntax, notation, axiom, sorry.
-/
import Derived.Test.YtcedelnpdeakaaaChecked
import GoSem.Claim
import GoSem.ClaimJoined
import GoSem.ClaimMapViews
import Derived.JoinedTies
import Derived.KernelRfl
namespace Go.Proofs.Ytcedelnpdeakaaa
/- THE CELL 'sum', in the pinned program and in every row, IS THE sha256 OF THE DUMP (.gsa) THAT YtcedelnpdeakaaaProg.lean LOADS. Nothing in Lean hashes anything: it is a label: what it is worth is what the hold of that sum in a sandbox is worth. -/
noncomputable def Try.pinned : Pinned := { name := "ytcedelnpdeakaaa", sum := "04fc1e5db2c9fa839fe1018584bee3e3b26608b073b19040fbf3ae432731389f", checked := Try.checked }
namespace Rows
def none {H : Type} : Left H := { results := [], args := [] }

/-- 'tricklelaw02.CRC16Sum': WHATEVER THE INPUT: true; the input reads as it did. -/
def cRC16SumSpec : ChangeSpec := { name := "cRC16Sum", fn := fun _ => fun
  | [d1, d2] => { results := [.lit (.bool true)], args := [d1, d2] }
  | _ => none }
def cRC16SumRow : OpenClaim := { program := "ytcedelnpdeakaaa", sum := "04fc1e5db2c9fa839fe1018584bee3e3b26608b073b19040fbf3ae432731389f", func := "trickle/tricklelaw02.CRC16Sum", spec := "cRC16Sum", apart := false }
def CRC16SumSaid : Prop := cRC16SumRow.holds Try.pinned (OpenSpec.ofChange cRC16SumSpec)

/-- ITS FALSE NEIGHBOUR: 'it returns false'. Refute it at one input. -/
def cRC16SumWrong : ChangeSpec := { name := "cRC16Sum", fn := fun _ => fun
  | [d1, d2] => { results := [.lit (.bool false)], args := [d1, d2] }
  | _ => none }
def CRC16SumWrongFalsely : Prop := cRC16SumRow.holds Try.pinned (OpenSpec.ofChange cRC16SumWrong)

/-- 'tricklelaw02.CRC16Concat': WHATEVER THE INPUT: true; the input reads as it did. -/
def cRC16ConcatSpec : ChangeSpec := { name := "cRC16Concat", fn := fun _ => fun
  | [d1, d2] => { results := [.lit (.bool true)], args := [d1, d2] }
  | _ => none }
def cRC16ConcatRow : OpenClaim := { program := "ytcedelnpdeakaaa", sum := "04fc1e5db2c9fa839fe1018584bee3e3b26608b073b19040fbf3ae432731389f", func := "trickle/tricklelaw02.CRC16Concat", spec := "cRC16Concat", apart := false }
def CRC16ConcatSaid : Prop := cRC16ConcatRow.holds Try.pinned (OpenSpec.ofChange cRC16ConcatSpec)

/-- ITS FALSE NEIGHBOUR: 'it returns false'. Refute it at one input. -/
def cRC16ConcatWrong : ChangeSpec := { name := "cRC16Concat", fn := fun _ => fun
  | [d1, d2] => { results := [.lit (.bool false)], args := [d1, d2] }
  | _ => none }
def CRC16ConcatWrongFalsely : Prop := cRC16ConcatRow.holds Try.pinned (OpenSpec.ofChange cRC16ConcatWrong)

/-- 'tricklelaw02.CRC16Check': WHATEVER THE INPUT: true; the input reads as it did. -/
def cRC16CheckSpec : ChangeSpec := { name := "cRC16Check", fn := fun _ => fun
  | [d] => { results := [.lit (.bool true)], args := [d] }
  | _ => none }
def cRC16CheckRow : OpenClaim := { program := "ytcedelnpdeakaaa", sum := "04fc1e5db2c9fa839fe1018584bee3e3b26608b073b19040fbf3ae432731389f", func := "trickle/tricklelaw02.CRC16Check", spec := "cRC16Check", apart := false }
def CRC16CheckSaid : Prop := cRC16CheckRow.holds Try.pinned (OpenSpec.ofChange cRC16CheckSpec)

/-- ITS FALSE NEIGHBOUR: 'it returns false'. Refute it at one input. -/
def cRC16CheckWrong : ChangeSpec := { name := "cRC16Check", fn := fun _ => fun
  | [d] => { results := [.lit (.bool false)], args := [d] }
  | _ => none }
def CRC16CheckWrongFalsely : Prop := cRC16CheckRow.holds Try.pinned (OpenSpec.ofChange cRC16CheckWrong)

/-- 'tricklelaw02.CRC16Burst': WHATEVER THE INPUT: true; the input reads as it did. -/
def cRC16BurstSpec : ChangeSpec := { name := "cRC16Burst", fn := fun _ => fun
  | [d1, d2, d3] => { results := [.lit (.bool true)], args := [d1, d2, d3] }
  | _ => none }
def cRC16BurstRow : OpenClaim := { program := "ytcedelnpdeakaaa", sum := "04fc1e5db2c9fa839fe1018584bee3e3b26608b073b19040fbf3ae432731389f", func := "trickle/tricklelaw02.CRC16Burst", spec := "cRC16Burst", apart := false }
def CRC16BurstSaid : Prop := cRC16BurstRow.holds Try.pinned (OpenSpec.ofChange cRC16BurstSpec)

/-- ITS FALSE NEIGHBOUR: 'it returns false'. Refute it at one input. -/
def cRC16BurstWrong : ChangeSpec := { name := "cRC16Burst", fn := fun _ => fun
  | [d1, d2, d3] => { results := [.lit (.bool false)], args := [d1, d2, d3] }
  | _ => none }
def CRC16BurstWrongFalsely : Prop := cRC16BurstRow.holds Try.pinned (OpenSpec.ofChange cRC16BurstWrong)

/-- 'tricklelaw02.CRC16Affine': WHATEVER THE INPUT: true; the input reads as it did. -/
def cRC16AffineSpec : ChangeSpec := { name := "cRC16Affine", fn := fun _ => fun
  | [d1, d2, d3] => { results := [.lit (.bool true)], args := [d1, d2, d3] }
  | _ => none }
def cRC16AffineRow : OpenClaim := { program := "ytcedelnpdeakaaa", sum := "04fc1e5db2c9fa839fe1018584bee3e3b26608b073b19040fbf3ae432731389f", func := "trickle/tricklelaw02.CRC16Affine", spec := "cRC16Affine", apart := false }
def CRC16AffineSaid : Prop := cRC16AffineRow.holds Try.pinned (OpenSpec.ofChange cRC16AffineSpec)

/-- ITS FALSE NEIGHBOUR: 'it returns false'. Refute it at one input. -/
def cRC16AffineWrong : ChangeSpec := { name := "cRC16Affine", fn := fun _ => fun
  | [d1, d2, d3] => { results := [.lit (.bool false)], args := [d1, d2, d3] }
  | _ => none }
def CRC16AffineWrongFalsely : Prop := cRC16AffineRow.holds Try.pinned (OpenSpec.ofChange cRC16AffineWrong)

/-- 'tricklelaw02.CRC16Append': WHATEVER THE INPUT: true; the input reads as it did. -/
def cRC16AppendSpec : ChangeSpec := { name := "cRC16Append", fn := fun _ => fun
  | [d] => { results := [.lit (.bool true)], args := [d] }
  | _ => none }
def cRC16AppendRow : OpenClaim := { program := "ytcedelnpdeakaaa", sum := "04fc1e5db2c9fa839fe1018584bee3e3b26608b073b19040fbf3ae432731389f", func := "trickle/tricklelaw02.CRC16Append", spec := "cRC16Append", apart := false }
def CRC16AppendSaid : Prop := cRC16AppendRow.holds Try.pinned (OpenSpec.ofChange cRC16AppendSpec)

/-- ITS FALSE NEIGHBOUR: 'it returns false'. Refute it at one input. -/
def cRC16AppendWrong : ChangeSpec := { name := "cRC16Append", fn := fun _ => fun
  | [d] => { results := [.lit (.bool false)], args := [d] }
  | _ => none }
def CRC16AppendWrongFalsely : Prop := cRC16AppendRow.holds Try.pinned (OpenSpec.ofChange cRC16AppendWrong)

/-- 'tricklelaw02.CRC16Combine': WHATEVER THE INPUT: true; the input reads as it did. -/
def cRC16CombineSpec : ChangeSpec := { name := "cRC16Combine", fn := fun _ => fun
  | [d1, d2, d3] => { results := [.lit (.bool true)], args := [d1, d2, d3] }
  | _ => none }
def cRC16CombineRow : OpenClaim := { program := "ytcedelnpdeakaaa", sum := "04fc1e5db2c9fa839fe1018584bee3e3b26608b073b19040fbf3ae432731389f", func := "trickle/tricklelaw02.CRC16Combine", spec := "cRC16Combine", apart := false }
def CRC16CombineSaid : Prop := cRC16CombineRow.holds Try.pinned (OpenSpec.ofChange cRC16CombineSpec)

/-- ITS FALSE NEIGHBOUR: 'it returns false'. Refute it at one input. -/
def cRC16CombineWrong : ChangeSpec := { name := "cRC16Combine", fn := fun _ => fun
  | [d1, d2, d3] => { results := [.lit (.bool false)], args := [d1, d2, d3] }
  | _ => none }
def CRC16CombineWrongFalsely : Prop := cRC16CombineRow.holds Try.pinned (OpenSpec.ofChange cRC16CombineWrong)

/- THE SECOND FORM. 'bulk': how many values and letters a reading holds, each counted each time it is reached (what is shared counts as often as it is met; a slice's spare places count too). A statement '..UptoSaid' is the law's where the arguments, and the package variables that the reading takes, are together of bulk at most 1048576: NARROWER than '..Said'. Prove '..Said' where nothing that the law and all that it calls make is longer than what came in: it says more and counts as full. Else prove '..UptoSaid'. A law counts once. -/
mutual
def uptoBulk {H : Type} : DataW H → Nat
  | .lit (.string bytes) => bytes.length + 1
  | .lit _ => 1
  | .nil => 1
  | .ptr d => uptoBulk d + 1
  | .slice elems spare => uptoBulkAll elems + uptoBulkAll spare + 1
  | .agg parts => uptoBulkAll parts + 1
  | .iface _ d => uptoBulk d + 1
  | .map entries => uptoBulkEntries entries + 1
  | .held _ => 1
def uptoBulkAll {H : Type} : List (DataW H) → Nat
  | [] => 0
  | d :: r => uptoBulk d + uptoBulkAll r
def uptoBulkEntries {H : Type} : List (Lit × DataW H) → Nat
  | [] => 0
  | x :: r => uptoBulkEntry x + uptoBulkEntries r
def uptoBulkEntry {H : Type} : Lit × DataW H → Nat
  | (.string bytes, d) => bytes.length + uptoBulk d + 1
  | (_, d) => uptoBulk d + 1
 end
def uptoSmall : (H : Type) → List (DataW H) → Bool := fun _ ds => decide (uptoBulkAll ds ≤ 1048576)
def OpenSpec.upto (s : _root_.Go.ChangeSpec) : _root_.Go.OpenSpec := { _root_.Go.OpenSpec.ofChange s with cond := some uptoSmall }

/-- 'tricklelaw02.CRC16Sum', WHERE WHAT IT READS IS OF BULK AT MOST 1048576: true; the input reads as it did. -/
def cRC16SumUptoRow : OpenClaim := { program := "ytcedelnpdeakaaa", sum := "04fc1e5db2c9fa839fe1018584bee3e3b26608b073b19040fbf3ae432731389f", func := "trickle/tricklelaw02.CRC16Sum", spec := "cRC16Sum", apart := false, narrowed := true }
def CRC16SumUptoSaid : Prop := cRC16SumUptoRow.holds Try.pinned (OpenSpec.upto cRC16SumSpec)

/-- 'tricklelaw02.CRC16Concat', WHERE WHAT IT READS IS OF BULK AT MOST 1048576: true; the input reads as it did. -/
def cRC16ConcatUptoRow : OpenClaim := { program := "ytcedelnpdeakaaa", sum := "04fc1e5db2c9fa839fe1018584bee3e3b26608b073b19040fbf3ae432731389f", func := "trickle/tricklelaw02.CRC16Concat", spec := "cRC16Concat", apart := false, narrowed := true }
def CRC16ConcatUptoSaid : Prop := cRC16ConcatUptoRow.holds Try.pinned (OpenSpec.upto cRC16ConcatSpec)

/-- 'tricklelaw02.CRC16Check', WHERE WHAT IT READS IS OF BULK AT MOST 1048576: true; the input reads as it did. -/
def cRC16CheckUptoRow : OpenClaim := { program := "ytcedelnpdeakaaa", sum := "04fc1e5db2c9fa839fe1018584bee3e3b26608b073b19040fbf3ae432731389f", func := "trickle/tricklelaw02.CRC16Check", spec := "cRC16Check", apart := false, narrowed := true }
def CRC16CheckUptoSaid : Prop := cRC16CheckUptoRow.holds Try.pinned (OpenSpec.upto cRC16CheckSpec)

/-- 'tricklelaw02.CRC16Burst', WHERE WHAT IT READS IS OF BULK AT MOST 1048576: true; the input reads as it did. -/
def cRC16BurstUptoRow : OpenClaim := { program := "ytcedelnpdeakaaa", sum := "04fc1e5db2c9fa839fe1018584bee3e3b26608b073b19040fbf3ae432731389f", func := "trickle/tricklelaw02.CRC16Burst", spec := "cRC16Burst", apart := false, narrowed := true }
def CRC16BurstUptoSaid : Prop := cRC16BurstUptoRow.holds Try.pinned (OpenSpec.upto cRC16BurstSpec)

/-- 'tricklelaw02.CRC16Affine', WHERE WHAT IT READS IS OF BULK AT MOST 1048576: true; the input reads as it did. -/
def cRC16AffineUptoRow : OpenClaim := { program := "ytcedelnpdeakaaa", sum := "04fc1e5db2c9fa839fe1018584bee3e3b26608b073b19040fbf3ae432731389f", func := "trickle/tricklelaw02.CRC16Affine", spec := "cRC16Affine", apart := false, narrowed := true }
def CRC16AffineUptoSaid : Prop := cRC16AffineUptoRow.holds Try.pinned (OpenSpec.upto cRC16AffineSpec)

/-- 'tricklelaw02.CRC16Append', WHERE WHAT IT READS IS OF BULK AT MOST 1048576: true; the input reads as it did. -/
def cRC16AppendUptoRow : OpenClaim := { program := "ytcedelnpdeakaaa", sum := "04fc1e5db2c9fa839fe1018584bee3e3b26608b073b19040fbf3ae432731389f", func := "trickle/tricklelaw02.CRC16Append", spec := "cRC16Append", apart := false, narrowed := true }
def CRC16AppendUptoSaid : Prop := cRC16AppendUptoRow.holds Try.pinned (OpenSpec.upto cRC16AppendSpec)

/-- 'tricklelaw02.CRC16Combine', WHERE WHAT IT READS IS OF BULK AT MOST 1048576: true; the input reads as it did. -/
def cRC16CombineUptoRow : OpenClaim := { program := "ytcedelnpdeakaaa", sum := "04fc1e5db2c9fa839fe1018584bee3e3b26608b073b19040fbf3ae432731389f", func := "trickle/tricklelaw02.CRC16Combine", spec := "cRC16Combine", apart := false, narrowed := true }
def CRC16CombineUptoSaid : Prop := cRC16CombineUptoRow.holds Try.pinned (OpenSpec.upto cRC16CombineSpec)

end Rows
end Go.Proofs.Ytcedelnpdeakaaa

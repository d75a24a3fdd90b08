/-
  No cell of these rows narrows 'for every input' (looked for: loops, veiled, ifaces, maps, wideKeys, modest, calm, conditions, laid).
  DERIVED. THE GIVEN ROWS OF THIS SEAT. 5 by the template 'for every input the law returns true; each argument reads behind the call as it read before'; 0 by the template 'total and deterministic' (their statements: YtfcldacjnegacaaTotals.lean).
  GIVEN WITH THE SEED: the statements are not yours to turn. If you find one false, say at which input.
  Laid BY PROGRAM, IN A SANDBOX (cutbox-rows.mjs): the forced cells as the released guide's own fill.sh prints them over the translation 9ee893f9e3591cd8… (all of the seat's roots in one cut). By AI agents, Wed Nov 11 2026. No macro, syntax, notation, axiom, sorry.
-/
import Derived.Test.YtfcldacjnegacaaChecked
import GoSem.Claim
import GoSem.ClaimJoined
import GoSem.ClaimMapViews
import Derived.JoinedTies
import Derived.KernelRfl
namespace Go.Proofs.Ytfcldacjnegacaa
/- THE CELL 'sum', in the pinned program and in every row, IS THE sha256 OF THE DUMP (.gsa) THAT YtfcldacjnegacaaProg.lean LOADS. Nothing in Lean hashes anything: it is a label: what it is worth is what the hold of that sum in a sandbox is worth. -/
noncomputable def Try.pinned : Pinned := { name := "ytfcldacjnegacaa", sum := "9ee893f9e3591cd822ac6612fb98066102632276250a5868c61301b93ee7a735", checked := Try.checked }
namespace Rows
def none {H : Type} : Left H := { results := [], args := [] }

/-- 'tricklelaw47.UpdaterOpen': WHATEVER THE INPUT: true; the input reads as it did. -/
def updaterOpenSpec : ChangeSpec := { name := "updaterOpen", fn := fun _ => fun
  | [d1, d2, d3] => { results := [.lit (.bool true)], args := [d1, d2, d3] }
  | _ => none }
def updaterOpenRow : OpenClaim := { program := "ytfcldacjnegacaa", sum := "9ee893f9e3591cd822ac6612fb98066102632276250a5868c61301b93ee7a735", func := "trickle/tricklelaw47.UpdaterOpen", spec := "updaterOpen", unfollowed := true, recurses := true, apart := false }
def UpdaterOpenSaid : Prop := updaterOpenRow.holds Try.pinned (OpenSpec.ofChange updaterOpenSpec)

/-- ITS FALSE NEIGHBOUR: 'it returns false'. Refute it at one input. -/
def updaterOpenWrong : ChangeSpec := { name := "updaterOpen", fn := fun _ => fun
  | [d1, d2, d3] => { results := [.lit (.bool false)], args := [d1, d2, d3] }
  | _ => none }
def UpdaterOpenWrongFalsely : Prop := updaterOpenRow.holds Try.pinned (OpenSpec.ofChange updaterOpenWrong)

/-- 'tricklelaw47.UpdaterStored': WHATEVER THE INPUT: true; the input reads as it did. -/
def updaterStoredSpec : ChangeSpec := { name := "updaterStored", fn := fun _ => fun
  | [d1, d2, d3] => { results := [.lit (.bool true)], args := [d1, d2, d3] }
  | _ => none }
def updaterStoredRow : OpenClaim := { program := "ytfcldacjnegacaa", sum := "9ee893f9e3591cd822ac6612fb98066102632276250a5868c61301b93ee7a735", func := "trickle/tricklelaw47.UpdaterStored", spec := "updaterStored", unfollowed := true, recurses := true, apart := false }
def UpdaterStoredSaid : Prop := updaterStoredRow.holds Try.pinned (OpenSpec.ofChange updaterStoredSpec)

/-- ITS FALSE NEIGHBOUR: 'it returns false'. Refute it at one input. -/
def updaterStoredWrong : ChangeSpec := { name := "updaterStored", fn := fun _ => fun
  | [d1, d2, d3] => { results := [.lit (.bool false)], args := [d1, d2, d3] }
  | _ => none }
def UpdaterStoredWrongFalsely : Prop := updaterStoredRow.holds Try.pinned (OpenSpec.ofChange updaterStoredWrong)

/-- 'tricklelaw47.UpdaterSpoilt': WHATEVER THE INPUT: true; the input reads as it did. -/
def updaterSpoiltSpec : ChangeSpec := { name := "updaterSpoilt", fn := fun _ => fun
  | [d1, d2, d3] => { results := [.lit (.bool true)], args := [d1, d2, d3] }
  | _ => none }
def updaterSpoiltRow : OpenClaim := { program := "ytfcldacjnegacaa", sum := "9ee893f9e3591cd822ac6612fb98066102632276250a5868c61301b93ee7a735", func := "trickle/tricklelaw47.UpdaterSpoilt", spec := "updaterSpoilt", unfollowed := true, recurses := true, apart := false }
def UpdaterSpoiltSaid : Prop := updaterSpoiltRow.holds Try.pinned (OpenSpec.ofChange updaterSpoiltSpec)

/-- ITS FALSE NEIGHBOUR: 'it returns false'. Refute it at one input. -/
def updaterSpoiltWrong : ChangeSpec := { name := "updaterSpoilt", fn := fun _ => fun
  | [d1, d2, d3] => { results := [.lit (.bool false)], args := [d1, d2, d3] }
  | _ => none }
def UpdaterSpoiltWrongFalsely : Prop := updaterSpoiltRow.holds Try.pinned (OpenSpec.ofChange updaterSpoiltWrong)

/-- 'tricklelaw47.UpdaterReceives': WHATEVER THE INPUT: true; the input reads as it did. -/
def updaterReceivesSpec : ChangeSpec := { name := "updaterReceives", fn := fun _ => fun
  | [d1, d2, d3] => { results := [.lit (.bool true)], args := [d1, d2, d3] }
  | _ => none }
def updaterReceivesRow : OpenClaim := { program := "ytfcldacjnegacaa", sum := "9ee893f9e3591cd822ac6612fb98066102632276250a5868c61301b93ee7a735", func := "trickle/tricklelaw47.UpdaterReceives", spec := "updaterReceives", unfollowed := true, recurses := true, apart := false }
def UpdaterReceivesSaid : Prop := updaterReceivesRow.holds Try.pinned (OpenSpec.ofChange updaterReceivesSpec)

/-- ITS FALSE NEIGHBOUR: 'it returns false'. Refute it at one input. -/
def updaterReceivesWrong : ChangeSpec := { name := "updaterReceives", fn := fun _ => fun
  | [d1, d2, d3] => { results := [.lit (.bool false)], args := [d1, d2, d3] }
  | _ => none }
def UpdaterReceivesWrongFalsely : Prop := updaterReceivesRow.holds Try.pinned (OpenSpec.ofChange updaterReceivesWrong)

/-- 'tricklelaw47.UpdaterMatchesModel': WHATEVER THE INPUT: true; the input reads as it did. -/
def updaterMatchesModelSpec : ChangeSpec := { name := "updaterMatchesModel", fn := fun _ => fun
  | [d1, d2, d3] => { results := [.lit (.bool true)], args := [d1, d2, d3] }
  | _ => none }
def updaterMatchesModelRow : OpenClaim := { program := "ytfcldacjnegacaa", sum := "9ee893f9e3591cd822ac6612fb98066102632276250a5868c61301b93ee7a735", func := "trickle/tricklelaw47.UpdaterMatchesModel", spec := "updaterMatchesModel", unfollowed := true, recurses := true, apart := false }
def UpdaterMatchesModelSaid : Prop := updaterMatchesModelRow.holds Try.pinned (OpenSpec.ofChange updaterMatchesModelSpec)

/-- ITS FALSE NEIGHBOUR: 'it returns false'. Refute it at one input. -/
def updaterMatchesModelWrong : ChangeSpec := { name := "updaterMatchesModel", fn := fun _ => fun
  | [d1, d2, d3] => { results := [.lit (.bool false)], args := [d1, d2, d3] }
  | _ => none }
def UpdaterMatchesModelWrongFalsely : Prop := updaterMatchesModelRow.holds Try.pinned (OpenSpec.ofChange updaterMatchesModelWrong)

/- THE SECOND FORM. 'bulk': how many values and letters a reading holds, each counted each time it is reached (what is shared counts as often as it is met; a slice's spare places count too). A statement '..UptoSaid' is the law's where the arguments, and the package variables that the reading takes, are together of bulk at most 1048576: NARROWER than '..Said'. Prove '..Said' where nothing that the law and all that it calls make is longer than what came in: it says more and counts as full. Else prove '..UptoSaid'. A law counts once. -/
mutual
def uptoBulk {H : Type} : DataW H → Nat
  | .lit (.string bytes) => bytes.length + 1
  | .lit _ => 1
  | .nil => 1
  | .ptr d => uptoBulk d + 1
  | .slice elems spare => uptoBulkAll elems + uptoBulkAll spare + 1
  | .agg parts => uptoBulkAll parts + 1
  | .iface _ d => uptoBulk d + 1
  | .map entries => uptoBulkEntries entries + 1
  | .held _ => 1
def uptoBulkAll {H : Type} : List (DataW H) → Nat
  | [] => 0
  | d :: r => uptoBulk d + uptoBulkAll r
def uptoBulkEntries {H : Type} : List (Lit × DataW H) → Nat
  | [] => 0
  | x :: r => uptoBulkEntry x + uptoBulkEntries r
def uptoBulkEntry {H : Type} : Lit × DataW H → Nat
  | (.string bytes, d) => bytes.length + uptoBulk d + 1
  | (_, d) => uptoBulk d + 1
 end
def uptoSmall : (H : Type) → List (DataW H) → Bool := fun _ ds => decide (uptoBulkAll ds ≤ 1048576)
def OpenSpec.upto (s : _root_.Go.ChangeSpec) : _root_.Go.OpenSpec := { _root_.Go.OpenSpec.ofChange s with cond := some uptoSmall }

/-- 'tricklelaw47.UpdaterOpen', WHERE WHAT IT READS IS OF BULK AT MOST 1048576: true; the input reads as it did. -/
def updaterOpenUptoRow : OpenClaim := { program := "ytfcldacjnegacaa", sum := "9ee893f9e3591cd822ac6612fb98066102632276250a5868c61301b93ee7a735", func := "trickle/tricklelaw47.UpdaterOpen", spec := "updaterOpen", unfollowed := true, recurses := true, apart := false, narrowed := true }
def UpdaterOpenUptoSaid : Prop := updaterOpenUptoRow.holds Try.pinned (OpenSpec.upto updaterOpenSpec)

/-- 'tricklelaw47.UpdaterStored', WHERE WHAT IT READS IS OF BULK AT MOST 1048576: true; the input reads as it did. -/
def updaterStoredUptoRow : OpenClaim := { program := "ytfcldacjnegacaa", sum := "9ee893f9e3591cd822ac6612fb98066102632276250a5868c61301b93ee7a735", func := "trickle/tricklelaw47.UpdaterStored", spec := "updaterStored", unfollowed := true, recurses := true, apart := false, narrowed := true }
def UpdaterStoredUptoSaid : Prop := updaterStoredUptoRow.holds Try.pinned (OpenSpec.upto updaterStoredSpec)

/-- 'tricklelaw47.UpdaterSpoilt', WHERE WHAT IT READS IS OF BULK AT MOST 1048576: true; the input reads as it did. -/
def updaterSpoiltUptoRow : OpenClaim := { program := "ytfcldacjnegacaa", sum := "9ee893f9e3591cd822ac6612fb98066102632276250a5868c61301b93ee7a735", func := "trickle/tricklelaw47.UpdaterSpoilt", spec := "updaterSpoilt", unfollowed := true, recurses := true, apart := false, narrowed := true }
def UpdaterSpoiltUptoSaid : Prop := updaterSpoiltUptoRow.holds Try.pinned (OpenSpec.upto updaterSpoiltSpec)

/-- 'tricklelaw47.UpdaterReceives', WHERE WHAT IT READS IS OF BULK AT MOST 1048576: true; the input reads as it did. -/
def updaterReceivesUptoRow : OpenClaim := { program := "ytfcldacjnegacaa", sum := "9ee893f9e3591cd822ac6612fb98066102632276250a5868c61301b93ee7a735", func := "trickle/tricklelaw47.UpdaterReceives", spec := "updaterReceives", unfollowed := true, recurses := true, apart := false, narrowed := true }
def UpdaterReceivesUptoSaid : Prop := updaterReceivesUptoRow.holds Try.pinned (OpenSpec.upto updaterReceivesSpec)

/-- 'tricklelaw47.UpdaterMatchesModel', WHERE WHAT IT READS IS OF BULK AT MOST 1048576: true; the input reads as it did. -/
def updaterMatchesModelUptoRow : OpenClaim := { program := "ytfcldacjnegacaa", sum := "9ee893f9e3591cd822ac6612fb98066102632276250a5868c61301b93ee7a735", func := "trickle/tricklelaw47.UpdaterMatchesModel", spec := "updaterMatchesModel", unfollowed := true, recurses := true, apart := false, narrowed := true }
def UpdaterMatchesModelUptoSaid : Prop := updaterMatchesModelUptoRow.holds Try.pinned (OpenSpec.upto updaterMatchesModelSpec)

end Rows
end Go.Proofs.Ytfcldacjnegacaa

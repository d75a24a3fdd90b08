/-
  DERIVED. GIVEN WITH THE SEED: THE CARDS: each row of YtleafbihfmiidaaDoorRows.lean that lists a variable, with what it lists TIED to the program's text (the seventh form; the later family's looks); each row that meets fmt, with fmt's text TOLD by the authors' own Lean function (tested against real Go, not proved from fmt's source: count such statements apart). THE CARD IS WHAT COUNTS. Prove the row's statement (the work); the ties are given (YtleafbihfmiidaaDoorTie.lean); close each card by the builder's one call (the guide's Derived/Test/ToyasCard.lean, 'card_holds'). Laid BY PROGRAM, IN A SANDBOX (cutbox-door.mjs). By AI agents, Wed Nov 11 2026. No macro, syntax, notation, axiom, sorry.
-/
import Derived.Test.YtleafbihfmiidaaDoorRows
import GoSem.ClaimSeven
namespace Go.Proofs.YtleafbihfmiidaaDoor
namespace Rows

/-- THE TIED CARD OF 'tricklelaw12.CPURestores'. -/
def cPURestoresCard : Claim7 := { stood := { row := cPURestoresRow, standIns := [], harness := (true, "4508f4b98369958045edda3a9e2ba80430f670cb70db7d4b090c887b5bed01c3"), looks := false }, kinds := [], alts := [], laidByText := true, laidKinds := [.data], laidTests := true, laidLooks := .later }
def CPURestoresCardSaid : Prop := Claim7.holds Tryd.pinned (.plain (OpenSpec.ofChange cPURestoresSpec)) cPURestoresCard

/-- THE TIED CARD OF 'tricklelaw12.CPUSaveAfterRestore'. -/
def cPUSaveAfterRestoreCard : Claim7 := { stood := { row := cPUSaveAfterRestoreRow, standIns := [], harness := (true, "4508f4b98369958045edda3a9e2ba80430f670cb70db7d4b090c887b5bed01c3"), looks := false }, kinds := [], alts := [], laidByText := true, laidKinds := [.data], laidTests := true, laidLooks := .later }
def CPUSaveAfterRestoreCardSaid : Prop := Claim7.holds Tryd.pinned (.plain (OpenSpec.ofChange cPUSaveAfterRestoreSpec)) cPUSaveAfterRestoreCard

/-- THE TIED CARD OF 'tricklelaw12.CPUStep'. -/
def cPUStepCard : Claim7 := { stood := { row := cPUStepRow, standIns := [], harness := (true, "4508f4b98369958045edda3a9e2ba80430f670cb70db7d4b090c887b5bed01c3"), looks := false }, kinds := [], alts := [], laidByText := true, laidKinds := [.data], laidTests := true, laidLooks := .later }
def CPUStepCardSaid : Prop := Claim7.holds Tryd.pinned (.plain (OpenSpec.ofChange cPUStepSpec)) cPUStepCard

/-- THE TIED CARD OF 'tricklelaw12.CPURun'. -/
def cPURunCard : Claim7 := { stood := { row := cPURunRow, standIns := [], harness := (true, "4508f4b98369958045edda3a9e2ba80430f670cb70db7d4b090c887b5bed01c3"), looks := false }, kinds := [], alts := [], laidByText := true, laidKinds := [.data], laidTests := true, laidLooks := .later }
def CPURunCardSaid : Prop := Claim7.holds Tryd.pinned (.plain (OpenSpec.ofChange cPURunSpec)) cPURunCard

/-- THE TIED CARD OF 'tricklelaw12.CPUSplitsRun'. -/
def cPUSplitsRunCard : Claim7 := { stood := { row := cPUSplitsRunRow, standIns := [], harness := (true, "4508f4b98369958045edda3a9e2ba80430f670cb70db7d4b090c887b5bed01c3"), looks := false }, kinds := [], alts := [], laidByText := true, laidKinds := [.data], laidTests := true, laidLooks := .later }
def CPUSplitsRunCardSaid : Prop := Claim7.holds Tryd.pinned (.plain (OpenSpec.ofChange cPUSplitsRunSpec)) cPUSplitsRunCard

/-- THE TIED CARD OF 'tricklelaw12.CPUFailureChangesNothing'. -/
def cPUFailureChangesNothingCard : Claim7 := { stood := { row := cPUFailureChangesNothingRow, standIns := [], harness := (true, "4508f4b98369958045edda3a9e2ba80430f670cb70db7d4b090c887b5bed01c3"), looks := false }, kinds := [], alts := [], laidByText := true, laidKinds := [.data], laidTests := true, laidLooks := .later }
def CPUFailureChangesNothingCardSaid : Prop := Claim7.holds Tryd.pinned (.plain (OpenSpec.ofChange cPUFailureChangesNothingSpec)) cPUFailureChangesNothingCard

/-- THE TIED CARD OF 'tricklelaw12.CPUSaves'. -/
def cPUSavesCard : Claim7 := { stood := { row := cPUSavesRow, standIns := [], harness := (true, "4508f4b98369958045edda3a9e2ba80430f670cb70db7d4b090c887b5bed01c3"), looks := false }, kinds := [], alts := [], laidByText := true, laidKinds := [.data], laidTests := true, laidLooks := .later }
def CPUSavesCardSaid : Prop := Claim7.holds Tryd.pinned (.plain (OpenSpec.ofChange cPUSavesSpec)) cPUSavesCard

/-- THE SECOND FORM's CARD OF 'tricklelaw12.CPURestores'. -/
def cPURestoresUptoCard : Claim7 := { stood := { row := cPURestoresUptoRow, standIns := [], harness := (true, "4508f4b98369958045edda3a9e2ba80430f670cb70db7d4b090c887b5bed01c3"), looks := false }, kinds := [], alts := [], laidByText := true, laidKinds := [.data], laidTests := true, laidLooks := .later }
def CPURestoresUptoCardSaid : Prop := Claim7.holds Tryd.pinned (.plain (OpenSpec.upto cPURestoresSpec)) cPURestoresUptoCard

/-- THE SECOND FORM's CARD OF 'tricklelaw12.CPUSaveAfterRestore'. -/
def cPUSaveAfterRestoreUptoCard : Claim7 := { stood := { row := cPUSaveAfterRestoreUptoRow, standIns := [], harness := (true, "4508f4b98369958045edda3a9e2ba80430f670cb70db7d4b090c887b5bed01c3"), looks := false }, kinds := [], alts := [], laidByText := true, laidKinds := [.data], laidTests := true, laidLooks := .later }
def CPUSaveAfterRestoreUptoCardSaid : Prop := Claim7.holds Tryd.pinned (.plain (OpenSpec.upto cPUSaveAfterRestoreSpec)) cPUSaveAfterRestoreUptoCard

/-- THE SECOND FORM's CARD OF 'tricklelaw12.CPUStep'. -/
def cPUStepUptoCard : Claim7 := { stood := { row := cPUStepUptoRow, standIns := [], harness := (true, "4508f4b98369958045edda3a9e2ba80430f670cb70db7d4b090c887b5bed01c3"), looks := false }, kinds := [], alts := [], laidByText := true, laidKinds := [.data], laidTests := true, laidLooks := .later }
def CPUStepUptoCardSaid : Prop := Claim7.holds Tryd.pinned (.plain (OpenSpec.upto cPUStepSpec)) cPUStepUptoCard

/-- THE SECOND FORM's CARD OF 'tricklelaw12.CPURun'. -/
def cPURunUptoCard : Claim7 := { stood := { row := cPURunUptoRow, standIns := [], harness := (true, "4508f4b98369958045edda3a9e2ba80430f670cb70db7d4b090c887b5bed01c3"), looks := false }, kinds := [], alts := [], laidByText := true, laidKinds := [.data], laidTests := true, laidLooks := .later }
def CPURunUptoCardSaid : Prop := Claim7.holds Tryd.pinned (.plain (OpenSpec.upto cPURunSpec)) cPURunUptoCard

/-- THE SECOND FORM's CARD OF 'tricklelaw12.CPUSplitsRun'. -/
def cPUSplitsRunUptoCard : Claim7 := { stood := { row := cPUSplitsRunUptoRow, standIns := [], harness := (true, "4508f4b98369958045edda3a9e2ba80430f670cb70db7d4b090c887b5bed01c3"), looks := false }, kinds := [], alts := [], laidByText := true, laidKinds := [.data], laidTests := true, laidLooks := .later }
def CPUSplitsRunUptoCardSaid : Prop := Claim7.holds Tryd.pinned (.plain (OpenSpec.upto cPUSplitsRunSpec)) cPUSplitsRunUptoCard

/-- THE SECOND FORM's CARD OF 'tricklelaw12.CPUFailureChangesNothing'. -/
def cPUFailureChangesNothingUptoCard : Claim7 := { stood := { row := cPUFailureChangesNothingUptoRow, standIns := [], harness := (true, "4508f4b98369958045edda3a9e2ba80430f670cb70db7d4b090c887b5bed01c3"), looks := false }, kinds := [], alts := [], laidByText := true, laidKinds := [.data], laidTests := true, laidLooks := .later }
def CPUFailureChangesNothingUptoCardSaid : Prop := Claim7.holds Tryd.pinned (.plain (OpenSpec.upto cPUFailureChangesNothingSpec)) cPUFailureChangesNothingUptoCard

/-- THE SECOND FORM's CARD OF 'tricklelaw12.CPUSaves'. -/
def cPUSavesUptoCard : Claim7 := { stood := { row := cPUSavesUptoRow, standIns := [], harness := (true, "4508f4b98369958045edda3a9e2ba80430f670cb70db7d4b090c887b5bed01c3"), looks := false }, kinds := [], alts := [], laidByText := true, laidKinds := [.data], laidTests := true, laidLooks := .later }
def CPUSavesUptoCardSaid : Prop := Claim7.holds Tryd.pinned (.plain (OpenSpec.upto cPUSavesSpec)) cPUSavesUptoCard
end Rows
end Go.Proofs.YtleafbihfmiidaaDoor

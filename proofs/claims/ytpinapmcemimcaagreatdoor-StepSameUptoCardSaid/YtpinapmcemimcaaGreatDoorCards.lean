/-
  DERIVED. GIVEN WITH THE SEED: THE CARDS: each row of YtpinapmcemimcaaGreatDoorRows.lean that lists a variable, with what it lists TIED to the program's text (the seventh form; the later family's looks); each row that meets fmt, with fmt's text TOLD by the authors' own Lean function (tested against real Go, not proved from fmt's source: count such statements apart). THE CARD IS WHAT COUNTS. Prove the row's statement (the work); the ties are given (YtpinapmcemimcaaGreatDoorTie.lean); close each card by the builder's one call (the guide's Derived/Test/ToyasCard.lean, 'card_holds'). Laid BY PROGRAM, IN A SANDBOX (cutbox-door.mjs). By AI agents, Wed Nov 11 2026. No macro, syntax, notation, axiom, sorry.
-/
import Derived.Test.YtpinapmcemimcaaGreatDoorRows
import GoSem.ClaimSeven
namespace Go.Proofs.YtpinapmcemimcaaGreatDoor
namespace Rows

/-- THE TIED CARD OF 'patchbaylaw08.StepGates'. -/
def stepGatesCard : Claim7 := { stood := { row := stepGatesRow, standIns := [], harness := (true, "4943b360792255b04c0f028a5679b3a56167503623b43f6736b602fe3e9f8975"), looks := true }, kinds := [], alts := [], laidByText := true, laidKinds := [.data, .mapped, .pinned], laidTests := true, laidLooks := .later }
def StepGatesCardSaid : Prop := Claim7.holds Tryz.pinned (.plain (OpenSpec.ofChange stepGatesSpec)) stepGatesCard

/-- THE TIED CARD OF 'patchbaylaw08.StepTells'. -/
def stepTellsCard : Claim7 := { stood := { row := stepTellsRow, standIns := [], harness := (true, "4943b360792255b04c0f028a5679b3a56167503623b43f6736b602fe3e9f8975"), looks := true }, kinds := [], alts := [], laidByText := true, laidKinds := [.data, .mapped, .pinned], laidTests := true, laidLooks := .later }
def StepTellsCardSaid : Prop := Claim7.holds Tryz.pinned (.plain (OpenSpec.ofChange stepTellsSpec)) stepTellsCard

/-- THE TIED CARD OF 'patchbaylaw08.StepRuns'. -/
def stepRunsCard : Claim7 := { stood := { row := stepRunsRow, standIns := [], harness := (true, "4943b360792255b04c0f028a5679b3a56167503623b43f6736b602fe3e9f8975"), looks := true }, kinds := [], alts := [], laidByText := true, laidKinds := [.data, .mapped, .pinned], laidTests := true, laidLooks := .later }
def StepRunsCardSaid : Prop := Claim7.holds Tryz.pinned (.plain (OpenSpec.ofChange stepRunsSpec)) stepRunsCard

/-- THE TIED CARD OF 'patchbaylaw08.StepSame'. -/
def stepSameCard : Claim7 := { stood := { row := stepSameRow, standIns := [], harness := (true, "4943b360792255b04c0f028a5679b3a56167503623b43f6736b602fe3e9f8975"), looks := true }, kinds := [], alts := [], laidByText := true, laidKinds := [.data, .mapped, .pinned], laidTests := true, laidLooks := .later }
def StepSameCardSaid : Prop := Claim7.holds Tryz.pinned (.plain (OpenSpec.ofChange stepSameSpec)) stepSameCard

/-- THE TIED CARD OF 'patchbaylaw08.StepTurns'. -/
def stepTurnsCard : Claim7 := { stood := { row := stepTurnsRow, standIns := [], harness := (true, "4943b360792255b04c0f028a5679b3a56167503623b43f6736b602fe3e9f8975"), looks := true }, kinds := [], alts := [], laidByText := true, laidKinds := [.data, .mapped, .pinned], laidTests := true, laidLooks := .later }
def StepTurnsCardSaid : Prop := Claim7.holds Tryz.pinned (.plain (OpenSpec.ofChange stepTurnsSpec)) stepTurnsCard

/-- THE SECOND FORM's CARD OF 'patchbaylaw08.StepGates'. -/
def stepGatesUptoCard : Claim7 := { stood := { row := stepGatesUptoRow, standIns := [], harness := (true, "4943b360792255b04c0f028a5679b3a56167503623b43f6736b602fe3e9f8975"), looks := true }, kinds := [], alts := [], laidByText := true, laidKinds := [.data, .mapped, .pinned], laidTests := true, laidLooks := .later }
def StepGatesUptoCardSaid : Prop := Claim7.holds Tryz.pinned (.plain (OpenSpec.upto stepGatesSpec)) stepGatesUptoCard

/-- THE SECOND FORM's CARD OF 'patchbaylaw08.StepTells'. -/
def stepTellsUptoCard : Claim7 := { stood := { row := stepTellsUptoRow, standIns := [], harness := (true, "4943b360792255b04c0f028a5679b3a56167503623b43f6736b602fe3e9f8975"), looks := true }, kinds := [], alts := [], laidByText := true, laidKinds := [.data, .mapped, .pinned], laidTests := true, laidLooks := .later }
def StepTellsUptoCardSaid : Prop := Claim7.holds Tryz.pinned (.plain (OpenSpec.upto stepTellsSpec)) stepTellsUptoCard

/-- THE SECOND FORM's CARD OF 'patchbaylaw08.StepRuns'. -/
def stepRunsUptoCard : Claim7 := { stood := { row := stepRunsUptoRow, standIns := [], harness := (true, "4943b360792255b04c0f028a5679b3a56167503623b43f6736b602fe3e9f8975"), looks := true }, kinds := [], alts := [], laidByText := true, laidKinds := [.data, .mapped, .pinned], laidTests := true, laidLooks := .later }
def StepRunsUptoCardSaid : Prop := Claim7.holds Tryz.pinned (.plain (OpenSpec.upto stepRunsSpec)) stepRunsUptoCard

/-- THE SECOND FORM's CARD OF 'patchbaylaw08.StepSame'. -/
def stepSameUptoCard : Claim7 := { stood := { row := stepSameUptoRow, standIns := [], harness := (true, "4943b360792255b04c0f028a5679b3a56167503623b43f6736b602fe3e9f8975"), looks := true }, kinds := [], alts := [], laidByText := true, laidKinds := [.data, .mapped, .pinned], laidTests := true, laidLooks := .later }
def StepSameUptoCardSaid : Prop := Claim7.holds Tryz.pinned (.plain (OpenSpec.upto stepSameSpec)) stepSameUptoCard

/-- THE SECOND FORM's CARD OF 'patchbaylaw08.StepTurns'. -/
def stepTurnsUptoCard : Claim7 := { stood := { row := stepTurnsUptoRow, standIns := [], harness := (true, "4943b360792255b04c0f028a5679b3a56167503623b43f6736b602fe3e9f8975"), looks := true }, kinds := [], alts := [], laidByText := true, laidKinds := [.data, .mapped, .pinned], laidTests := true, laidLooks := .later }
def StepTurnsUptoCardSaid : Prop := Claim7.holds Tryz.pinned (.plain (OpenSpec.upto stepTurnsSpec)) stepTurnsUptoCard
end Rows
end Go.Proofs.YtpinapmcemimcaaGreatDoor

/-
  DERIVED. GIVEN WITH THE SEED: THE CARDS: each row of YtchjijfjidlpjaaGreatDoorRows.lean that lists a variable, with what it lists TIED to the program's text (the seventh form; the later family's looks); each row that meets fmt, with fmt's text TOLD by the authors' own Lean function (tested against real Go, not proved from fmt's source: count such statements apart). THE CARD IS WHAT COUNTS. Prove the row's statement (the work); the ties are given (YtchjijfjidlpjaaGreatDoorTie.lean); close each card by the builder's one call (the guide's Derived/Test/ToyasCard.lean, 'card_holds'). Laid BY PROGRAM, IN A SANDBOX (cutbox-door.mjs). By AI agents, Wed Nov 11 2026. No macro, syntax, notation, axiom, sorry.
-/
import Derived.Test.YtchjijfjidlpjaaGreatDoorRows
import GoSem.ClaimSeven
namespace Go.Proofs.YtchjijfjidlpjaaGreatDoor
namespace Rows

/-- THE TIED CARD OF 'patchbaylaw12.RaiseTells'. -/
def raiseTellsCard : Claim7 := { stood := { row := raiseTellsRow, standIns := [], harness := (true, "ce49cffe85e7b6954b9fc58c37a2b936f23b4632a736b00720faf706e70b283b"), looks := true }, kinds := [], alts := [], laidByText := true, laidKinds := [.data, .data, .data, .data, .mapped, .pinned], laidTests := true, laidLooks := .later }
def RaiseTellsCardSaid : Prop := Claim7.holds Tryz.pinned (.plain (OpenSpec.ofChange raiseTellsSpec)) raiseTellsCard

/-- THE TIED CARD OF 'patchbaylaw12.RaiseGates'. -/
def raiseGatesCard : Claim7 := { stood := { row := raiseGatesRow, standIns := [], harness := (true, "ce49cffe85e7b6954b9fc58c37a2b936f23b4632a736b00720faf706e70b283b"), looks := true }, kinds := [], alts := [], laidByText := true, laidKinds := [.data, .data, .data, .data, .mapped, .pinned], laidTests := true, laidLooks := .later }
def RaiseGatesCardSaid : Prop := Claim7.holds Tryz.pinned (.plain (OpenSpec.ofChange raiseGatesSpec)) raiseGatesCard

/-- THE TIED CARD OF 'patchbaylaw12.RaiseNames'. -/
def raiseNamesCard : Claim7 := { stood := { row := raiseNamesRow, standIns := [], harness := (true, "ce49cffe85e7b6954b9fc58c37a2b936f23b4632a736b00720faf706e70b283b"), looks := true }, kinds := [], alts := [], laidByText := true, laidKinds := [.data, .data, .data, .data, .mapped, .pinned], laidTests := true, laidLooks := .later }
def RaiseNamesCardSaid : Prop := Claim7.holds Tryz.pinned (.plain (OpenSpec.ofChange raiseNamesSpec)) raiseNamesCard

/-- THE TIED CARD OF 'patchbaylaw12.RaiseBack'. -/
def raiseBackCard : Claim7 := { stood := { row := raiseBackRow, standIns := [], harness := (true, "ce49cffe85e7b6954b9fc58c37a2b936f23b4632a736b00720faf706e70b283b"), looks := true }, kinds := [], alts := [], laidByText := true, laidKinds := [.data, .data, .data, .data, .mapped, .funcs, .pinned], laidTests := true, laidLooks := .later }
def RaiseBackCardSaid : Prop := Claim7.holds Tryz.pinned (.plain (OpenSpec.ofChange raiseBackSpec)) raiseBackCard

/-- THE TIED CARD OF 'patchbaylaw12.RaiseMeans'. -/
def raiseMeansCard : Claim7 := { stood := { row := raiseMeansRow, standIns := [], harness := (true, "ce49cffe85e7b6954b9fc58c37a2b936f23b4632a736b00720faf706e70b283b"), looks := true }, kinds := [], alts := [], laidByText := true, laidKinds := [.data, .data, .data, .data, .mapped, .pinned], laidTests := true, laidLooks := .later }
def RaiseMeansCardSaid : Prop := Claim7.holds Tryz.pinned (.plain (OpenSpec.ofChange raiseMeansSpec)) raiseMeansCard

/-- THE TIED CARD OF 'patchbaylaw12.RaiseLowers'. -/
def raiseLowersCard : Claim7 := { stood := { row := raiseLowersRow, standIns := [], harness := (true, "ce49cffe85e7b6954b9fc58c37a2b936f23b4632a736b00720faf706e70b283b"), looks := true }, kinds := [], alts := [], laidByText := true, laidKinds := [.data, .data, .data, .data, .mapped, .funcs, .pinned], laidTests := true, laidLooks := .later }
def RaiseLowersCardSaid : Prop := Claim7.holds Tryz.pinned (.plain (OpenSpec.ofChange raiseLowersSpec)) raiseLowersCard

/-- THE SECOND FORM's CARD OF 'patchbaylaw12.RaiseTells'. -/
def raiseTellsUptoCard : Claim7 := { stood := { row := raiseTellsUptoRow, standIns := [], harness := (true, "ce49cffe85e7b6954b9fc58c37a2b936f23b4632a736b00720faf706e70b283b"), looks := true }, kinds := [], alts := [], laidByText := true, laidKinds := [.data, .data, .data, .data, .mapped, .pinned], laidTests := true, laidLooks := .later }
def RaiseTellsUptoCardSaid : Prop := Claim7.holds Tryz.pinned (.plain (OpenSpec.upto raiseTellsSpec)) raiseTellsUptoCard

/-- THE SECOND FORM's CARD OF 'patchbaylaw12.RaiseGates'. -/
def raiseGatesUptoCard : Claim7 := { stood := { row := raiseGatesUptoRow, standIns := [], harness := (true, "ce49cffe85e7b6954b9fc58c37a2b936f23b4632a736b00720faf706e70b283b"), looks := true }, kinds := [], alts := [], laidByText := true, laidKinds := [.data, .data, .data, .data, .mapped, .pinned], laidTests := true, laidLooks := .later }
def RaiseGatesUptoCardSaid : Prop := Claim7.holds Tryz.pinned (.plain (OpenSpec.upto raiseGatesSpec)) raiseGatesUptoCard

/-- THE SECOND FORM's CARD OF 'patchbaylaw12.RaiseNames'. -/
def raiseNamesUptoCard : Claim7 := { stood := { row := raiseNamesUptoRow, standIns := [], harness := (true, "ce49cffe85e7b6954b9fc58c37a2b936f23b4632a736b00720faf706e70b283b"), looks := true }, kinds := [], alts := [], laidByText := true, laidKinds := [.data, .data, .data, .data, .mapped, .pinned], laidTests := true, laidLooks := .later }
def RaiseNamesUptoCardSaid : Prop := Claim7.holds Tryz.pinned (.plain (OpenSpec.upto raiseNamesSpec)) raiseNamesUptoCard

/-- THE SECOND FORM's CARD OF 'patchbaylaw12.RaiseBack'. -/
def raiseBackUptoCard : Claim7 := { stood := { row := raiseBackUptoRow, standIns := [], harness := (true, "ce49cffe85e7b6954b9fc58c37a2b936f23b4632a736b00720faf706e70b283b"), looks := true }, kinds := [], alts := [], laidByText := true, laidKinds := [.data, .data, .data, .data, .mapped, .funcs, .pinned], laidTests := true, laidLooks := .later }
def RaiseBackUptoCardSaid : Prop := Claim7.holds Tryz.pinned (.plain (OpenSpec.upto raiseBackSpec)) raiseBackUptoCard

/-- THE SECOND FORM's CARD OF 'patchbaylaw12.RaiseMeans'. -/
def raiseMeansUptoCard : Claim7 := { stood := { row := raiseMeansUptoRow, standIns := [], harness := (true, "ce49cffe85e7b6954b9fc58c37a2b936f23b4632a736b00720faf706e70b283b"), looks := true }, kinds := [], alts := [], laidByText := true, laidKinds := [.data, .data, .data, .data, .mapped, .pinned], laidTests := true, laidLooks := .later }
def RaiseMeansUptoCardSaid : Prop := Claim7.holds Tryz.pinned (.plain (OpenSpec.upto raiseMeansSpec)) raiseMeansUptoCard

/-- THE SECOND FORM's CARD OF 'patchbaylaw12.RaiseLowers'. -/
def raiseLowersUptoCard : Claim7 := { stood := { row := raiseLowersUptoRow, standIns := [], harness := (true, "ce49cffe85e7b6954b9fc58c37a2b936f23b4632a736b00720faf706e70b283b"), looks := true }, kinds := [], alts := [], laidByText := true, laidKinds := [.data, .data, .data, .data, .mapped, .funcs, .pinned], laidTests := true, laidLooks := .later }
def RaiseLowersUptoCardSaid : Prop := Claim7.holds Tryz.pinned (.plain (OpenSpec.upto raiseLowersSpec)) raiseLowersUptoCard
end Rows
end Go.Proofs.YtchjijfjidlpjaaGreatDoor

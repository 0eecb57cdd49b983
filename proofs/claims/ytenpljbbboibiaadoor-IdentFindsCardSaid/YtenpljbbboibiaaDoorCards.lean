/-
  DERIVED. GIVEN WITH THE SEED: THE CARDS: each row of YtenpljbbboibiaaDoorRows.lean that lists a variable, with what it lists TIED to the program's text (the seventh form; the later family's looks); each row that meets fmt, with fmt's text TOLD by the authors' own Lean function (tested against real Go, not proved from fmt's source: count such statements apart). THE CARD IS WHAT COUNTS. Prove the row's statement (the work); the ties are given (YtenpljbbboibiaaDoorTie.lean); close each card by the builder's one call (the guide's Derived/Test/ToyasCard.lean, 'card_holds'). Laid BY PROGRAM, IN A SANDBOX (cutbox-door.mjs). By AI agents, Wed Nov 11 2026. No macro, syntax, notation, axiom, sorry.
-/
import Derived.Test.YtenpljbbboibiaaDoorRows
import GoSem.ClaimSeven
namespace Go.Proofs.YtenpljbbboibiaaDoor
namespace Rows

/-- THE TIED CARD OF 'patchbaylaw04.IdentWords'. -/
def identWordsCard : Claim7 := { stood := { row := identWordsRow, standIns := [], harness := (true, "181f78c31cffd665d7ba94dcdfa928fdc73e3c654b0c079ede5d71b55e99293f"), looks := true }, kinds := [], alts := [], laidByText := true, laidKinds := [.data, .data, .data, .mapped], laidTests := true, laidLooks := .later }
def IdentWordsCardSaid : Prop := Claim7.holds Tryd.pinned (.plain (OpenSpec.ofChange identWordsSpec)) identWordsCard

/-- THE TIED CARD OF 'patchbaylaw04.IdentOnly'. -/
def identOnlyCard : Claim7 := { stood := { row := identOnlyRow, standIns := [], harness := (true, "181f78c31cffd665d7ba94dcdfa928fdc73e3c654b0c079ede5d71b55e99293f"), looks := true }, kinds := [], alts := [], laidByText := true, laidKinds := [.data, .data, .data, .mapped], laidTests := true, laidLooks := .later }
def IdentOnlyCardSaid : Prop := Claim7.holds Tryd.pinned (.plain (OpenSpec.ofChange identOnlySpec)) identOnlyCard

/-- THE TIED CARD OF 'patchbaylaw04.IdentReads'. -/
def identReadsCard : Claim7 := { stood := { row := identReadsRow, standIns := [], harness := (true, "181f78c31cffd665d7ba94dcdfa928fdc73e3c654b0c079ede5d71b55e99293f"), looks := true }, kinds := [], alts := [], laidByText := true, laidKinds := [.data, .data, .data, .mapped], laidTests := true, laidLooks := .later }
def IdentReadsCardSaid : Prop := Claim7.holds Tryd.pinned (.plain (OpenSpec.ofChange identReadsSpec)) identReadsCard

/-- THE TIED CARD OF 'patchbaylaw04.IdentFresh'. -/
def identFreshCard : Claim7 := { stood := { row := identFreshRow, standIns := [], harness := (true, "181f78c31cffd665d7ba94dcdfa928fdc73e3c654b0c079ede5d71b55e99293f"), looks := true }, kinds := [], alts := [], laidByText := true, laidKinds := [.data, .data, .data, .mapped], laidTests := true, laidLooks := .later }
def IdentFreshCardSaid : Prop := Claim7.holds Tryd.pinned (.plain (OpenSpec.ofChange identFreshSpec)) identFreshCard

/-- THE TIED CARD OF 'patchbaylaw04.IdentBack'. -/
def identBackCard : Claim7 := { stood := { row := identBackRow, standIns := [], harness := (true, "181f78c31cffd665d7ba94dcdfa928fdc73e3c654b0c079ede5d71b55e99293f"), looks := true }, kinds := [], alts := [], laidByText := true, laidKinds := [.data, .data, .data, .mapped], laidTests := true, laidLooks := .later }
def IdentBackCardSaid : Prop := Claim7.holds Tryd.pinned (.plain (OpenSpec.ofChange identBackSpec)) identBackCard

/-- THE TIED CARD OF 'patchbaylaw04.IdentFinds'. -/
def identFindsCard : Claim7 := { stood := { row := identFindsRow, standIns := [], harness := (true, "181f78c31cffd665d7ba94dcdfa928fdc73e3c654b0c079ede5d71b55e99293f"), looks := true }, kinds := [], alts := [], laidByText := true, laidKinds := [.data, .data, .data, .mapped], laidTests := true, laidLooks := .later }
def IdentFindsCardSaid : Prop := Claim7.holds Tryd.pinned (.plain (OpenSpec.ofChange identFindsSpec)) identFindsCard

/-- THE SECOND FORM's CARD OF 'patchbaylaw04.IdentWords'. -/
def identWordsUptoCard : Claim7 := { stood := { row := identWordsUptoRow, standIns := [], harness := (true, "181f78c31cffd665d7ba94dcdfa928fdc73e3c654b0c079ede5d71b55e99293f"), looks := true }, kinds := [], alts := [], laidByText := true, laidKinds := [.data, .data, .data, .mapped], laidTests := true, laidLooks := .later }
def IdentWordsUptoCardSaid : Prop := Claim7.holds Tryd.pinned (.plain (OpenSpec.upto identWordsSpec)) identWordsUptoCard

/-- THE SECOND FORM's CARD OF 'patchbaylaw04.IdentOnly'. -/
def identOnlyUptoCard : Claim7 := { stood := { row := identOnlyUptoRow, standIns := [], harness := (true, "181f78c31cffd665d7ba94dcdfa928fdc73e3c654b0c079ede5d71b55e99293f"), looks := true }, kinds := [], alts := [], laidByText := true, laidKinds := [.data, .data, .data, .mapped], laidTests := true, laidLooks := .later }
def IdentOnlyUptoCardSaid : Prop := Claim7.holds Tryd.pinned (.plain (OpenSpec.upto identOnlySpec)) identOnlyUptoCard

/-- THE SECOND FORM's CARD OF 'patchbaylaw04.IdentReads'. -/
def identReadsUptoCard : Claim7 := { stood := { row := identReadsUptoRow, standIns := [], harness := (true, "181f78c31cffd665d7ba94dcdfa928fdc73e3c654b0c079ede5d71b55e99293f"), looks := true }, kinds := [], alts := [], laidByText := true, laidKinds := [.data, .data, .data, .mapped], laidTests := true, laidLooks := .later }
def IdentReadsUptoCardSaid : Prop := Claim7.holds Tryd.pinned (.plain (OpenSpec.upto identReadsSpec)) identReadsUptoCard

/-- THE SECOND FORM's CARD OF 'patchbaylaw04.IdentFresh'. -/
def identFreshUptoCard : Claim7 := { stood := { row := identFreshUptoRow, standIns := [], harness := (true, "181f78c31cffd665d7ba94dcdfa928fdc73e3c654b0c079ede5d71b55e99293f"), looks := true }, kinds := [], alts := [], laidByText := true, laidKinds := [.data, .data, .data, .mapped], laidTests := true, laidLooks := .later }
def IdentFreshUptoCardSaid : Prop := Claim7.holds Tryd.pinned (.plain (OpenSpec.upto identFreshSpec)) identFreshUptoCard

/-- THE SECOND FORM's CARD OF 'patchbaylaw04.IdentBack'. -/
def identBackUptoCard : Claim7 := { stood := { row := identBackUptoRow, standIns := [], harness := (true, "181f78c31cffd665d7ba94dcdfa928fdc73e3c654b0c079ede5d71b55e99293f"), looks := true }, kinds := [], alts := [], laidByText := true, laidKinds := [.data, .data, .data, .mapped], laidTests := true, laidLooks := .later }
def IdentBackUptoCardSaid : Prop := Claim7.holds Tryd.pinned (.plain (OpenSpec.upto identBackSpec)) identBackUptoCard

/-- THE SECOND FORM's CARD OF 'patchbaylaw04.IdentFinds'. -/
def identFindsUptoCard : Claim7 := { stood := { row := identFindsUptoRow, standIns := [], harness := (true, "181f78c31cffd665d7ba94dcdfa928fdc73e3c654b0c079ede5d71b55e99293f"), looks := true }, kinds := [], alts := [], laidByText := true, laidKinds := [.data, .data, .data, .mapped], laidTests := true, laidLooks := .later }
def IdentFindsUptoCardSaid : Prop := Claim7.holds Tryd.pinned (.plain (OpenSpec.upto identFindsSpec)) identFindsUptoCard
end Rows
end Go.Proofs.YtenpljbbboibiaaDoor

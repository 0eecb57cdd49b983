/-
  DERIVED. GIVEN WITH THE SEED: THE CARDS: each row of YthnplnkddbbojaaDoorRows.lean that lists a variable, with what it lists TIED to the program's text (the seventh form; the later family's looks); each row that meets fmt, with fmt's text TOLD by the authors' own Lean function (tested against real Go, not proved from fmt's source: count such statements apart). THE CARD IS WHAT COUNTS. Prove the row's statement (the work); the ties are given (YthnplnkddbbojaaDoorTie.lean); close each card by the builder's one call (the guide's Derived/Test/ToyasCard.lean, 'card_holds'). Laid BY PROGRAM, IN A SANDBOX (cutbox-door.mjs). By AI agents, Wed Nov 11 2026. No macro, syntax, notation, axiom, sorry.
-/
import Derived.Test.YthnplnkddbbojaaDoorRows
import GoSem.ClaimSeven
namespace Go.Proofs.YthnplnkddbbojaaDoor
namespace Rows

/-- THE TIED CARD OF 'patchbaylaw01.SpotPlaces'. -/
def spotPlacesCard : Claim7 := { stood := { row := spotPlacesRow, standIns := [], harness := (true, "82856e279b2396155d862435cc33ecfd798b8dd330e3d163bd4f15517f825e6e"), looks := false }, kinds := [], alts := [], laidByText := true, laidKinds := [.wider], laidTests := true, laidLooks := .later }
def SpotPlacesCardSaid : Prop := Claim7.holds Tryd.pinned (.plain (OpenSpec.ofChange spotPlacesSpec)) spotPlacesCard

/-- THE TIED CARD OF 'patchbaylaw01.SpotLines'. -/
def spotLinesCard : Claim7 := { stood := { row := spotLinesRow, standIns := [], harness := (true, "82856e279b2396155d862435cc33ecfd798b8dd330e3d163bd4f15517f825e6e"), looks := false }, kinds := [], alts := [], laidByText := true, laidKinds := [.wider], laidTests := true, laidLooks := .later }
def SpotLinesCardSaid : Prop := Claim7.holds Tryd.pinned (.plain (OpenSpec.ofChange spotLinesSpec)) spotLinesCard

/-- THE TIED CARD OF 'patchbaylaw01.SpotBack'. -/
def spotBackCard : Claim7 := { stood := { row := spotBackRow, standIns := [], harness := (true, "82856e279b2396155d862435cc33ecfd798b8dd330e3d163bd4f15517f825e6e"), looks := false }, kinds := [], alts := [], laidByText := true, laidKinds := [.wider], laidTests := true, laidLooks := .later }
def SpotBackCardSaid : Prop := Claim7.holds Tryd.pinned (.plain (OpenSpec.ofChange spotBackSpec)) spotBackCard

/-- THE TIED CARD OF 'patchbaylaw01.SpotOrder'. -/
def spotOrderCard : Claim7 := { stood := { row := spotOrderRow, standIns := [], harness := (true, "82856e279b2396155d862435cc33ecfd798b8dd330e3d163bd4f15517f825e6e"), looks := false }, kinds := [], alts := [], laidByText := true, laidKinds := [.wider], laidTests := true, laidLooks := .later }
def SpotOrderCardSaid : Prop := Claim7.holds Tryd.pinned (.plain (OpenSpec.ofChange spotOrderSpec)) spotOrderCard

/-- THE TIED CARD OF 'patchbaylaw01.SpotMoves'. -/
def spotMovesCard : Claim7 := { stood := { row := spotMovesRow, standIns := [], harness := (true, "82856e279b2396155d862435cc33ecfd798b8dd330e3d163bd4f15517f825e6e"), looks := false }, kinds := [], alts := [], laidByText := true, laidKinds := [.wider], laidTests := true, laidLooks := .later }
def SpotMovesCardSaid : Prop := Claim7.holds Tryd.pinned (.plain (OpenSpec.ofChange spotMovesSpec)) spotMovesCard

/-- THE TIED CARD OF 'patchbaylaw01.SpotEnds'. -/
def spotEndsCard : Claim7 := { stood := { row := spotEndsRow, standIns := [], harness := (true, "82856e279b2396155d862435cc33ecfd798b8dd330e3d163bd4f15517f825e6e"), looks := false }, kinds := [], alts := [], laidByText := true, laidKinds := [.wider], laidTests := true, laidLooks := .later }
def SpotEndsCardSaid : Prop := Claim7.holds Tryd.pinned (.plain (OpenSpec.ofChange spotEndsSpec)) spotEndsCard

/-- THE SECOND FORM's CARD OF 'patchbaylaw01.SpotPlaces'. -/
def spotPlacesUptoCard : Claim7 := { stood := { row := spotPlacesUptoRow, standIns := [], harness := (true, "82856e279b2396155d862435cc33ecfd798b8dd330e3d163bd4f15517f825e6e"), looks := false }, kinds := [], alts := [], laidByText := true, laidKinds := [.wider], laidTests := true, laidLooks := .later }
def SpotPlacesUptoCardSaid : Prop := Claim7.holds Tryd.pinned (.plain (OpenSpec.upto spotPlacesSpec)) spotPlacesUptoCard

/-- THE SECOND FORM's CARD OF 'patchbaylaw01.SpotLines'. -/
def spotLinesUptoCard : Claim7 := { stood := { row := spotLinesUptoRow, standIns := [], harness := (true, "82856e279b2396155d862435cc33ecfd798b8dd330e3d163bd4f15517f825e6e"), looks := false }, kinds := [], alts := [], laidByText := true, laidKinds := [.wider], laidTests := true, laidLooks := .later }
def SpotLinesUptoCardSaid : Prop := Claim7.holds Tryd.pinned (.plain (OpenSpec.upto spotLinesSpec)) spotLinesUptoCard

/-- THE SECOND FORM's CARD OF 'patchbaylaw01.SpotBack'. -/
def spotBackUptoCard : Claim7 := { stood := { row := spotBackUptoRow, standIns := [], harness := (true, "82856e279b2396155d862435cc33ecfd798b8dd330e3d163bd4f15517f825e6e"), looks := false }, kinds := [], alts := [], laidByText := true, laidKinds := [.wider], laidTests := true, laidLooks := .later }
def SpotBackUptoCardSaid : Prop := Claim7.holds Tryd.pinned (.plain (OpenSpec.upto spotBackSpec)) spotBackUptoCard

/-- THE SECOND FORM's CARD OF 'patchbaylaw01.SpotOrder'. -/
def spotOrderUptoCard : Claim7 := { stood := { row := spotOrderUptoRow, standIns := [], harness := (true, "82856e279b2396155d862435cc33ecfd798b8dd330e3d163bd4f15517f825e6e"), looks := false }, kinds := [], alts := [], laidByText := true, laidKinds := [.wider], laidTests := true, laidLooks := .later }
def SpotOrderUptoCardSaid : Prop := Claim7.holds Tryd.pinned (.plain (OpenSpec.upto spotOrderSpec)) spotOrderUptoCard

/-- THE SECOND FORM's CARD OF 'patchbaylaw01.SpotMoves'. -/
def spotMovesUptoCard : Claim7 := { stood := { row := spotMovesUptoRow, standIns := [], harness := (true, "82856e279b2396155d862435cc33ecfd798b8dd330e3d163bd4f15517f825e6e"), looks := false }, kinds := [], alts := [], laidByText := true, laidKinds := [.wider], laidTests := true, laidLooks := .later }
def SpotMovesUptoCardSaid : Prop := Claim7.holds Tryd.pinned (.plain (OpenSpec.upto spotMovesSpec)) spotMovesUptoCard

/-- THE SECOND FORM's CARD OF 'patchbaylaw01.SpotEnds'. -/
def spotEndsUptoCard : Claim7 := { stood := { row := spotEndsUptoRow, standIns := [], harness := (true, "82856e279b2396155d862435cc33ecfd798b8dd330e3d163bd4f15517f825e6e"), looks := false }, kinds := [], alts := [], laidByText := true, laidKinds := [.wider], laidTests := true, laidLooks := .later }
def SpotEndsUptoCardSaid : Prop := Claim7.holds Tryd.pinned (.plain (OpenSpec.upto spotEndsSpec)) spotEndsUptoCard
end Rows
end Go.Proofs.YthnplnkddbbojaaDoor

/-
  DERIVED. GIVEN WITH THE SEED: THE CARDS: each row of YtpinapmcemimcaaDoorRows.lean that lists a variable, with what it lists TIED to the program's text (the seventh form; the later family's looks); each row that meets fmt, with fmt's text TOLD by the authors' own Lean function (tested against real Go, not proved from fmt's source: count such statements apart). THE CARD IS WHAT COUNTS. Prove the row's statement (the work); the ties are given (YtpinapmcemimcaaDoorTie.lean); close each card by the builder's one call (the guide's Derived/Test/ToyasCard.lean, 'card_holds'). Laid BY PROGRAM, IN A SANDBOX (cutbox-door.mjs). By AI agents, Wed Nov 11 2026. No macro, syntax, notation, axiom, sorry.
-/
import Derived.Test.YtpinapmcemimcaaDoorRows
import GoSem.ClaimSeven
namespace Go.Proofs.YtpinapmcemimcaaDoor
namespace Rows

/-- THE TIED CARD OF 'patchbaylaw08.StepStarts'. -/
def stepStartsCard : Claim7 := { stood := { row := stepStartsRow, standIns := [], harness := (true, "df904d0f67cbb1458684a2b598d520da63fc39fa537ed1cd7721a4149c83173a"), looks := true }, kinds := [], alts := [], laidByText := true, laidKinds := [.data, .mapped, .pinned], laidTests := true, laidLooks := .later }
def StepStartsCardSaid : Prop := Claim7.holds Tryd.pinned (.plain (OpenSpec.ofChange stepStartsSpec)) stepStartsCard

/-- THE SECOND FORM's CARD OF 'patchbaylaw08.StepStarts'. -/
def stepStartsUptoCard : Claim7 := { stood := { row := stepStartsUptoRow, standIns := [], harness := (true, "df904d0f67cbb1458684a2b598d520da63fc39fa537ed1cd7721a4149c83173a"), looks := true }, kinds := [], alts := [], laidByText := true, laidKinds := [.data, .mapped, .pinned], laidTests := true, laidLooks := .later }
def StepStartsUptoCardSaid : Prop := Claim7.holds Tryd.pinned (.plain (OpenSpec.upto stepStartsSpec)) stepStartsUptoCard
end Rows
end Go.Proofs.YtpinapmcemimcaaDoor

/-
  DERIVED. GIVEN WITH THE SEED: THE CARDS: each row of YtpkngebjapfibaaDoorRows.lean that lists a variable, with what it lists TIED to the program's text (the seventh form; the later family's looks); each row that meets fmt, with fmt's text TOLD by the authors' own Lean function (tested against real Go, not proved from fmt's source: count such statements apart). THE CARD IS WHAT COUNTS. Prove the row's statement (the work); the ties are given (YtpkngebjapfibaaDoorTie.lean); close each card by the builder's one call (the guide's Derived/Test/ToyasCard.lean, 'card_holds'). Laid BY PROGRAM, IN A SANDBOX (cutbox-door.mjs). By AI agents, Wed Nov 11 2026. No macro, syntax, notation, axiom, sorry.
-/
import Derived.Test.YtpkngebjapfibaaDoorRows
import GoSem.ClaimSeven
namespace Go.Proofs.YtpkngebjapfibaaDoor
namespace Rows

/-- THE TIED CARD OF 'patchbaylaw07.OrderTells'. -/
def orderTellsCard : Claim7 := { stood := { row := orderTellsRow, standIns := [], harness := (true, "d6e5ce08249b78fbcdce939096d1c1a2ddc7a137db9078de2c29c2ef08a4b71e"), looks := true }, kinds := [], alts := [], laidByText := true, laidKinds := [.data, .mapped, .pinned], laidTests := true, laidLooks := .later }
def OrderTellsCardSaid : Prop := Claim7.holds Tryd.pinned (.plain (OpenSpec.ofChange orderTellsSpec)) orderTellsCard

/-- THE TIED CARD OF 'patchbaylaw07.OrderCones'. -/
def orderConesCard : Claim7 := { stood := { row := orderConesRow, standIns := [], harness := (true, "d6e5ce08249b78fbcdce939096d1c1a2ddc7a137db9078de2c29c2ef08a4b71e"), looks := true }, kinds := [], alts := [], laidByText := true, laidKinds := [.data, .mapped, .pinned], laidTests := true, laidLooks := .later }
def OrderConesCardSaid : Prop := Claim7.holds Tryd.pinned (.plain (OpenSpec.ofChange orderConesSpec)) orderConesCard

/-- THE TIED CARD OF 'patchbaylaw07.OrderRises'. -/
def orderRisesCard : Claim7 := { stood := { row := orderRisesRow, standIns := [], harness := (true, "d6e5ce08249b78fbcdce939096d1c1a2ddc7a137db9078de2c29c2ef08a4b71e"), looks := true }, kinds := [], alts := [], laidByText := true, laidKinds := [.data, .mapped, .pinned], laidTests := true, laidLooks := .later }
def OrderRisesCardSaid : Prop := Claim7.holds Tryd.pinned (.plain (OpenSpec.ofChange orderRisesSpec)) orderRisesCard

/-- THE TIED CARD OF 'patchbaylaw07.OrderWaits'. -/
def orderWaitsCard : Claim7 := { stood := { row := orderWaitsRow, standIns := [], harness := (true, "d6e5ce08249b78fbcdce939096d1c1a2ddc7a137db9078de2c29c2ef08a4b71e"), looks := true }, kinds := [], alts := [], laidByText := true, laidKinds := [.data, .mapped, .pinned], laidTests := true, laidLooks := .later }
def OrderWaitsCardSaid : Prop := Claim7.holds Tryd.pinned (.plain (OpenSpec.ofChange orderWaitsSpec)) orderWaitsCard

/-- THE TIED CARD OF 'patchbaylaw07.OrderLevels'. -/
def orderLevelsCard : Claim7 := { stood := { row := orderLevelsRow, standIns := [], harness := (true, "d6e5ce08249b78fbcdce939096d1c1a2ddc7a137db9078de2c29c2ef08a4b71e"), looks := true }, kinds := [], alts := [], laidByText := true, laidKinds := [.data, .mapped, .pinned], laidTests := true, laidLooks := .later }
def OrderLevelsCardSaid : Prop := Claim7.holds Tryd.pinned (.plain (OpenSpec.ofChange orderLevelsSpec)) orderLevelsCard

/-- THE TIED CARD OF 'patchbaylaw07.OrderTrims'. -/
def orderTrimsCard : Claim7 := { stood := { row := orderTrimsRow, standIns := [], harness := (true, "d6e5ce08249b78fbcdce939096d1c1a2ddc7a137db9078de2c29c2ef08a4b71e"), looks := true }, kinds := [], alts := [], laidByText := true, laidKinds := [.data, .mapped, .pinned], laidTests := true, laidLooks := .later }
def OrderTrimsCardSaid : Prop := Claim7.holds Tryd.pinned (.plain (OpenSpec.ofChange orderTrimsSpec)) orderTrimsCard

/-- THE SECOND FORM's CARD OF 'patchbaylaw07.OrderTells'. -/
def orderTellsUptoCard : Claim7 := { stood := { row := orderTellsUptoRow, standIns := [], harness := (true, "d6e5ce08249b78fbcdce939096d1c1a2ddc7a137db9078de2c29c2ef08a4b71e"), looks := true }, kinds := [], alts := [], laidByText := true, laidKinds := [.data, .mapped, .pinned], laidTests := true, laidLooks := .later }
def OrderTellsUptoCardSaid : Prop := Claim7.holds Tryd.pinned (.plain (OpenSpec.upto orderTellsSpec)) orderTellsUptoCard

/-- THE SECOND FORM's CARD OF 'patchbaylaw07.OrderCones'. -/
def orderConesUptoCard : Claim7 := { stood := { row := orderConesUptoRow, standIns := [], harness := (true, "d6e5ce08249b78fbcdce939096d1c1a2ddc7a137db9078de2c29c2ef08a4b71e"), looks := true }, kinds := [], alts := [], laidByText := true, laidKinds := [.data, .mapped, .pinned], laidTests := true, laidLooks := .later }
def OrderConesUptoCardSaid : Prop := Claim7.holds Tryd.pinned (.plain (OpenSpec.upto orderConesSpec)) orderConesUptoCard

/-- THE SECOND FORM's CARD OF 'patchbaylaw07.OrderRises'. -/
def orderRisesUptoCard : Claim7 := { stood := { row := orderRisesUptoRow, standIns := [], harness := (true, "d6e5ce08249b78fbcdce939096d1c1a2ddc7a137db9078de2c29c2ef08a4b71e"), looks := true }, kinds := [], alts := [], laidByText := true, laidKinds := [.data, .mapped, .pinned], laidTests := true, laidLooks := .later }
def OrderRisesUptoCardSaid : Prop := Claim7.holds Tryd.pinned (.plain (OpenSpec.upto orderRisesSpec)) orderRisesUptoCard

/-- THE SECOND FORM's CARD OF 'patchbaylaw07.OrderWaits'. -/
def orderWaitsUptoCard : Claim7 := { stood := { row := orderWaitsUptoRow, standIns := [], harness := (true, "d6e5ce08249b78fbcdce939096d1c1a2ddc7a137db9078de2c29c2ef08a4b71e"), looks := true }, kinds := [], alts := [], laidByText := true, laidKinds := [.data, .mapped, .pinned], laidTests := true, laidLooks := .later }
def OrderWaitsUptoCardSaid : Prop := Claim7.holds Tryd.pinned (.plain (OpenSpec.upto orderWaitsSpec)) orderWaitsUptoCard

/-- THE SECOND FORM's CARD OF 'patchbaylaw07.OrderLevels'. -/
def orderLevelsUptoCard : Claim7 := { stood := { row := orderLevelsUptoRow, standIns := [], harness := (true, "d6e5ce08249b78fbcdce939096d1c1a2ddc7a137db9078de2c29c2ef08a4b71e"), looks := true }, kinds := [], alts := [], laidByText := true, laidKinds := [.data, .mapped, .pinned], laidTests := true, laidLooks := .later }
def OrderLevelsUptoCardSaid : Prop := Claim7.holds Tryd.pinned (.plain (OpenSpec.upto orderLevelsSpec)) orderLevelsUptoCard

/-- THE SECOND FORM's CARD OF 'patchbaylaw07.OrderTrims'. -/
def orderTrimsUptoCard : Claim7 := { stood := { row := orderTrimsUptoRow, standIns := [], harness := (true, "d6e5ce08249b78fbcdce939096d1c1a2ddc7a137db9078de2c29c2ef08a4b71e"), looks := true }, kinds := [], alts := [], laidByText := true, laidKinds := [.data, .mapped, .pinned], laidTests := true, laidLooks := .later }
def OrderTrimsUptoCardSaid : Prop := Claim7.holds Tryd.pinned (.plain (OpenSpec.upto orderTrimsSpec)) orderTrimsUptoCard
end Rows
end Go.Proofs.YtpkngebjapfibaaDoor

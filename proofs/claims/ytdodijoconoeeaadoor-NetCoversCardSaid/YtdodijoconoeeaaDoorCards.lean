/-
  DERIVED. GIVEN WITH THE SEED: THE CARDS: each row of YtdodijoconoeeaaDoorRows.lean that lists a variable, with what it lists TIED to the program's text (the seventh form; the later family's looks); each row that meets fmt, with fmt's text TOLD by the authors' own Lean function (tested against real Go, not proved from fmt's source: count such statements apart). THE CARD IS WHAT COUNTS. Prove the row's statement (the work); the ties are given (YtdodijoconoeeaaDoorTie.lean); close each card by the builder's one call (the guide's Derived/Test/ToyasCard.lean, 'card_holds'). Laid BY PROGRAM, IN A SANDBOX (cutbox-door.mjs). By AI agents, Wed Nov 11 2026. No macro, syntax, notation, axiom, sorry.
-/
import Derived.Test.YtdodijoconoeeaaDoorRows
import GoSem.ClaimSeven
namespace Go.Proofs.YtdodijoconoeeaaDoor
namespace Rows

/-- THE TIED CARD OF 'patchbaylaw06.NetChecks'. -/
def netChecksCard : Claim7 := { stood := { row := netChecksRow, standIns := [], harness := (true, "422c80a7d38b1036d9fe099950c43bbcd4f9fc7a497777473878bd31571b0b8d"), looks := true }, kinds := [], alts := [], laidByText := true, laidKinds := [.data, .mapped, .pinned], laidTests := true, laidLooks := .later }
def NetChecksCardSaid : Prop := Claim7.holds Tryd.pinned (.plain (OpenSpec.ofChange netChecksSpec)) netChecksCard

/-- THE TIED CARD OF 'patchbaylaw06.NetCanon'. -/
def netCanonCard : Claim7 := { stood := { row := netCanonRow, standIns := [], harness := (true, "422c80a7d38b1036d9fe099950c43bbcd4f9fc7a497777473878bd31571b0b8d"), looks := true }, kinds := [], alts := [], laidByText := true, laidKinds := [.data, .mapped, .pinned], laidTests := true, laidLooks := .later }
def NetCanonCardSaid : Prop := Claim7.holds Tryd.pinned (.plain (OpenSpec.ofChange netCanonSpec)) netCanonCard

/-- THE TIED CARD OF 'patchbaylaw06.NetCovers'. -/
def netCoversCard : Claim7 := { stood := { row := netCoversRow, standIns := [], harness := (true, "422c80a7d38b1036d9fe099950c43bbcd4f9fc7a497777473878bd31571b0b8d"), looks := true }, kinds := [], alts := [], laidByText := true, laidKinds := [.data, .mapped, .pinned], laidTests := true, laidLooks := .later }
def NetCoversCardSaid : Prop := Claim7.holds Tryd.pinned (.plain (OpenSpec.ofChange netCoversSpec)) netCoversCard

/-- THE TIED CARD OF 'patchbaylaw06.NetNames'. -/
def netNamesCard : Claim7 := { stood := { row := netNamesRow, standIns := [], harness := (true, "422c80a7d38b1036d9fe099950c43bbcd4f9fc7a497777473878bd31571b0b8d"), looks := true }, kinds := [], alts := [], laidByText := true, laidKinds := [.data, .mapped, .pinned], laidTests := true, laidLooks := .later }
def NetNamesCardSaid : Prop := Claim7.holds Tryd.pinned (.plain (OpenSpec.ofChange netNamesSpec)) netNamesCard

/-- THE SECOND FORM's CARD OF 'patchbaylaw06.NetChecks'. -/
def netChecksUptoCard : Claim7 := { stood := { row := netChecksUptoRow, standIns := [], harness := (true, "422c80a7d38b1036d9fe099950c43bbcd4f9fc7a497777473878bd31571b0b8d"), looks := true }, kinds := [], alts := [], laidByText := true, laidKinds := [.data, .mapped, .pinned], laidTests := true, laidLooks := .later }
def NetChecksUptoCardSaid : Prop := Claim7.holds Tryd.pinned (.plain (OpenSpec.upto netChecksSpec)) netChecksUptoCard

/-- THE SECOND FORM's CARD OF 'patchbaylaw06.NetCanon'. -/
def netCanonUptoCard : Claim7 := { stood := { row := netCanonUptoRow, standIns := [], harness := (true, "422c80a7d38b1036d9fe099950c43bbcd4f9fc7a497777473878bd31571b0b8d"), looks := true }, kinds := [], alts := [], laidByText := true, laidKinds := [.data, .mapped, .pinned], laidTests := true, laidLooks := .later }
def NetCanonUptoCardSaid : Prop := Claim7.holds Tryd.pinned (.plain (OpenSpec.upto netCanonSpec)) netCanonUptoCard

/-- THE SECOND FORM's CARD OF 'patchbaylaw06.NetCovers'. -/
def netCoversUptoCard : Claim7 := { stood := { row := netCoversUptoRow, standIns := [], harness := (true, "422c80a7d38b1036d9fe099950c43bbcd4f9fc7a497777473878bd31571b0b8d"), looks := true }, kinds := [], alts := [], laidByText := true, laidKinds := [.data, .mapped, .pinned], laidTests := true, laidLooks := .later }
def NetCoversUptoCardSaid : Prop := Claim7.holds Tryd.pinned (.plain (OpenSpec.upto netCoversSpec)) netCoversUptoCard

/-- THE SECOND FORM's CARD OF 'patchbaylaw06.NetNames'. -/
def netNamesUptoCard : Claim7 := { stood := { row := netNamesUptoRow, standIns := [], harness := (true, "422c80a7d38b1036d9fe099950c43bbcd4f9fc7a497777473878bd31571b0b8d"), looks := true }, kinds := [], alts := [], laidByText := true, laidKinds := [.data, .mapped, .pinned], laidTests := true, laidLooks := .later }
def NetNamesUptoCardSaid : Prop := Claim7.holds Tryd.pinned (.plain (OpenSpec.upto netNamesSpec)) netNamesUptoCard
end Rows
end Go.Proofs.YtdodijoconoeeaaDoor

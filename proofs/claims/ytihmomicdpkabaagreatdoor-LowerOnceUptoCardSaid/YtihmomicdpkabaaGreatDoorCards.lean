/-
  DERIVED. GIVEN WITH THE SEED: THE CARDS: each row of YtihmomicdpkabaaGreatDoorRows.lean that lists a variable, with what it lists TIED to the program's text (the seventh form; the later family's looks); each row that meets fmt, with fmt's text TOLD by the authors' own Lean function (tested against real Go, not proved from fmt's source: count such statements apart). THE CARD IS WHAT COUNTS. Prove the row's statement (the work); the ties are given (YtihmomicdpkabaaGreatDoorTie.lean); close each card by the builder's one call (the guide's Derived/Test/ToyasCard.lean, 'card_holds'). Laid BY PROGRAM, IN A SANDBOX (cutbox-door.mjs). By AI agents, Wed Nov 11 2026. No macro, syntax, notation, axiom, sorry.
-/
import Derived.Test.YtihmomicdpkabaaGreatDoorRows
import GoSem.ClaimSeven
namespace Go.Proofs.YtihmomicdpkabaaGreatDoor
namespace Rows

/-- THE TIED CARD OF 'patchbaylaw11.LowerOnce'. -/
def lowerOnceCard : Claim7 := { stood := { row := lowerOnceRow, standIns := [], harness := (true, "cb177b9a5d13a7777f59585f7cc44e4f1cce33d86d96dc05cc80576d8c919e61"), looks := true }, kinds := [], alts := [], laidByText := true, laidKinds := [.data, .mapped, .funcs, .pinned], laidTests := true, laidLooks := .later }
def LowerOnceCardSaid : Prop := Claim7.holds Tryz.pinned (.plain (OpenSpec.ofChange lowerOnceSpec)) lowerOnceCard

/-- THE TIED CARD OF 'patchbaylaw11.LowerNames'. -/
def lowerNamesCard : Claim7 := { stood := { row := lowerNamesRow, standIns := [], harness := (true, "cb177b9a5d13a7777f59585f7cc44e4f1cce33d86d96dc05cc80576d8c919e61"), looks := true }, kinds := [], alts := [], laidByText := true, laidKinds := [.data, .mapped, .funcs, .pinned], laidTests := true, laidLooks := .later }
def LowerNamesCardSaid : Prop := Claim7.holds Tryz.pinned (.plain (OpenSpec.ofChange lowerNamesSpec)) lowerNamesCard

/-- THE TIED CARD OF 'patchbaylaw11.LowerMeans'. -/
def lowerMeansCard : Claim7 := { stood := { row := lowerMeansRow, standIns := [], harness := (true, "cb177b9a5d13a7777f59585f7cc44e4f1cce33d86d96dc05cc80576d8c919e61"), looks := true }, kinds := [], alts := [], laidByText := true, laidKinds := [.data, .mapped, .funcs, .pinned], laidTests := true, laidLooks := .later }
def LowerMeansCardSaid : Prop := Claim7.holds Tryz.pinned (.plain (OpenSpec.ofChange lowerMeansSpec)) lowerMeansCard

/-- THE TIED CARD OF 'patchbaylaw11.LowerRuns'. -/
def lowerRunsCard : Claim7 := { stood := { row := lowerRunsRow, standIns := [], harness := (true, "cb177b9a5d13a7777f59585f7cc44e4f1cce33d86d96dc05cc80576d8c919e61"), looks := true }, kinds := [], alts := [], laidByText := true, laidKinds := [.data, .mapped, .funcs, .pinned], laidTests := true, laidLooks := .later }
def LowerRunsCardSaid : Prop := Claim7.holds Tryz.pinned (.plain (OpenSpec.ofChange lowerRunsSpec)) lowerRunsCard

/-- THE SECOND FORM's CARD OF 'patchbaylaw11.LowerOnce'. -/
def lowerOnceUptoCard : Claim7 := { stood := { row := lowerOnceUptoRow, standIns := [], harness := (true, "cb177b9a5d13a7777f59585f7cc44e4f1cce33d86d96dc05cc80576d8c919e61"), looks := true }, kinds := [], alts := [], laidByText := true, laidKinds := [.data, .mapped, .funcs, .pinned], laidTests := true, laidLooks := .later }
def LowerOnceUptoCardSaid : Prop := Claim7.holds Tryz.pinned (.plain (OpenSpec.upto lowerOnceSpec)) lowerOnceUptoCard

/-- THE SECOND FORM's CARD OF 'patchbaylaw11.LowerNames'. -/
def lowerNamesUptoCard : Claim7 := { stood := { row := lowerNamesUptoRow, standIns := [], harness := (true, "cb177b9a5d13a7777f59585f7cc44e4f1cce33d86d96dc05cc80576d8c919e61"), looks := true }, kinds := [], alts := [], laidByText := true, laidKinds := [.data, .mapped, .funcs, .pinned], laidTests := true, laidLooks := .later }
def LowerNamesUptoCardSaid : Prop := Claim7.holds Tryz.pinned (.plain (OpenSpec.upto lowerNamesSpec)) lowerNamesUptoCard

/-- THE SECOND FORM's CARD OF 'patchbaylaw11.LowerMeans'. -/
def lowerMeansUptoCard : Claim7 := { stood := { row := lowerMeansUptoRow, standIns := [], harness := (true, "cb177b9a5d13a7777f59585f7cc44e4f1cce33d86d96dc05cc80576d8c919e61"), looks := true }, kinds := [], alts := [], laidByText := true, laidKinds := [.data, .mapped, .funcs, .pinned], laidTests := true, laidLooks := .later }
def LowerMeansUptoCardSaid : Prop := Claim7.holds Tryz.pinned (.plain (OpenSpec.upto lowerMeansSpec)) lowerMeansUptoCard

/-- THE SECOND FORM's CARD OF 'patchbaylaw11.LowerRuns'. -/
def lowerRunsUptoCard : Claim7 := { stood := { row := lowerRunsUptoRow, standIns := [], harness := (true, "cb177b9a5d13a7777f59585f7cc44e4f1cce33d86d96dc05cc80576d8c919e61"), looks := true }, kinds := [], alts := [], laidByText := true, laidKinds := [.data, .mapped, .funcs, .pinned], laidTests := true, laidLooks := .later }
def LowerRunsUptoCardSaid : Prop := Claim7.holds Tryz.pinned (.plain (OpenSpec.upto lowerRunsSpec)) lowerRunsUptoCard
end Rows
end Go.Proofs.YtihmomicdpkabaaGreatDoor

/-
  NARROWER THAN 'FOR EVERY INPUT', by the rows' own cells (each row's printed sentence says how): SpotPlaces: laid · SpotLines: laid · SpotBack: laid · SpotOrder: laid · SpotMoves: laid · SpotEnds: laid.
  DERIVED. THE GIVEN ROWS OF THIS SEAT. 6 by the template 'for every input the law returns true; each argument reads behind the call as it read before'; 0 by the template 'total and deterministic' (their statements: YthnplnkddbbojaaDoorTotals.lean).
  GIVEN WITH THE SEED: the statements are not yours to turn. If you find one false, say at which input.
  Laid BY PROGRAM, IN A SANDBOX (cutbox-rows.mjs): the forced cells as the released guide's own fill.sh prints them over the translation 0ca2975ceae0ff99… (all of the seat's roots in one cut). By AI agents, Wed Nov 11 2026. No macro, syntax, notation, axiom, sorry.
-/
import Derived.Test.YthnplnkddbbojaaDoorChecked
import GoSem.Claim
import GoSem.ClaimJoined
import GoSem.ClaimMapViews
import Derived.JoinedTies
import Derived.KernelRfl
namespace Go.Proofs.YthnplnkddbbojaaDoor
/- THE CELL 'sum', in the pinned program and in every row, IS THE sha256 OF THE DUMP (.gsa) THAT YthnplnkddbbojaaDoorProg.lean LOADS. Nothing in Lean hashes anything: it is a label: what it is worth is what the hold of that sum in a sandbox is worth. -/
noncomputable def Tryd.pinned : Pinned := { name := "ythnplnkddbbojaadoor", sum := "0ca2975ceae0ff999472f15b0c5589cc2d98ddc32b6594326129484c961fbd0e", checked := Tryd.checked }
namespace Rows
def none {H : Type} : Left H := { results := [], args := [] }

/- WHAT THE LISTED PACKAGE-LEVEL VARIABLES READ AS WHEN THE CALL BEGINS. Each datum BY PROGRAM (the guide's laid-datum.mjs) off the statement by which the dump's own 'gosem.cut.vars' lays the variable. In a bare row this is a premise. The card (YthnplnkddbbojaaDoorCards.lean) ties it to the program's text. -/
def laid_patchbay_spot_start {H : Type} : DataW H := .agg [.lit (.int .i64 1), .lit (.int .i64 1)]

/-- 'patchbaylaw01.SpotPlaces': WHATEVER THE INPUT: true; the input reads as it did. -/
def spotPlacesSpec : ChangeSpec := { name := "spotPlaces", fn := fun _ => fun
  | [d1, d2, d3, d4, d5] => { results := [.lit (.bool true)], args := [d1, d2, d3, d4, d5] }
  | _ => none }
def spotPlacesRow : OpenClaim := { program := "ythnplnkddbbojaadoor", sum := "0ca2975ceae0ff999472f15b0c5589cc2d98ddc32b6594326129484c961fbd0e", func := "patchbay/patchbaylaw01.SpotPlaces", spec := "spotPlaces", inPlace := ["internal/bytealg.CountString", "internal/bytealg.IndexByteString", "internal/bytealg.IndexString"], unfollowed := true, recurses := true, named := ["patchbay/spot.start", "internal/bytealg.MaxLen"], apart := false, laid := [("patchbay/spot.start", laid_patchbay_spot_start)] }
def SpotPlacesSaid : Prop := spotPlacesRow.holds Tryd.pinned (OpenSpec.ofChange spotPlacesSpec)

/-- ITS FALSE NEIGHBOUR: 'it returns false'. Refute it at one input. -/
def spotPlacesWrong : ChangeSpec := { name := "spotPlaces", fn := fun _ => fun
  | [d1, d2, d3, d4, d5] => { results := [.lit (.bool false)], args := [d1, d2, d3, d4, d5] }
  | _ => none }
def SpotPlacesWrongFalsely : Prop := spotPlacesRow.holds Tryd.pinned (OpenSpec.ofChange spotPlacesWrong)

/-- 'patchbaylaw01.SpotLines': WHATEVER THE INPUT: true; the input reads as it did. -/
def spotLinesSpec : ChangeSpec := { name := "spotLines", fn := fun _ => fun
  | [d] => { results := [.lit (.bool true)], args := [d] }
  | _ => none }
def spotLinesRow : OpenClaim := { program := "ythnplnkddbbojaadoor", sum := "0ca2975ceae0ff999472f15b0c5589cc2d98ddc32b6594326129484c961fbd0e", func := "patchbay/patchbaylaw01.SpotLines", spec := "spotLines", inPlace := ["internal/bytealg.CountString", "internal/bytealg.IndexByteString", "internal/bytealg.IndexString"], unfollowed := true, recurses := true, named := ["patchbay/spot.start", "internal/bytealg.MaxLen"], apart := false, laid := [("patchbay/spot.start", laid_patchbay_spot_start)] }
def SpotLinesSaid : Prop := spotLinesRow.holds Tryd.pinned (OpenSpec.ofChange spotLinesSpec)

/-- ITS FALSE NEIGHBOUR: 'it returns false'. Refute it at one input. -/
def spotLinesWrong : ChangeSpec := { name := "spotLines", fn := fun _ => fun
  | [d] => { results := [.lit (.bool false)], args := [d] }
  | _ => none }
def SpotLinesWrongFalsely : Prop := spotLinesRow.holds Tryd.pinned (OpenSpec.ofChange spotLinesWrong)

/-- 'patchbaylaw01.SpotBack': WHATEVER THE INPUT: true; the input reads as it did. -/
def spotBackSpec : ChangeSpec := { name := "spotBack", fn := fun _ => fun
  | [d1, d2] => { results := [.lit (.bool true)], args := [d1, d2] }
  | _ => none }
def spotBackRow : OpenClaim := { program := "ythnplnkddbbojaadoor", sum := "0ca2975ceae0ff999472f15b0c5589cc2d98ddc32b6594326129484c961fbd0e", func := "patchbay/patchbaylaw01.SpotBack", spec := "spotBack", inPlace := ["internal/bytealg.CountString", "internal/bytealg.IndexByteString", "internal/bytealg.IndexString"], unfollowed := true, recurses := true, named := ["patchbay/spot.start", "internal/bytealg.MaxLen"], apart := false, laid := [("patchbay/spot.start", laid_patchbay_spot_start)] }
def SpotBackSaid : Prop := spotBackRow.holds Tryd.pinned (OpenSpec.ofChange spotBackSpec)

/-- ITS FALSE NEIGHBOUR: 'it returns false'. Refute it at one input. -/
def spotBackWrong : ChangeSpec := { name := "spotBack", fn := fun _ => fun
  | [d1, d2] => { results := [.lit (.bool false)], args := [d1, d2] }
  | _ => none }
def SpotBackWrongFalsely : Prop := spotBackRow.holds Tryd.pinned (OpenSpec.ofChange spotBackWrong)

/-- 'patchbaylaw01.SpotOrder': WHATEVER THE INPUT: true; the input reads as it did. -/
def spotOrderSpec : ChangeSpec := { name := "spotOrder", fn := fun _ => fun
  | [d1, d2, d3] => { results := [.lit (.bool true)], args := [d1, d2, d3] }
  | _ => none }
def spotOrderRow : OpenClaim := { program := "ythnplnkddbbojaadoor", sum := "0ca2975ceae0ff999472f15b0c5589cc2d98ddc32b6594326129484c961fbd0e", func := "patchbay/patchbaylaw01.SpotOrder", spec := "spotOrder", inPlace := ["internal/bytealg.CountString", "internal/bytealg.IndexByteString", "internal/bytealg.IndexString"], unfollowed := true, recurses := true, named := ["patchbay/spot.start", "internal/bytealg.MaxLen"], apart := false, laid := [("patchbay/spot.start", laid_patchbay_spot_start)] }
def SpotOrderSaid : Prop := spotOrderRow.holds Tryd.pinned (OpenSpec.ofChange spotOrderSpec)

/-- ITS FALSE NEIGHBOUR: 'it returns false'. Refute it at one input. -/
def spotOrderWrong : ChangeSpec := { name := "spotOrder", fn := fun _ => fun
  | [d1, d2, d3] => { results := [.lit (.bool false)], args := [d1, d2, d3] }
  | _ => none }
def SpotOrderWrongFalsely : Prop := spotOrderRow.holds Tryd.pinned (OpenSpec.ofChange spotOrderWrong)

/-- 'patchbaylaw01.SpotMoves': WHATEVER THE INPUT: true; the input reads as it did. -/
def spotMovesSpec : ChangeSpec := { name := "spotMoves", fn := fun _ => fun
  | [d1, d2, d3, d4] => { results := [.lit (.bool true)], args := [d1, d2, d3, d4] }
  | _ => none }
def spotMovesRow : OpenClaim := { program := "ythnplnkddbbojaadoor", sum := "0ca2975ceae0ff999472f15b0c5589cc2d98ddc32b6594326129484c961fbd0e", func := "patchbay/patchbaylaw01.SpotMoves", spec := "spotMoves", inPlace := ["internal/bytealg.CountString", "internal/bytealg.IndexByteString", "internal/bytealg.IndexString"], unfollowed := true, recurses := true, named := ["patchbay/spot.start", "internal/bytealg.MaxLen"], apart := false, laid := [("patchbay/spot.start", laid_patchbay_spot_start)] }
def SpotMovesSaid : Prop := spotMovesRow.holds Tryd.pinned (OpenSpec.ofChange spotMovesSpec)

/-- ITS FALSE NEIGHBOUR: 'it returns false'. Refute it at one input. -/
def spotMovesWrong : ChangeSpec := { name := "spotMoves", fn := fun _ => fun
  | [d1, d2, d3, d4] => { results := [.lit (.bool false)], args := [d1, d2, d3, d4] }
  | _ => none }
def SpotMovesWrongFalsely : Prop := spotMovesRow.holds Tryd.pinned (OpenSpec.ofChange spotMovesWrong)

/-- 'patchbaylaw01.SpotEnds': WHATEVER THE INPUT: true; the input reads as it did. -/
def spotEndsSpec : ChangeSpec := { name := "spotEnds", fn := fun _ => fun
  | [d1, d2, d3] => { results := [.lit (.bool true)], args := [d1, d2, d3] }
  | _ => none }
def spotEndsRow : OpenClaim := { program := "ythnplnkddbbojaadoor", sum := "0ca2975ceae0ff999472f15b0c5589cc2d98ddc32b6594326129484c961fbd0e", func := "patchbay/patchbaylaw01.SpotEnds", spec := "spotEnds", inPlace := ["internal/bytealg.CountString", "internal/bytealg.IndexByteString", "internal/bytealg.IndexString"], unfollowed := true, recurses := true, named := ["patchbay/spot.start", "internal/bytealg.MaxLen"], apart := false, laid := [("patchbay/spot.start", laid_patchbay_spot_start)] }
def SpotEndsSaid : Prop := spotEndsRow.holds Tryd.pinned (OpenSpec.ofChange spotEndsSpec)

/-- ITS FALSE NEIGHBOUR: 'it returns false'. Refute it at one input. -/
def spotEndsWrong : ChangeSpec := { name := "spotEnds", fn := fun _ => fun
  | [d1, d2, d3] => { results := [.lit (.bool false)], args := [d1, d2, d3] }
  | _ => none }
def SpotEndsWrongFalsely : Prop := spotEndsRow.holds Tryd.pinned (OpenSpec.ofChange spotEndsWrong)

/- THE SECOND FORM. 'bulk': how many values and letters a reading holds, each counted each time it is reached (what is shared counts as often as it is met; a slice's spare places count too). A statement '..UptoSaid' is the law's where the arguments, and the package variables that the reading takes, are together of bulk at most 1048576: NARROWER than '..Said'. Prove '..Said' where nothing that the law and all that it calls make is longer than what came in: it says more and counts as full. Else prove '..UptoSaid'. A law counts once. -/
mutual
def uptoBulk {H : Type} : DataW H → Nat
  | .lit (.string bytes) => bytes.length + 1
  | .lit _ => 1
  | .nil => 1
  | .ptr d => uptoBulk d + 1
  | .slice elems spare => uptoBulkAll elems + uptoBulkAll spare + 1
  | .agg parts => uptoBulkAll parts + 1
  | .iface _ d => uptoBulk d + 1
  | .map entries => uptoBulkEntries entries + 1
  | .held _ => 1
def uptoBulkAll {H : Type} : List (DataW H) → Nat
  | [] => 0
  | d :: r => uptoBulk d + uptoBulkAll r
def uptoBulkEntries {H : Type} : List (Lit × DataW H) → Nat
  | [] => 0
  | x :: r => uptoBulkEntry x + uptoBulkEntries r
def uptoBulkEntry {H : Type} : Lit × DataW H → Nat
  | (.string bytes, d) => bytes.length + uptoBulk d + 1
  | (_, d) => uptoBulk d + 1
 end
def uptoSmall : (H : Type) → List (DataW H) → Bool := fun _ ds => decide (uptoBulkAll ds ≤ 1048576)
def OpenSpec.upto (s : _root_.Go.ChangeSpec) : _root_.Go.OpenSpec := { _root_.Go.OpenSpec.ofChange s with cond := some uptoSmall }

/-- 'patchbaylaw01.SpotPlaces', WHERE WHAT IT READS IS OF BULK AT MOST 1048576: true; the input reads as it did. -/
def spotPlacesUptoRow : OpenClaim := { program := "ythnplnkddbbojaadoor", sum := "0ca2975ceae0ff999472f15b0c5589cc2d98ddc32b6594326129484c961fbd0e", func := "patchbay/patchbaylaw01.SpotPlaces", spec := "spotPlaces", inPlace := ["internal/bytealg.CountString", "internal/bytealg.IndexByteString", "internal/bytealg.IndexString"], unfollowed := true, recurses := true, named := ["patchbay/spot.start", "internal/bytealg.MaxLen"], apart := false, laid := [("patchbay/spot.start", laid_patchbay_spot_start)], narrowed := true }
def SpotPlacesUptoSaid : Prop := spotPlacesUptoRow.holds Tryd.pinned (OpenSpec.upto spotPlacesSpec)

/-- 'patchbaylaw01.SpotLines', WHERE WHAT IT READS IS OF BULK AT MOST 1048576: true; the input reads as it did. -/
def spotLinesUptoRow : OpenClaim := { program := "ythnplnkddbbojaadoor", sum := "0ca2975ceae0ff999472f15b0c5589cc2d98ddc32b6594326129484c961fbd0e", func := "patchbay/patchbaylaw01.SpotLines", spec := "spotLines", inPlace := ["internal/bytealg.CountString", "internal/bytealg.IndexByteString", "internal/bytealg.IndexString"], unfollowed := true, recurses := true, named := ["patchbay/spot.start", "internal/bytealg.MaxLen"], apart := false, laid := [("patchbay/spot.start", laid_patchbay_spot_start)], narrowed := true }
def SpotLinesUptoSaid : Prop := spotLinesUptoRow.holds Tryd.pinned (OpenSpec.upto spotLinesSpec)

/-- 'patchbaylaw01.SpotBack', WHERE WHAT IT READS IS OF BULK AT MOST 1048576: true; the input reads as it did. -/
def spotBackUptoRow : OpenClaim := { program := "ythnplnkddbbojaadoor", sum := "0ca2975ceae0ff999472f15b0c5589cc2d98ddc32b6594326129484c961fbd0e", func := "patchbay/patchbaylaw01.SpotBack", spec := "spotBack", inPlace := ["internal/bytealg.CountString", "internal/bytealg.IndexByteString", "internal/bytealg.IndexString"], unfollowed := true, recurses := true, named := ["patchbay/spot.start", "internal/bytealg.MaxLen"], apart := false, laid := [("patchbay/spot.start", laid_patchbay_spot_start)], narrowed := true }
def SpotBackUptoSaid : Prop := spotBackUptoRow.holds Tryd.pinned (OpenSpec.upto spotBackSpec)

/-- 'patchbaylaw01.SpotOrder', WHERE WHAT IT READS IS OF BULK AT MOST 1048576: true; the input reads as it did. -/
def spotOrderUptoRow : OpenClaim := { program := "ythnplnkddbbojaadoor", sum := "0ca2975ceae0ff999472f15b0c5589cc2d98ddc32b6594326129484c961fbd0e", func := "patchbay/patchbaylaw01.SpotOrder", spec := "spotOrder", inPlace := ["internal/bytealg.CountString", "internal/bytealg.IndexByteString", "internal/bytealg.IndexString"], unfollowed := true, recurses := true, named := ["patchbay/spot.start", "internal/bytealg.MaxLen"], apart := false, laid := [("patchbay/spot.start", laid_patchbay_spot_start)], narrowed := true }
def SpotOrderUptoSaid : Prop := spotOrderUptoRow.holds Tryd.pinned (OpenSpec.upto spotOrderSpec)

/-- 'patchbaylaw01.SpotMoves', WHERE WHAT IT READS IS OF BULK AT MOST 1048576: true; the input reads as it did. -/
def spotMovesUptoRow : OpenClaim := { program := "ythnplnkddbbojaadoor", sum := "0ca2975ceae0ff999472f15b0c5589cc2d98ddc32b6594326129484c961fbd0e", func := "patchbay/patchbaylaw01.SpotMoves", spec := "spotMoves", inPlace := ["internal/bytealg.CountString", "internal/bytealg.IndexByteString", "internal/bytealg.IndexString"], unfollowed := true, recurses := true, named := ["patchbay/spot.start", "internal/bytealg.MaxLen"], apart := false, laid := [("patchbay/spot.start", laid_patchbay_spot_start)], narrowed := true }
def SpotMovesUptoSaid : Prop := spotMovesUptoRow.holds Tryd.pinned (OpenSpec.upto spotMovesSpec)

/-- 'patchbaylaw01.SpotEnds', WHERE WHAT IT READS IS OF BULK AT MOST 1048576: true; the input reads as it did. -/
def spotEndsUptoRow : OpenClaim := { program := "ythnplnkddbbojaadoor", sum := "0ca2975ceae0ff999472f15b0c5589cc2d98ddc32b6594326129484c961fbd0e", func := "patchbay/patchbaylaw01.SpotEnds", spec := "spotEnds", inPlace := ["internal/bytealg.CountString", "internal/bytealg.IndexByteString", "internal/bytealg.IndexString"], unfollowed := true, recurses := true, named := ["patchbay/spot.start", "internal/bytealg.MaxLen"], apart := false, laid := [("patchbay/spot.start", laid_patchbay_spot_start)], narrowed := true }
def SpotEndsUptoSaid : Prop := spotEndsUptoRow.holds Tryd.pinned (OpenSpec.upto spotEndsSpec)

end Rows
end Go.Proofs.YthnplnkddbbojaaDoor

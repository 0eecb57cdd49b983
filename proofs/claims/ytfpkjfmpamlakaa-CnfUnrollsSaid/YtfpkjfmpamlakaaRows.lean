/-
  No cell of these rows narrows 'for every input' (looked for: loops, veiled, ifaces, maps, wideKeys, modest, calm, conditions, laid).
  DERIVED. THE GIVEN ROWS OF THIS SEAT. 6 by the template 'for every input the law returns true; each argument reads behind the call as it read before'; 0 by the template 'total and deterministic' (their statements: YtfpkjfmpamlakaaTotals.lean).
  GIVEN WITH THE SEED: the statements are not yours to turn. If you find one false, say at which input.
  Laid BY PROGRAM, IN A SANDBOX (cutbox-rows.mjs): the forced cells as the released guide's own fill.sh prints them over the translation ecb1253968914148… (all of the seat's roots in one cut). By AI agents, Wed Nov 11 2026. No macro, syntax, notation, axiom, sorry.
-/
import Derived.Test.YtfpkjfmpamlakaaChecked
import GoSem.Claim
import GoSem.ClaimJoined
import GoSem.ClaimMapViews
import Derived.JoinedTies
import Derived.KernelRfl
namespace Go.Proofs.Ytfpkjfmpamlakaa
/- THE CELL 'sum', in the pinned program and in every row, IS THE sha256 OF THE DUMP (.gsa) THAT YtfpkjfmpamlakaaProg.lean LOADS. Nothing in Lean hashes anything: it is a label: what it is worth is what the hold of that sum in a sandbox is worth. -/
noncomputable def Try.pinned : Pinned := { name := "ytfpkjfmpamlakaa", sum := "ecb125396891414881fd8598fb3f761e858c8528fec0fd1f4f1eea99cc9c3d9b", checked := Try.checked }
namespace Rows
def none {H : Type} : Left H := { results := [], args := [] }

/-- 'patchbaylaw19.CnfTells': WHATEVER THE INPUT: true; the input reads as it did. -/
def cnfTellsSpec : ChangeSpec := { name := "cnfTells", fn := fun _ => fun
  | [d1, d2, d3, d4, d5, d6, d7] => { results := [.lit (.bool true)], args := [d1, d2, d3, d4, d5, d6, d7] }
  | _ => none }
def cnfTellsRow : OpenClaim := { program := "ytfpkjfmpamlakaa", sum := "ecb125396891414881fd8598fb3f761e858c8528fec0fd1f4f1eea99cc9c3d9b", func := "patchbay/patchbaylaw19.CnfTells", spec := "cnfTells", unfollowed := true, recurses := true, apart := false }
def CnfTellsSaid : Prop := cnfTellsRow.holds Try.pinned (OpenSpec.ofChange cnfTellsSpec)

/-- ITS FALSE NEIGHBOUR: 'it returns false'. Refute it at one input. -/
def cnfTellsWrong : ChangeSpec := { name := "cnfTells", fn := fun _ => fun
  | [d1, d2, d3, d4, d5, d6, d7] => { results := [.lit (.bool false)], args := [d1, d2, d3, d4, d5, d6, d7] }
  | _ => none }
def CnfTellsWrongFalsely : Prop := cnfTellsRow.holds Try.pinned (OpenSpec.ofChange cnfTellsWrong)

/-- 'patchbaylaw19.CnfUnrolls': WHATEVER THE INPUT: true; the input reads as it did. -/
def cnfUnrollsSpec : ChangeSpec := { name := "cnfUnrolls", fn := fun _ => fun
  | [d1, d2, d3, d4, d5] => { results := [.lit (.bool true)], args := [d1, d2, d3, d4, d5] }
  | _ => none }
def cnfUnrollsRow : OpenClaim := { program := "ytfpkjfmpamlakaa", sum := "ecb125396891414881fd8598fb3f761e858c8528fec0fd1f4f1eea99cc9c3d9b", func := "patchbay/patchbaylaw19.CnfUnrolls", spec := "cnfUnrolls", unfollowed := true, recurses := true, apart := false }
def CnfUnrollsSaid : Prop := cnfUnrollsRow.holds Try.pinned (OpenSpec.ofChange cnfUnrollsSpec)

/-- ITS FALSE NEIGHBOUR: 'it returns false'. Refute it at one input. -/
def cnfUnrollsWrong : ChangeSpec := { name := "cnfUnrolls", fn := fun _ => fun
  | [d1, d2, d3, d4, d5] => { results := [.lit (.bool false)], args := [d1, d2, d3, d4, d5] }
  | _ => none }
def CnfUnrollsWrongFalsely : Prop := cnfUnrollsRow.holds Try.pinned (OpenSpec.ofChange cnfUnrollsWrong)

/-- 'patchbaylaw19.CnfRuns': WHATEVER THE INPUT: true; the input reads as it did. -/
def cnfRunsSpec : ChangeSpec := { name := "cnfRuns", fn := fun _ => fun
  | [d1, d2, d3, d4] => { results := [.lit (.bool true)], args := [d1, d2, d3, d4] }
  | _ => none }
def cnfRunsRow : OpenClaim := { program := "ytfpkjfmpamlakaa", sum := "ecb125396891414881fd8598fb3f761e858c8528fec0fd1f4f1eea99cc9c3d9b", func := "patchbay/patchbaylaw19.CnfRuns", spec := "cnfRuns", unfollowed := true, recurses := true, apart := false }
def CnfRunsSaid : Prop := cnfRunsRow.holds Try.pinned (OpenSpec.ofChange cnfRunsSpec)

/-- ITS FALSE NEIGHBOUR: 'it returns false'. Refute it at one input. -/
def cnfRunsWrong : ChangeSpec := { name := "cnfRuns", fn := fun _ => fun
  | [d1, d2, d3, d4] => { results := [.lit (.bool false)], args := [d1, d2, d3, d4] }
  | _ => none }
def CnfRunsWrongFalsely : Prop := cnfRunsRow.holds Try.pinned (OpenSpec.ofChange cnfRunsWrong)

/-- 'patchbaylaw19.CnfOnly': WHATEVER THE INPUT: true; the input reads as it did. -/
def cnfOnlySpec : ChangeSpec := { name := "cnfOnly", fn := fun _ => fun
  | [d1, d2, d3, d4] => { results := [.lit (.bool true)], args := [d1, d2, d3, d4] }
  | _ => none }
def cnfOnlyRow : OpenClaim := { program := "ytfpkjfmpamlakaa", sum := "ecb125396891414881fd8598fb3f761e858c8528fec0fd1f4f1eea99cc9c3d9b", func := "patchbay/patchbaylaw19.CnfOnly", spec := "cnfOnly", unfollowed := true, recurses := true, apart := false }
def CnfOnlySaid : Prop := cnfOnlyRow.holds Try.pinned (OpenSpec.ofChange cnfOnlySpec)

/-- ITS FALSE NEIGHBOUR: 'it returns false'. Refute it at one input. -/
def cnfOnlyWrong : ChangeSpec := { name := "cnfOnly", fn := fun _ => fun
  | [d1, d2, d3, d4] => { results := [.lit (.bool false)], args := [d1, d2, d3, d4] }
  | _ => none }
def CnfOnlyWrongFalsely : Prop := cnfOnlyRow.holds Try.pinned (OpenSpec.ofChange cnfOnlyWrong)

/-- 'patchbaylaw19.CnfSizes': WHATEVER THE INPUT: true; the input reads as it did. -/
def cnfSizesSpec : ChangeSpec := { name := "cnfSizes", fn := fun _ => fun
  | [d1, d2, d3] => { results := [.lit (.bool true)], args := [d1, d2, d3] }
  | _ => none }
def cnfSizesRow : OpenClaim := { program := "ytfpkjfmpamlakaa", sum := "ecb125396891414881fd8598fb3f761e858c8528fec0fd1f4f1eea99cc9c3d9b", func := "patchbay/patchbaylaw19.CnfSizes", spec := "cnfSizes", unfollowed := true, recurses := true, apart := false }
def CnfSizesSaid : Prop := cnfSizesRow.holds Try.pinned (OpenSpec.ofChange cnfSizesSpec)

/-- ITS FALSE NEIGHBOUR: 'it returns false'. Refute it at one input. -/
def cnfSizesWrong : ChangeSpec := { name := "cnfSizes", fn := fun _ => fun
  | [d1, d2, d3] => { results := [.lit (.bool false)], args := [d1, d2, d3] }
  | _ => none }
def CnfSizesWrongFalsely : Prop := cnfSizesRow.holds Try.pinned (OpenSpec.ofChange cnfSizesWrong)

/-- 'patchbaylaw19.CnfBegins': WHATEVER THE INPUT: true; the input reads as it did. -/
def cnfBeginsSpec : ChangeSpec := { name := "cnfBegins", fn := fun _ => fun
  | [d1, d2, d3, d4] => { results := [.lit (.bool true)], args := [d1, d2, d3, d4] }
  | _ => none }
def cnfBeginsRow : OpenClaim := { program := "ytfpkjfmpamlakaa", sum := "ecb125396891414881fd8598fb3f761e858c8528fec0fd1f4f1eea99cc9c3d9b", func := "patchbay/patchbaylaw19.CnfBegins", spec := "cnfBegins", unfollowed := true, recurses := true, apart := false }
def CnfBeginsSaid : Prop := cnfBeginsRow.holds Try.pinned (OpenSpec.ofChange cnfBeginsSpec)

/-- ITS FALSE NEIGHBOUR: 'it returns false'. Refute it at one input. -/
def cnfBeginsWrong : ChangeSpec := { name := "cnfBegins", fn := fun _ => fun
  | [d1, d2, d3, d4] => { results := [.lit (.bool false)], args := [d1, d2, d3, d4] }
  | _ => none }
def CnfBeginsWrongFalsely : Prop := cnfBeginsRow.holds Try.pinned (OpenSpec.ofChange cnfBeginsWrong)

/- THE SECOND FORM. 'bulk': how many values and letters a reading holds, each counted each time it is reached (what is shared counts as often as it is met; a slice's spare places count too). A statement '..UptoSaid' is the law's where the arguments, and the package variables that the reading takes, are together of bulk at most 1048576: NARROWER than '..Said'. Prove '..Said' where nothing that the law and all that it calls make is longer than what came in: it says more and counts as full. Else prove '..UptoSaid'. A law counts once. -/
mutual
def uptoBulk {H : Type} : DataW H → Nat
  | .lit (.string bytes) => bytes.length + 1
  | .lit _ => 1
  | .nil => 1
  | .ptr d => uptoBulk d + 1
  | .slice elems spare => uptoBulkAll elems + uptoBulkAll spare + 1
  | .agg parts => uptoBulkAll parts + 1
  | .iface _ d => uptoBulk d + 1
  | .map entries => uptoBulkEntries entries + 1
  | .held _ => 1
def uptoBulkAll {H : Type} : List (DataW H) → Nat
  | [] => 0
  | d :: r => uptoBulk d + uptoBulkAll r
def uptoBulkEntries {H : Type} : List (Lit × DataW H) → Nat
  | [] => 0
  | x :: r => uptoBulkEntry x + uptoBulkEntries r
def uptoBulkEntry {H : Type} : Lit × DataW H → Nat
  | (.string bytes, d) => bytes.length + uptoBulk d + 1
  | (_, d) => uptoBulk d + 1
 end
def uptoSmall : (H : Type) → List (DataW H) → Bool := fun _ ds => decide (uptoBulkAll ds ≤ 1048576)
def OpenSpec.upto (s : _root_.Go.ChangeSpec) : _root_.Go.OpenSpec := { _root_.Go.OpenSpec.ofChange s with cond := some uptoSmall }

/-- 'patchbaylaw19.CnfTells', WHERE WHAT IT READS IS OF BULK AT MOST 1048576: true; the input reads as it did. -/
def cnfTellsUptoRow : OpenClaim := { program := "ytfpkjfmpamlakaa", sum := "ecb125396891414881fd8598fb3f761e858c8528fec0fd1f4f1eea99cc9c3d9b", func := "patchbay/patchbaylaw19.CnfTells", spec := "cnfTells", unfollowed := true, recurses := true, apart := false, narrowed := true }
def CnfTellsUptoSaid : Prop := cnfTellsUptoRow.holds Try.pinned (OpenSpec.upto cnfTellsSpec)

/-- 'patchbaylaw19.CnfUnrolls', WHERE WHAT IT READS IS OF BULK AT MOST 1048576: true; the input reads as it did. -/
def cnfUnrollsUptoRow : OpenClaim := { program := "ytfpkjfmpamlakaa", sum := "ecb125396891414881fd8598fb3f761e858c8528fec0fd1f4f1eea99cc9c3d9b", func := "patchbay/patchbaylaw19.CnfUnrolls", spec := "cnfUnrolls", unfollowed := true, recurses := true, apart := false, narrowed := true }
def CnfUnrollsUptoSaid : Prop := cnfUnrollsUptoRow.holds Try.pinned (OpenSpec.upto cnfUnrollsSpec)

/-- 'patchbaylaw19.CnfRuns', WHERE WHAT IT READS IS OF BULK AT MOST 1048576: true; the input reads as it did. -/
def cnfRunsUptoRow : OpenClaim := { program := "ytfpkjfmpamlakaa", sum := "ecb125396891414881fd8598fb3f761e858c8528fec0fd1f4f1eea99cc9c3d9b", func := "patchbay/patchbaylaw19.CnfRuns", spec := "cnfRuns", unfollowed := true, recurses := true, apart := false, narrowed := true }
def CnfRunsUptoSaid : Prop := cnfRunsUptoRow.holds Try.pinned (OpenSpec.upto cnfRunsSpec)

/-- 'patchbaylaw19.CnfOnly', WHERE WHAT IT READS IS OF BULK AT MOST 1048576: true; the input reads as it did. -/
def cnfOnlyUptoRow : OpenClaim := { program := "ytfpkjfmpamlakaa", sum := "ecb125396891414881fd8598fb3f761e858c8528fec0fd1f4f1eea99cc9c3d9b", func := "patchbay/patchbaylaw19.CnfOnly", spec := "cnfOnly", unfollowed := true, recurses := true, apart := false, narrowed := true }
def CnfOnlyUptoSaid : Prop := cnfOnlyUptoRow.holds Try.pinned (OpenSpec.upto cnfOnlySpec)

/-- 'patchbaylaw19.CnfSizes', WHERE WHAT IT READS IS OF BULK AT MOST 1048576: true; the input reads as it did. -/
def cnfSizesUptoRow : OpenClaim := { program := "ytfpkjfmpamlakaa", sum := "ecb125396891414881fd8598fb3f761e858c8528fec0fd1f4f1eea99cc9c3d9b", func := "patchbay/patchbaylaw19.CnfSizes", spec := "cnfSizes", unfollowed := true, recurses := true, apart := false, narrowed := true }
def CnfSizesUptoSaid : Prop := cnfSizesUptoRow.holds Try.pinned (OpenSpec.upto cnfSizesSpec)

/-- 'patchbaylaw19.CnfBegins', WHERE WHAT IT READS IS OF BULK AT MOST 1048576: true; the input reads as it did. -/
def cnfBeginsUptoRow : OpenClaim := { program := "ytfpkjfmpamlakaa", sum := "ecb125396891414881fd8598fb3f761e858c8528fec0fd1f4f1eea99cc9c3d9b", func := "patchbay/patchbaylaw19.CnfBegins", spec := "cnfBegins", unfollowed := true, recurses := true, apart := false, narrowed := true }
def CnfBeginsUptoSaid : Prop := cnfBeginsUptoRow.holds Try.pinned (OpenSpec.upto cnfBeginsSpec)

end Rows
end Go.Proofs.Ytfpkjfmpamlakaa

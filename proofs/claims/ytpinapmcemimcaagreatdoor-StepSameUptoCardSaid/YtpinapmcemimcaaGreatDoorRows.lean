/-
  NARROWER THAN 'FOR EVERY INPUT', by the rows' own cells (each row's printed sentence says how): StepGates: laid · StepTells: laid · StepRuns: laid · StepSame: laid · StepTurns: laid.
  DERIVED. THE GIVEN ROWS OF THIS SEAT. 5 by the template 'for every input the law returns true; each argument reads behind the call as it read before'; 0 by the template 'total and deterministic' (their statements: YtpinapmcemimcaaGreatDoorTotals.lean).
  GIVEN WITH THE SEED: the statements are not yours to turn. If you find one false, say at which input.
  Laid BY PROGRAM, IN A SANDBOX (cutbox-rows.mjs): the forced cells as the released guide's own fill.sh prints them over the translation d76e1d3d99d4611c… (all of the seat's roots in one cut). By AI agents, Wed Nov 11 2026. No macro, syntax, notation, axiom, sorry.
-/
import Derived.Test.YtpinapmcemimcaaGreatDoorChecked
import GoSem.PinnedTables
import GoSem.Claim
import GoSem.ClaimJoined
import GoSem.ClaimMapViews
import Derived.JoinedTies
import Derived.KernelRfl
namespace Go.Proofs.YtpinapmcemimcaaGreatDoor
/- THE CELL 'sum', in the pinned program and in every row, IS THE sha256 OF THE DUMP (.gsa) THAT YtpinapmcemimcaaGreatDoorProg.lean LOADS. Nothing in Lean hashes anything: it is a label: what it is worth is what the hold of that sum in a sandbox is worth. -/
noncomputable def Tryz.pinned : Pinned := { name := "ytpinapmcemimcaagreatdoor", sum := "d76e1d3d99d4611c17f1d0703f324eff1ca7e17a6c911dad405c080c9d7dc79f", checked := Tryz.checked }
namespace Rows
def none {H : Type} : Left H := { results := [], args := [] }

/- WHAT THE LISTED PACKAGE-LEVEL VARIABLES READ AS WHEN THE CALL BEGINS. Each datum BY PROGRAM (the guide's laid-datum.mjs) off the statement by which the dump's own 'gosem.cut.vars' lays the variable. In a bare row this is a premise. The card (YtpinapmcemimcaaGreatDoorCards.lean) ties it to the program's text. -/
def laid_unicode_utf8_acceptRanges {H : Type} : DataW H := .agg [.agg [.lit (.int .u8 128), .lit (.int .u8 191)], .agg [.lit (.int .u8 160), .lit (.int .u8 191)], .agg [.lit (.int .u8 128), .lit (.int .u8 159)], .agg [.lit (.int .u8 144), .lit (.int .u8 191)], .agg [.lit (.int .u8 128), .lit (.int .u8 143)], .agg [.lit (.int .u8 0), .lit (.int .u8 0)], .agg [.lit (.int .u8 0), .lit (.int .u8 0)], .agg [.lit (.int .u8 0), .lit (.int .u8 0)], .agg [.lit (.int .u8 0), .lit (.int .u8 0)], .agg [.lit (.int .u8 0), .lit (.int .u8 0)], .agg [.lit (.int .u8 0), .lit (.int .u8 0)], .agg [.lit (.int .u8 0), .lit (.int .u8 0)], .agg [.lit (.int .u8 0), .lit (.int .u8 0)], .agg [.lit (.int .u8 0), .lit (.int .u8 0)], .agg [.lit (.int .u8 0), .lit (.int .u8 0)], .agg [.lit (.int .u8 0), .lit (.int .u8 0)]]
def laid_patchbay_net_ins {H : Type} : DataW H := .map [(.int .i64 0, .agg [.lit (.int .i64 0), .lit (.int .i64 0)]), (.int .i64 1, .agg [.lit (.int .i64 0), .lit (.int .i64 0)]), (.int .i64 2, .agg [.lit (.int .i64 1), .lit (.int .i64 1)]), (.int .i64 3, .agg [.lit (.int .i64 1), .lit (.int .i64 1)]), (.int .i64 4, .agg [.lit (.int .i64 2), .lit (.int .i64 8)]), (.int .i64 5, .agg [.lit (.int .i64 2), .lit (.int .i64 8)]), (.int .i64 6, .agg [.lit (.int .i64 2), .lit (.int .i64 8)]), (.int .i64 7, .agg [.lit (.int .i64 2), .lit (.int .i64 8)]), (.int .i64 8, .agg [.lit (.int .i64 2), .lit (.int .i64 8)]), (.int .i64 9, .agg [.lit (.int .i64 2), .lit (.int .i64 8)]), (.int .i64 10, .agg [.lit (.int .i64 0), .lit (.int .i64 8)])]
/-- One of Go's own tables, pinned by name: the form's constant. -/
def laid_unicode_utf8_first : DataW Unit := Go.Pinned.utf8First

/-- 'patchbaylaw08.StepGates': WHATEVER THE INPUT: true; the input reads as it did. -/
def stepGatesSpec : ChangeSpec := { name := "stepGates", fn := fun _ => fun
  | [d1, d2] => { results := [.lit (.bool true)], args := [d1, d2] }
  | _ => none }
def stepGatesRow : OpenClaim := { program := "ytpinapmcemimcaagreatdoor", sum := "d76e1d3d99d4611c17f1d0703f324eff1ca7e17a6c911dad405c080c9d7dc79f", func := "patchbay/patchbaylaw08.StepGates", spec := "stepGates", inPlace := ["internal/bytealg.IndexByteString", "internal/bytealg.IndexString"], unfollowed := true, recurses := true, named := ["unicode/utf8.first", "unicode/utf8.acceptRanges", "patchbay/net.ins", "internal/bytealg.MaxLen"], apart := false, laid := [("unicode/utf8.acceptRanges", laid_unicode_utf8_acceptRanges), ("patchbay/net.ins", laid_patchbay_net_ins), ("unicode/utf8.first", laid_unicode_utf8_first)] }
def StepGatesSaid : Prop := stepGatesRow.holds Tryz.pinned (OpenSpec.ofChange stepGatesSpec)

/-- ITS FALSE NEIGHBOUR: 'it returns false'. Refute it at one input. -/
def stepGatesWrong : ChangeSpec := { name := "stepGates", fn := fun _ => fun
  | [d1, d2] => { results := [.lit (.bool false)], args := [d1, d2] }
  | _ => none }
def StepGatesWrongFalsely : Prop := stepGatesRow.holds Tryz.pinned (OpenSpec.ofChange stepGatesWrong)

/-- 'patchbaylaw08.StepTells': WHATEVER THE INPUT: true; the input reads as it did. -/
def stepTellsSpec : ChangeSpec := { name := "stepTells", fn := fun _ => fun
  | [d1, d2, d3, d4] => { results := [.lit (.bool true)], args := [d1, d2, d3, d4] }
  | _ => none }
def stepTellsRow : OpenClaim := { program := "ytpinapmcemimcaagreatdoor", sum := "d76e1d3d99d4611c17f1d0703f324eff1ca7e17a6c911dad405c080c9d7dc79f", func := "patchbay/patchbaylaw08.StepTells", spec := "stepTells", inPlace := ["internal/bytealg.IndexByteString", "internal/bytealg.IndexString"], unfollowed := true, recurses := true, named := ["unicode/utf8.first", "unicode/utf8.acceptRanges", "patchbay/net.ins", "internal/bytealg.MaxLen"], apart := false, laid := [("unicode/utf8.acceptRanges", laid_unicode_utf8_acceptRanges), ("patchbay/net.ins", laid_patchbay_net_ins), ("unicode/utf8.first", laid_unicode_utf8_first)] }
def StepTellsSaid : Prop := stepTellsRow.holds Tryz.pinned (OpenSpec.ofChange stepTellsSpec)

/-- ITS FALSE NEIGHBOUR: 'it returns false'. Refute it at one input. -/
def stepTellsWrong : ChangeSpec := { name := "stepTells", fn := fun _ => fun
  | [d1, d2, d3, d4] => { results := [.lit (.bool false)], args := [d1, d2, d3, d4] }
  | _ => none }
def StepTellsWrongFalsely : Prop := stepTellsRow.holds Tryz.pinned (OpenSpec.ofChange stepTellsWrong)

/-- 'patchbaylaw08.StepRuns': WHATEVER THE INPUT: true; the input reads as it did. -/
def stepRunsSpec : ChangeSpec := { name := "stepRuns", fn := fun _ => fun
  | [d1, d2, d3] => { results := [.lit (.bool true)], args := [d1, d2, d3] }
  | _ => none }
def stepRunsRow : OpenClaim := { program := "ytpinapmcemimcaagreatdoor", sum := "d76e1d3d99d4611c17f1d0703f324eff1ca7e17a6c911dad405c080c9d7dc79f", func := "patchbay/patchbaylaw08.StepRuns", spec := "stepRuns", inPlace := ["internal/bytealg.IndexByteString", "internal/bytealg.IndexString"], unfollowed := true, recurses := true, named := ["unicode/utf8.first", "unicode/utf8.acceptRanges", "patchbay/net.ins", "internal/bytealg.MaxLen"], apart := false, laid := [("unicode/utf8.acceptRanges", laid_unicode_utf8_acceptRanges), ("patchbay/net.ins", laid_patchbay_net_ins), ("unicode/utf8.first", laid_unicode_utf8_first)] }
def StepRunsSaid : Prop := stepRunsRow.holds Tryz.pinned (OpenSpec.ofChange stepRunsSpec)

/-- ITS FALSE NEIGHBOUR: 'it returns false'. Refute it at one input. -/
def stepRunsWrong : ChangeSpec := { name := "stepRuns", fn := fun _ => fun
  | [d1, d2, d3] => { results := [.lit (.bool false)], args := [d1, d2, d3] }
  | _ => none }
def StepRunsWrongFalsely : Prop := stepRunsRow.holds Tryz.pinned (OpenSpec.ofChange stepRunsWrong)

/-- 'patchbaylaw08.StepSame': WHATEVER THE INPUT: true; the input reads as it did. -/
def stepSameSpec : ChangeSpec := { name := "stepSame", fn := fun _ => fun
  | [d1, d2, d3] => { results := [.lit (.bool true)], args := [d1, d2, d3] }
  | _ => none }
def stepSameRow : OpenClaim := { program := "ytpinapmcemimcaagreatdoor", sum := "d76e1d3d99d4611c17f1d0703f324eff1ca7e17a6c911dad405c080c9d7dc79f", func := "patchbay/patchbaylaw08.StepSame", spec := "stepSame", inPlace := ["internal/bytealg.IndexByteString", "internal/bytealg.IndexString"], unfollowed := true, recurses := true, named := ["unicode/utf8.first", "unicode/utf8.acceptRanges", "patchbay/net.ins", "internal/bytealg.MaxLen"], apart := false, laid := [("unicode/utf8.acceptRanges", laid_unicode_utf8_acceptRanges), ("patchbay/net.ins", laid_patchbay_net_ins), ("unicode/utf8.first", laid_unicode_utf8_first)] }
def StepSameSaid : Prop := stepSameRow.holds Tryz.pinned (OpenSpec.ofChange stepSameSpec)

/-- ITS FALSE NEIGHBOUR: 'it returns false'. Refute it at one input. -/
def stepSameWrong : ChangeSpec := { name := "stepSame", fn := fun _ => fun
  | [d1, d2, d3] => { results := [.lit (.bool false)], args := [d1, d2, d3] }
  | _ => none }
def StepSameWrongFalsely : Prop := stepSameRow.holds Tryz.pinned (OpenSpec.ofChange stepSameWrong)

/-- 'patchbaylaw08.StepTurns': WHATEVER THE INPUT: true; the input reads as it did. -/
def stepTurnsSpec : ChangeSpec := { name := "stepTurns", fn := fun _ => fun
  | [d1, d2] => { results := [.lit (.bool true)], args := [d1, d2] }
  | _ => none }
def stepTurnsRow : OpenClaim := { program := "ytpinapmcemimcaagreatdoor", sum := "d76e1d3d99d4611c17f1d0703f324eff1ca7e17a6c911dad405c080c9d7dc79f", func := "patchbay/patchbaylaw08.StepTurns", spec := "stepTurns", inPlace := ["internal/bytealg.IndexByteString", "internal/bytealg.IndexString", "internal/abi.NoEscape", "internal/bytealg.MakeNoZero"], unfollowed := true, recurses := true, named := ["unicode/utf8.first", "unicode/utf8.acceptRanges", "patchbay/net.ins", "internal/bytealg.MaxLen"], apart := false, laid := [("unicode/utf8.acceptRanges", laid_unicode_utf8_acceptRanges), ("patchbay/net.ins", laid_patchbay_net_ins), ("unicode/utf8.first", laid_unicode_utf8_first)] }
def StepTurnsSaid : Prop := stepTurnsRow.holds Tryz.pinned (OpenSpec.ofChange stepTurnsSpec)

/-- ITS FALSE NEIGHBOUR: 'it returns false'. Refute it at one input. -/
def stepTurnsWrong : ChangeSpec := { name := "stepTurns", fn := fun _ => fun
  | [d1, d2] => { results := [.lit (.bool false)], args := [d1, d2] }
  | _ => none }
def StepTurnsWrongFalsely : Prop := stepTurnsRow.holds Tryz.pinned (OpenSpec.ofChange stepTurnsWrong)

/- THE SECOND FORM. 'bulk': how many values and letters a reading holds, each counted each time it is reached (what is shared counts as often as it is met; a slice's spare places count too). A statement '..UptoSaid' is the law's where the arguments, and the package variables that the reading takes, are together of bulk at most 1048576: NARROWER than '..Said'. Prove '..Said' where nothing that the law and all that it calls make is longer than what came in: it says more and counts as full. Else prove '..UptoSaid'. A law counts once. -/
mutual
def uptoBulk {H : Type} : DataW H → Nat
  | .lit (.string bytes) => bytes.length + 1
  | .lit _ => 1
  | .nil => 1
  | .ptr d => uptoBulk d + 1
  | .slice elems spare => uptoBulkAll elems + uptoBulkAll spare + 1
  | .agg parts => uptoBulkAll parts + 1
  | .iface _ d => uptoBulk d + 1
  | .map entries => uptoBulkEntries entries + 1
  | .held _ => 1
def uptoBulkAll {H : Type} : List (DataW H) → Nat
  | [] => 0
  | d :: r => uptoBulk d + uptoBulkAll r
def uptoBulkEntries {H : Type} : List (Lit × DataW H) → Nat
  | [] => 0
  | x :: r => uptoBulkEntry x + uptoBulkEntries r
def uptoBulkEntry {H : Type} : Lit × DataW H → Nat
  | (.string bytes, d) => bytes.length + uptoBulk d + 1
  | (_, d) => uptoBulk d + 1
 end
def uptoSmall : (H : Type) → List (DataW H) → Bool := fun _ ds => decide (uptoBulkAll ds ≤ 1048576)
def OpenSpec.upto (s : _root_.Go.ChangeSpec) : _root_.Go.OpenSpec := { _root_.Go.OpenSpec.ofChange s with cond := some uptoSmall }

/-- 'patchbaylaw08.StepGates', WHERE WHAT IT READS IS OF BULK AT MOST 1048576: true; the input reads as it did. -/
def stepGatesUptoRow : OpenClaim := { program := "ytpinapmcemimcaagreatdoor", sum := "d76e1d3d99d4611c17f1d0703f324eff1ca7e17a6c911dad405c080c9d7dc79f", func := "patchbay/patchbaylaw08.StepGates", spec := "stepGates", inPlace := ["internal/bytealg.IndexByteString", "internal/bytealg.IndexString"], unfollowed := true, recurses := true, named := ["unicode/utf8.first", "unicode/utf8.acceptRanges", "patchbay/net.ins", "internal/bytealg.MaxLen"], apart := false, laid := [("unicode/utf8.acceptRanges", laid_unicode_utf8_acceptRanges), ("patchbay/net.ins", laid_patchbay_net_ins), ("unicode/utf8.first", laid_unicode_utf8_first)], narrowed := true }
def StepGatesUptoSaid : Prop := stepGatesUptoRow.holds Tryz.pinned (OpenSpec.upto stepGatesSpec)

/-- 'patchbaylaw08.StepTells', WHERE WHAT IT READS IS OF BULK AT MOST 1048576: true; the input reads as it did. -/
def stepTellsUptoRow : OpenClaim := { program := "ytpinapmcemimcaagreatdoor", sum := "d76e1d3d99d4611c17f1d0703f324eff1ca7e17a6c911dad405c080c9d7dc79f", func := "patchbay/patchbaylaw08.StepTells", spec := "stepTells", inPlace := ["internal/bytealg.IndexByteString", "internal/bytealg.IndexString"], unfollowed := true, recurses := true, named := ["unicode/utf8.first", "unicode/utf8.acceptRanges", "patchbay/net.ins", "internal/bytealg.MaxLen"], apart := false, laid := [("unicode/utf8.acceptRanges", laid_unicode_utf8_acceptRanges), ("patchbay/net.ins", laid_patchbay_net_ins), ("unicode/utf8.first", laid_unicode_utf8_first)], narrowed := true }
def StepTellsUptoSaid : Prop := stepTellsUptoRow.holds Tryz.pinned (OpenSpec.upto stepTellsSpec)

/-- 'patchbaylaw08.StepRuns', WHERE WHAT IT READS IS OF BULK AT MOST 1048576: true; the input reads as it did. -/
def stepRunsUptoRow : OpenClaim := { program := "ytpinapmcemimcaagreatdoor", sum := "d76e1d3d99d4611c17f1d0703f324eff1ca7e17a6c911dad405c080c9d7dc79f", func := "patchbay/patchbaylaw08.StepRuns", spec := "stepRuns", inPlace := ["internal/bytealg.IndexByteString", "internal/bytealg.IndexString"], unfollowed := true, recurses := true, named := ["unicode/utf8.first", "unicode/utf8.acceptRanges", "patchbay/net.ins", "internal/bytealg.MaxLen"], apart := false, laid := [("unicode/utf8.acceptRanges", laid_unicode_utf8_acceptRanges), ("patchbay/net.ins", laid_patchbay_net_ins), ("unicode/utf8.first", laid_unicode_utf8_first)], narrowed := true }
def StepRunsUptoSaid : Prop := stepRunsUptoRow.holds Tryz.pinned (OpenSpec.upto stepRunsSpec)

/-- 'patchbaylaw08.StepSame', WHERE WHAT IT READS IS OF BULK AT MOST 1048576: true; the input reads as it did. -/
def stepSameUptoRow : OpenClaim := { program := "ytpinapmcemimcaagreatdoor", sum := "d76e1d3d99d4611c17f1d0703f324eff1ca7e17a6c911dad405c080c9d7dc79f", func := "patchbay/patchbaylaw08.StepSame", spec := "stepSame", inPlace := ["internal/bytealg.IndexByteString", "internal/bytealg.IndexString"], unfollowed := true, recurses := true, named := ["unicode/utf8.first", "unicode/utf8.acceptRanges", "patchbay/net.ins", "internal/bytealg.MaxLen"], apart := false, laid := [("unicode/utf8.acceptRanges", laid_unicode_utf8_acceptRanges), ("patchbay/net.ins", laid_patchbay_net_ins), ("unicode/utf8.first", laid_unicode_utf8_first)], narrowed := true }
def StepSameUptoSaid : Prop := stepSameUptoRow.holds Tryz.pinned (OpenSpec.upto stepSameSpec)

/-- 'patchbaylaw08.StepTurns', WHERE WHAT IT READS IS OF BULK AT MOST 1048576: true; the input reads as it did. -/
def stepTurnsUptoRow : OpenClaim := { program := "ytpinapmcemimcaagreatdoor", sum := "d76e1d3d99d4611c17f1d0703f324eff1ca7e17a6c911dad405c080c9d7dc79f", func := "patchbay/patchbaylaw08.StepTurns", spec := "stepTurns", inPlace := ["internal/bytealg.IndexByteString", "internal/bytealg.IndexString", "internal/abi.NoEscape", "internal/bytealg.MakeNoZero"], unfollowed := true, recurses := true, named := ["unicode/utf8.first", "unicode/utf8.acceptRanges", "patchbay/net.ins", "internal/bytealg.MaxLen"], apart := false, laid := [("unicode/utf8.acceptRanges", laid_unicode_utf8_acceptRanges), ("patchbay/net.ins", laid_patchbay_net_ins), ("unicode/utf8.first", laid_unicode_utf8_first)], narrowed := true }
def StepTurnsUptoSaid : Prop := stepTurnsUptoRow.holds Tryz.pinned (OpenSpec.upto stepTurnsSpec)

end Rows
end Go.Proofs.YtpinapmcemimcaaGreatDoor

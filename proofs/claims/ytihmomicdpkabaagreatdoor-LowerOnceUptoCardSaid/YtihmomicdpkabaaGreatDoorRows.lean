/-
  NARROWER THAN 'FOR EVERY INPUT', by the rows' own cells (each row's printed sentence says how): LowerOnce: laid · LowerNames: laid · LowerMeans: laid · LowerRuns: laid.
  DERIVED. THE GIVEN ROWS OF THIS SEAT. 4 by the template 'for every input the law returns true; each argument reads behind the call as it read before'; 0 by the template 'total and deterministic' (their statements: YtihmomicdpkabaaGreatDoorTotals.lean).
  GIVEN WITH THE SEED: the statements are not yours to turn. If you find one false, say at which input.
  Laid BY PROGRAM, IN A SANDBOX (cutbox-rows.mjs): the forced cells as the released guide's own fill.sh prints them over the translation 1dec02671607a839… (all of the seat's roots in one cut). By AI agents, Wed Nov 11 2026. No macro, syntax, notation, axiom, sorry.
-/
import Derived.Test.YtihmomicdpkabaaGreatDoorChecked
import GoSem.PinnedTables
import GoSem.Claim
import GoSem.ClaimJoined
import GoSem.ClaimMapViews
import Derived.JoinedTies
import Derived.KernelRfl
namespace Go.Proofs.YtihmomicdpkabaaGreatDoor
/- THE CELL 'sum', in the pinned program and in every row, IS THE sha256 OF THE DUMP (.gsa) THAT YtihmomicdpkabaaGreatDoorProg.lean LOADS. Nothing in Lean hashes anything: it is a label: what it is worth is what the hold of that sum in a sandbox is worth. -/
noncomputable def Tryz.pinned : Pinned := { name := "ytihmomicdpkabaagreatdoor", sum := "1dec02671607a83936f70ebf7a2ee35a0cfad48646fb70214146f3e58d939eb1", checked := Tryz.checked }
namespace Rows
def none {H : Type} : Left H := { results := [], args := [] }

/- WHAT THE LISTED PACKAGE-LEVEL VARIABLES READ AS WHEN THE CALL BEGINS. Each datum BY PROGRAM (the guide's laid-datum.mjs) off the statement by which the dump's own 'gosem.cut.vars' lays the variable. In a bare row this is a premise. The card (YtihmomicdpkabaaGreatDoorCards.lean) ties it to the program's text. -/
def laid_unicode_utf8_acceptRanges {H : Type} : DataW H := .agg [.agg [.lit (.int .u8 128), .lit (.int .u8 191)], .agg [.lit (.int .u8 160), .lit (.int .u8 191)], .agg [.lit (.int .u8 128), .lit (.int .u8 159)], .agg [.lit (.int .u8 144), .lit (.int .u8 191)], .agg [.lit (.int .u8 128), .lit (.int .u8 143)], .agg [.lit (.int .u8 0), .lit (.int .u8 0)], .agg [.lit (.int .u8 0), .lit (.int .u8 0)], .agg [.lit (.int .u8 0), .lit (.int .u8 0)], .agg [.lit (.int .u8 0), .lit (.int .u8 0)], .agg [.lit (.int .u8 0), .lit (.int .u8 0)], .agg [.lit (.int .u8 0), .lit (.int .u8 0)], .agg [.lit (.int .u8 0), .lit (.int .u8 0)], .agg [.lit (.int .u8 0), .lit (.int .u8 0)], .agg [.lit (.int .u8 0), .lit (.int .u8 0)], .agg [.lit (.int .u8 0), .lit (.int .u8 0)], .agg [.lit (.int .u8 0), .lit (.int .u8 0)]]
def laid_patchbay_net_ins {H : Type} : DataW H := .map [(.int .i64 0, .agg [.lit (.int .i64 0), .lit (.int .i64 0)]), (.int .i64 1, .agg [.lit (.int .i64 0), .lit (.int .i64 0)]), (.int .i64 2, .agg [.lit (.int .i64 1), .lit (.int .i64 1)]), (.int .i64 3, .agg [.lit (.int .i64 1), .lit (.int .i64 1)]), (.int .i64 4, .agg [.lit (.int .i64 2), .lit (.int .i64 8)]), (.int .i64 5, .agg [.lit (.int .i64 2), .lit (.int .i64 8)]), (.int .i64 6, .agg [.lit (.int .i64 2), .lit (.int .i64 8)]), (.int .i64 7, .agg [.lit (.int .i64 2), .lit (.int .i64 8)]), (.int .i64 8, .agg [.lit (.int .i64 2), .lit (.int .i64 8)]), (.int .i64 9, .agg [.lit (.int .i64 2), .lit (.int .i64 8)]), (.int .i64 10, .agg [.lit (.int .i64 0), .lit (.int .i64 8)])]
def laid_patchbay_lower_ops {H : Type} : DataW H := .iface "func table" (.map [(.int .i64 0, .agg [.iface "func" (.lit (.string [40, 42, 112, 97, 116, 99, 104, 98, 97, 121, 47, 108, 111, 119, 101, 114, 46, 98, 117, 105, 108, 100, 101, 114, 41, 46, 110, 111, 110, 101])), .lit (.int .i64 0)]), (.int .i64 1, .agg [.iface "func" (.lit (.string [40, 42, 112, 97, 116, 99, 104, 98, 97, 121, 47, 108, 111, 119, 101, 114, 46, 98, 117, 105, 108, 100, 101, 114, 41, 46, 110, 111, 110, 101])), .lit (.int .i64 1)]), (.int .i64 2, .agg [.iface "func" (.lit (.string [40, 42, 112, 97, 116, 99, 104, 98, 97, 121, 47, 108, 111, 119, 101, 114, 46, 98, 117, 105, 108, 100, 101, 114, 41, 46, 97, 108, 108])), .lit (.int .i64 0)]), (.int .i64 3, .agg [.iface "func" (.lit (.string [40, 42, 112, 97, 116, 99, 104, 98, 97, 121, 47, 108, 111, 119, 101, 114, 46, 98, 117, 105, 108, 100, 101, 114, 41, 46, 97, 108, 108])), .lit (.int .i64 1)]), (.int .i64 4, .agg [.iface "func" (.lit (.string [40, 42, 112, 97, 116, 99, 104, 98, 97, 121, 47, 108, 111, 119, 101, 114, 46, 98, 117, 105, 108, 100, 101, 114, 41, 46, 97, 108, 108])), .lit (.int .i64 0)]), (.int .i64 5, .agg [.iface "func" (.lit (.string [40, 42, 112, 97, 116, 99, 104, 98, 97, 121, 47, 108, 111, 119, 101, 114, 46, 98, 117, 105, 108, 100, 101, 114, 41, 46, 97, 108, 108])), .lit (.int .i64 1)]), (.int .i64 6, .agg [.iface "func" (.lit (.string [40, 42, 112, 97, 116, 99, 104, 98, 97, 121, 47, 108, 111, 119, 101, 114, 46, 98, 117, 105, 108, 100, 101, 114, 41, 46, 111, 110, 101])), .lit (.int .i64 0)]), (.int .i64 7, .agg [.iface "func" (.lit (.string [40, 42, 112, 97, 116, 99, 104, 98, 97, 121, 47, 108, 111, 119, 101, 114, 46, 98, 117, 105, 108, 100, 101, 114, 41, 46, 111, 110, 101])), .lit (.int .i64 1)]), (.int .i64 8, .agg [.iface "func" (.lit (.string [40, 42, 112, 97, 116, 99, 104, 98, 97, 121, 47, 108, 111, 119, 101, 114, 46, 98, 117, 105, 108, 100, 101, 114, 41, 46, 111, 100, 100])), .lit (.int .i64 0)]), (.int .i64 9, .agg [.iface "func" (.lit (.string [40, 42, 112, 97, 116, 99, 104, 98, 97, 121, 47, 108, 111, 119, 101, 114, 46, 98, 117, 105, 108, 100, 101, 114, 41, 46, 111, 100, 100])), .lit (.int .i64 1)])])
/-- One of Go's own tables, pinned by name: the form's constant. -/
def laid_unicode_utf8_first : DataW Unit := Go.Pinned.utf8First

/-- 'patchbaylaw11.LowerOnce': WHATEVER THE INPUT: true; the input reads as it did. -/
def lowerOnceSpec : ChangeSpec := { name := "lowerOnce", fn := fun _ => fun
  | [d1, d2] => { results := [.lit (.bool true)], args := [d1, d2] }
  | _ => none }
def lowerOnceRow : OpenClaim := { program := "ytihmomicdpkabaagreatdoor", sum := "1dec02671607a83936f70ebf7a2ee35a0cfad48646fb70214146f3e58d939eb1", func := "patchbay/patchbaylaw11.LowerOnce", spec := "lowerOnce", inPlace := ["internal/bytealg.IndexByteString", "internal/bytealg.IndexString"], unfollowed := true, recurses := true, named := ["unicode/utf8.first", "unicode/utf8.acceptRanges", "patchbay/net.ins", "patchbay/lower.ops", "internal/bytealg.MaxLen"], plainKeys := false, apart := false, laid := [("unicode/utf8.acceptRanges", laid_unicode_utf8_acceptRanges), ("patchbay/net.ins", laid_patchbay_net_ins), ("patchbay/lower.ops", laid_patchbay_lower_ops), ("unicode/utf8.first", laid_unicode_utf8_first)] }
def LowerOnceSaid : Prop := lowerOnceRow.holds Tryz.pinned (OpenSpec.ofChange lowerOnceSpec)

/-- ITS FALSE NEIGHBOUR: 'it returns false'. Refute it at one input. -/
def lowerOnceWrong : ChangeSpec := { name := "lowerOnce", fn := fun _ => fun
  | [d1, d2] => { results := [.lit (.bool false)], args := [d1, d2] }
  | _ => none }
def LowerOnceWrongFalsely : Prop := lowerOnceRow.holds Tryz.pinned (OpenSpec.ofChange lowerOnceWrong)

/-- 'patchbaylaw11.LowerNames': WHATEVER THE INPUT: true; the input reads as it did. -/
def lowerNamesSpec : ChangeSpec := { name := "lowerNames", fn := fun _ => fun
  | [d] => { results := [.lit (.bool true)], args := [d] }
  | _ => none }
def lowerNamesRow : OpenClaim := { program := "ytihmomicdpkabaagreatdoor", sum := "1dec02671607a83936f70ebf7a2ee35a0cfad48646fb70214146f3e58d939eb1", func := "patchbay/patchbaylaw11.LowerNames", spec := "lowerNames", inPlace := ["internal/bytealg.IndexByteString", "internal/bytealg.IndexString"], unfollowed := true, recurses := true, named := ["unicode/utf8.first", "unicode/utf8.acceptRanges", "patchbay/net.ins", "patchbay/lower.ops", "internal/bytealg.MaxLen"], plainKeys := false, apart := false, laid := [("unicode/utf8.acceptRanges", laid_unicode_utf8_acceptRanges), ("patchbay/net.ins", laid_patchbay_net_ins), ("patchbay/lower.ops", laid_patchbay_lower_ops), ("unicode/utf8.first", laid_unicode_utf8_first)] }
def LowerNamesSaid : Prop := lowerNamesRow.holds Tryz.pinned (OpenSpec.ofChange lowerNamesSpec)

/-- ITS FALSE NEIGHBOUR: 'it returns false'. Refute it at one input. -/
def lowerNamesWrong : ChangeSpec := { name := "lowerNames", fn := fun _ => fun
  | [d] => { results := [.lit (.bool false)], args := [d] }
  | _ => none }
def LowerNamesWrongFalsely : Prop := lowerNamesRow.holds Tryz.pinned (OpenSpec.ofChange lowerNamesWrong)

/-- 'patchbaylaw11.LowerMeans': WHATEVER THE INPUT: true; the input reads as it did. -/
def lowerMeansSpec : ChangeSpec := { name := "lowerMeans", fn := fun _ => fun
  | [d1, d2, d3] => { results := [.lit (.bool true)], args := [d1, d2, d3] }
  | _ => none }
def lowerMeansRow : OpenClaim := { program := "ytihmomicdpkabaagreatdoor", sum := "1dec02671607a83936f70ebf7a2ee35a0cfad48646fb70214146f3e58d939eb1", func := "patchbay/patchbaylaw11.LowerMeans", spec := "lowerMeans", inPlace := ["internal/bytealg.IndexByteString", "internal/bytealg.IndexString"], unfollowed := true, recurses := true, named := ["unicode/utf8.first", "unicode/utf8.acceptRanges", "patchbay/net.ins", "patchbay/lower.ops", "internal/bytealg.MaxLen"], plainKeys := false, apart := false, laid := [("unicode/utf8.acceptRanges", laid_unicode_utf8_acceptRanges), ("patchbay/net.ins", laid_patchbay_net_ins), ("patchbay/lower.ops", laid_patchbay_lower_ops), ("unicode/utf8.first", laid_unicode_utf8_first)] }
def LowerMeansSaid : Prop := lowerMeansRow.holds Tryz.pinned (OpenSpec.ofChange lowerMeansSpec)

/-- ITS FALSE NEIGHBOUR: 'it returns false'. Refute it at one input. -/
def lowerMeansWrong : ChangeSpec := { name := "lowerMeans", fn := fun _ => fun
  | [d1, d2, d3] => { results := [.lit (.bool false)], args := [d1, d2, d3] }
  | _ => none }
def LowerMeansWrongFalsely : Prop := lowerMeansRow.holds Tryz.pinned (OpenSpec.ofChange lowerMeansWrong)

/-- 'patchbaylaw11.LowerRuns': WHATEVER THE INPUT: true; the input reads as it did. -/
def lowerRunsSpec : ChangeSpec := { name := "lowerRuns", fn := fun _ => fun
  | [d1, d2, d3] => { results := [.lit (.bool true)], args := [d1, d2, d3] }
  | _ => none }
def lowerRunsRow : OpenClaim := { program := "ytihmomicdpkabaagreatdoor", sum := "1dec02671607a83936f70ebf7a2ee35a0cfad48646fb70214146f3e58d939eb1", func := "patchbay/patchbaylaw11.LowerRuns", spec := "lowerRuns", inPlace := ["internal/bytealg.IndexByteString", "internal/bytealg.IndexString"], unfollowed := true, recurses := true, named := ["unicode/utf8.first", "unicode/utf8.acceptRanges", "patchbay/net.ins", "patchbay/lower.ops", "internal/bytealg.MaxLen"], plainKeys := false, apart := false, laid := [("unicode/utf8.acceptRanges", laid_unicode_utf8_acceptRanges), ("patchbay/net.ins", laid_patchbay_net_ins), ("patchbay/lower.ops", laid_patchbay_lower_ops), ("unicode/utf8.first", laid_unicode_utf8_first)] }
def LowerRunsSaid : Prop := lowerRunsRow.holds Tryz.pinned (OpenSpec.ofChange lowerRunsSpec)

/-- ITS FALSE NEIGHBOUR: 'it returns false'. Refute it at one input. -/
def lowerRunsWrong : ChangeSpec := { name := "lowerRuns", fn := fun _ => fun
  | [d1, d2, d3] => { results := [.lit (.bool false)], args := [d1, d2, d3] }
  | _ => none }
def LowerRunsWrongFalsely : Prop := lowerRunsRow.holds Tryz.pinned (OpenSpec.ofChange lowerRunsWrong)

/- THE SECOND FORM. 'bulk': how many values and letters a reading holds, each counted each time it is reached (what is shared counts as often as it is met; a slice's spare places count too). A statement '..UptoSaid' is the law's where the arguments, and the package variables that the reading takes, are together of bulk at most 1048576: NARROWER than '..Said'. Prove '..Said' where nothing that the law and all that it calls make is longer than what came in: it says more and counts as full. Else prove '..UptoSaid'. A law counts once. -/
mutual
def uptoBulk {H : Type} : DataW H → Nat
  | .lit (.string bytes) => bytes.length + 1
  | .lit _ => 1
  | .nil => 1
  | .ptr d => uptoBulk d + 1
  | .slice elems spare => uptoBulkAll elems + uptoBulkAll spare + 1
  | .agg parts => uptoBulkAll parts + 1
  | .iface _ d => uptoBulk d + 1
  | .map entries => uptoBulkEntries entries + 1
  | .held _ => 1
def uptoBulkAll {H : Type} : List (DataW H) → Nat
  | [] => 0
  | d :: r => uptoBulk d + uptoBulkAll r
def uptoBulkEntries {H : Type} : List (Lit × DataW H) → Nat
  | [] => 0
  | x :: r => uptoBulkEntry x + uptoBulkEntries r
def uptoBulkEntry {H : Type} : Lit × DataW H → Nat
  | (.string bytes, d) => bytes.length + uptoBulk d + 1
  | (_, d) => uptoBulk d + 1
 end
def uptoSmall : (H : Type) → List (DataW H) → Bool := fun _ ds => decide (uptoBulkAll ds ≤ 1048576)
def OpenSpec.upto (s : _root_.Go.ChangeSpec) : _root_.Go.OpenSpec := { _root_.Go.OpenSpec.ofChange s with cond := some uptoSmall }

/-- 'patchbaylaw11.LowerOnce', WHERE WHAT IT READS IS OF BULK AT MOST 1048576: true; the input reads as it did. -/
def lowerOnceUptoRow : OpenClaim := { program := "ytihmomicdpkabaagreatdoor", sum := "1dec02671607a83936f70ebf7a2ee35a0cfad48646fb70214146f3e58d939eb1", func := "patchbay/patchbaylaw11.LowerOnce", spec := "lowerOnce", inPlace := ["internal/bytealg.IndexByteString", "internal/bytealg.IndexString"], unfollowed := true, recurses := true, named := ["unicode/utf8.first", "unicode/utf8.acceptRanges", "patchbay/net.ins", "patchbay/lower.ops", "internal/bytealg.MaxLen"], plainKeys := false, apart := false, laid := [("unicode/utf8.acceptRanges", laid_unicode_utf8_acceptRanges), ("patchbay/net.ins", laid_patchbay_net_ins), ("patchbay/lower.ops", laid_patchbay_lower_ops), ("unicode/utf8.first", laid_unicode_utf8_first)], narrowed := true }
def LowerOnceUptoSaid : Prop := lowerOnceUptoRow.holds Tryz.pinned (OpenSpec.upto lowerOnceSpec)

/-- 'patchbaylaw11.LowerNames', WHERE WHAT IT READS IS OF BULK AT MOST 1048576: true; the input reads as it did. -/
def lowerNamesUptoRow : OpenClaim := { program := "ytihmomicdpkabaagreatdoor", sum := "1dec02671607a83936f70ebf7a2ee35a0cfad48646fb70214146f3e58d939eb1", func := "patchbay/patchbaylaw11.LowerNames", spec := "lowerNames", inPlace := ["internal/bytealg.IndexByteString", "internal/bytealg.IndexString"], unfollowed := true, recurses := true, named := ["unicode/utf8.first", "unicode/utf8.acceptRanges", "patchbay/net.ins", "patchbay/lower.ops", "internal/bytealg.MaxLen"], plainKeys := false, apart := false, laid := [("unicode/utf8.acceptRanges", laid_unicode_utf8_acceptRanges), ("patchbay/net.ins", laid_patchbay_net_ins), ("patchbay/lower.ops", laid_patchbay_lower_ops), ("unicode/utf8.first", laid_unicode_utf8_first)], narrowed := true }
def LowerNamesUptoSaid : Prop := lowerNamesUptoRow.holds Tryz.pinned (OpenSpec.upto lowerNamesSpec)

/-- 'patchbaylaw11.LowerMeans', WHERE WHAT IT READS IS OF BULK AT MOST 1048576: true; the input reads as it did. -/
def lowerMeansUptoRow : OpenClaim := { program := "ytihmomicdpkabaagreatdoor", sum := "1dec02671607a83936f70ebf7a2ee35a0cfad48646fb70214146f3e58d939eb1", func := "patchbay/patchbaylaw11.LowerMeans", spec := "lowerMeans", inPlace := ["internal/bytealg.IndexByteString", "internal/bytealg.IndexString"], unfollowed := true, recurses := true, named := ["unicode/utf8.first", "unicode/utf8.acceptRanges", "patchbay/net.ins", "patchbay/lower.ops", "internal/bytealg.MaxLen"], plainKeys := false, apart := false, laid := [("unicode/utf8.acceptRanges", laid_unicode_utf8_acceptRanges), ("patchbay/net.ins", laid_patchbay_net_ins), ("patchbay/lower.ops", laid_patchbay_lower_ops), ("unicode/utf8.first", laid_unicode_utf8_first)], narrowed := true }
def LowerMeansUptoSaid : Prop := lowerMeansUptoRow.holds Tryz.pinned (OpenSpec.upto lowerMeansSpec)

/-- 'patchbaylaw11.LowerRuns', WHERE WHAT IT READS IS OF BULK AT MOST 1048576: true; the input reads as it did. -/
def lowerRunsUptoRow : OpenClaim := { program := "ytihmomicdpkabaagreatdoor", sum := "1dec02671607a83936f70ebf7a2ee35a0cfad48646fb70214146f3e58d939eb1", func := "patchbay/patchbaylaw11.LowerRuns", spec := "lowerRuns", inPlace := ["internal/bytealg.IndexByteString", "internal/bytealg.IndexString"], unfollowed := true, recurses := true, named := ["unicode/utf8.first", "unicode/utf8.acceptRanges", "patchbay/net.ins", "patchbay/lower.ops", "internal/bytealg.MaxLen"], plainKeys := false, apart := false, laid := [("unicode/utf8.acceptRanges", laid_unicode_utf8_acceptRanges), ("patchbay/net.ins", laid_patchbay_net_ins), ("patchbay/lower.ops", laid_patchbay_lower_ops), ("unicode/utf8.first", laid_unicode_utf8_first)], narrowed := true }
def LowerRunsUptoSaid : Prop := lowerRunsUptoRow.holds Tryz.pinned (OpenSpec.upto lowerRunsSpec)

end Rows
end Go.Proofs.YtihmomicdpkabaaGreatDoor

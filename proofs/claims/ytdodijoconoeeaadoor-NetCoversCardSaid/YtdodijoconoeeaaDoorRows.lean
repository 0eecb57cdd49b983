/-
  NARROWER THAN 'FOR EVERY INPUT', by the rows' own cells (each row's printed sentence says how): NetChecks: laid · NetCanon: laid · NetCovers: laid · NetNames: laid.
  DERIVED. THE GIVEN ROWS OF THIS SEAT. 4 by the template 'for every input the law returns true; each argument reads behind the call as it read before'; 0 by the template 'total and deterministic' (their statements: YtdodijoconoeeaaDoorTotals.lean).
  GIVEN WITH THE SEED: the statements are not yours to turn. If you find one false, say at which input.
  Laid BY PROGRAM, IN A SANDBOX (cutbox-rows.mjs): the forced cells as the released guide's own fill.sh prints them over the translation fc8de477c2c74bc3… (all of the seat's roots in one cut). By AI agents, Wed Nov 11 2026. No macro, syntax, notation, axiom, sorry.
-/
import Derived.Test.YtdodijoconoeeaaDoorChecked
import GoSem.PinnedTables
import GoSem.Claim
import GoSem.ClaimJoined
import GoSem.ClaimMapViews
import Derived.JoinedTies
import Derived.KernelRfl
namespace Go.Proofs.YtdodijoconoeeaaDoor
/- THE CELL 'sum', in the pinned program and in every row, IS THE sha256 OF THE DUMP (.gsa) THAT YtdodijoconoeeaaDoorProg.lean LOADS. Nothing in Lean hashes anything: it is a label: what it is worth is what the hold of that sum in a sandbox is worth. -/
noncomputable def Tryd.pinned : Pinned := { name := "ytdodijoconoeeaadoor", sum := "fc8de477c2c74bc38d3ec784464a71d75b592106970f1812b92746d0a83d45a6", checked := Tryd.checked }
namespace Rows
def none {H : Type} : Left H := { results := [], args := [] }

/- WHAT THE LISTED PACKAGE-LEVEL VARIABLES READ AS WHEN THE CALL BEGINS. Each datum BY PROGRAM (the guide's laid-datum.mjs) off the statement by which the dump's own 'gosem.cut.vars' lays the variable. In a bare row this is a premise. The card (YtdodijoconoeeaaDoorCards.lean) ties it to the program's text. -/
def laid_unicode_utf8_acceptRanges {H : Type} : DataW H := .agg [.agg [.lit (.int .u8 128), .lit (.int .u8 191)], .agg [.lit (.int .u8 160), .lit (.int .u8 191)], .agg [.lit (.int .u8 128), .lit (.int .u8 159)], .agg [.lit (.int .u8 144), .lit (.int .u8 191)], .agg [.lit (.int .u8 128), .lit (.int .u8 143)], .agg [.lit (.int .u8 0), .lit (.int .u8 0)], .agg [.lit (.int .u8 0), .lit (.int .u8 0)], .agg [.lit (.int .u8 0), .lit (.int .u8 0)], .agg [.lit (.int .u8 0), .lit (.int .u8 0)], .agg [.lit (.int .u8 0), .lit (.int .u8 0)], .agg [.lit (.int .u8 0), .lit (.int .u8 0)], .agg [.lit (.int .u8 0), .lit (.int .u8 0)], .agg [.lit (.int .u8 0), .lit (.int .u8 0)], .agg [.lit (.int .u8 0), .lit (.int .u8 0)], .agg [.lit (.int .u8 0), .lit (.int .u8 0)], .agg [.lit (.int .u8 0), .lit (.int .u8 0)]]
def laid_patchbay_net_ins {H : Type} : DataW H := .map [(.int .i64 0, .agg [.lit (.int .i64 0), .lit (.int .i64 0)]), (.int .i64 1, .agg [.lit (.int .i64 0), .lit (.int .i64 0)]), (.int .i64 2, .agg [.lit (.int .i64 1), .lit (.int .i64 1)]), (.int .i64 3, .agg [.lit (.int .i64 1), .lit (.int .i64 1)]), (.int .i64 4, .agg [.lit (.int .i64 2), .lit (.int .i64 8)]), (.int .i64 5, .agg [.lit (.int .i64 2), .lit (.int .i64 8)]), (.int .i64 6, .agg [.lit (.int .i64 2), .lit (.int .i64 8)]), (.int .i64 7, .agg [.lit (.int .i64 2), .lit (.int .i64 8)]), (.int .i64 8, .agg [.lit (.int .i64 2), .lit (.int .i64 8)]), (.int .i64 9, .agg [.lit (.int .i64 2), .lit (.int .i64 8)]), (.int .i64 10, .agg [.lit (.int .i64 0), .lit (.int .i64 8)])]
/-- One of Go's own tables, pinned by name: the form's constant. -/
def laid_unicode_utf8_first : DataW Unit := Go.Pinned.utf8First

/-- 'patchbaylaw06.NetChecks': WHATEVER THE INPUT: true; the input reads as it did. -/
def netChecksSpec : ChangeSpec := { name := "netChecks", fn := fun _ => fun
  | [d1, d2, d3] => { results := [.lit (.bool true)], args := [d1, d2, d3] }
  | _ => none }
def netChecksRow : OpenClaim := { program := "ytdodijoconoeeaadoor", sum := "fc8de477c2c74bc38d3ec784464a71d75b592106970f1812b92746d0a83d45a6", func := "patchbay/patchbaylaw06.NetChecks", spec := "netChecks", inPlace := ["internal/bytealg.IndexByteString", "internal/bytealg.IndexString", "internal/abi.NoEscape", "internal/bytealg.MakeNoZero"], unfollowed := true, recurses := true, named := ["unicode/utf8.first", "unicode/utf8.acceptRanges", "patchbay/net.ins", "internal/bytealg.MaxLen"], apart := false, laid := [("unicode/utf8.acceptRanges", laid_unicode_utf8_acceptRanges), ("patchbay/net.ins", laid_patchbay_net_ins), ("unicode/utf8.first", laid_unicode_utf8_first)] }
def NetChecksSaid : Prop := netChecksRow.holds Tryd.pinned (OpenSpec.ofChange netChecksSpec)

/-- ITS FALSE NEIGHBOUR: 'it returns false'. Refute it at one input. -/
def netChecksWrong : ChangeSpec := { name := "netChecks", fn := fun _ => fun
  | [d1, d2, d3] => { results := [.lit (.bool false)], args := [d1, d2, d3] }
  | _ => none }
def NetChecksWrongFalsely : Prop := netChecksRow.holds Tryd.pinned (OpenSpec.ofChange netChecksWrong)

/-- 'patchbaylaw06.NetCanon': WHATEVER THE INPUT: true; the input reads as it did. -/
def netCanonSpec : ChangeSpec := { name := "netCanon", fn := fun _ => fun
  | [d] => { results := [.lit (.bool true)], args := [d] }
  | _ => none }
def netCanonRow : OpenClaim := { program := "ytdodijoconoeeaadoor", sum := "fc8de477c2c74bc38d3ec784464a71d75b592106970f1812b92746d0a83d45a6", func := "patchbay/patchbaylaw06.NetCanon", spec := "netCanon", inPlace := ["internal/bytealg.IndexByteString", "internal/bytealg.IndexString", "internal/abi.NoEscape", "internal/bytealg.MakeNoZero"], unfollowed := true, recurses := true, named := ["unicode/utf8.first", "unicode/utf8.acceptRanges", "patchbay/net.ins", "internal/bytealg.MaxLen"], apart := false, laid := [("unicode/utf8.acceptRanges", laid_unicode_utf8_acceptRanges), ("patchbay/net.ins", laid_patchbay_net_ins), ("unicode/utf8.first", laid_unicode_utf8_first)] }
def NetCanonSaid : Prop := netCanonRow.holds Tryd.pinned (OpenSpec.ofChange netCanonSpec)

/-- ITS FALSE NEIGHBOUR: 'it returns false'. Refute it at one input. -/
def netCanonWrong : ChangeSpec := { name := "netCanon", fn := fun _ => fun
  | [d] => { results := [.lit (.bool false)], args := [d] }
  | _ => none }
def NetCanonWrongFalsely : Prop := netCanonRow.holds Tryd.pinned (OpenSpec.ofChange netCanonWrong)

/-- 'patchbaylaw06.NetCovers': WHATEVER THE INPUT: true; the input reads as it did. -/
def netCoversSpec : ChangeSpec := { name := "netCovers", fn := fun _ => fun
  | [d1, d2, d3] => { results := [.lit (.bool true)], args := [d1, d2, d3] }
  | _ => none }
def netCoversRow : OpenClaim := { program := "ytdodijoconoeeaadoor", sum := "fc8de477c2c74bc38d3ec784464a71d75b592106970f1812b92746d0a83d45a6", func := "patchbay/patchbaylaw06.NetCovers", spec := "netCovers", inPlace := ["internal/bytealg.IndexByteString", "internal/bytealg.IndexString", "internal/abi.NoEscape", "internal/bytealg.MakeNoZero"], unfollowed := true, recurses := true, named := ["unicode/utf8.first", "unicode/utf8.acceptRanges", "patchbay/net.ins", "internal/bytealg.MaxLen"], apart := false, laid := [("unicode/utf8.acceptRanges", laid_unicode_utf8_acceptRanges), ("patchbay/net.ins", laid_patchbay_net_ins), ("unicode/utf8.first", laid_unicode_utf8_first)] }
def NetCoversSaid : Prop := netCoversRow.holds Tryd.pinned (OpenSpec.ofChange netCoversSpec)

/-- ITS FALSE NEIGHBOUR: 'it returns false'. Refute it at one input. -/
def netCoversWrong : ChangeSpec := { name := "netCovers", fn := fun _ => fun
  | [d1, d2, d3] => { results := [.lit (.bool false)], args := [d1, d2, d3] }
  | _ => none }
def NetCoversWrongFalsely : Prop := netCoversRow.holds Tryd.pinned (OpenSpec.ofChange netCoversWrong)

/-- 'patchbaylaw06.NetNames': WHATEVER THE INPUT: true; the input reads as it did. -/
def netNamesSpec : ChangeSpec := { name := "netNames", fn := fun _ => fun
  | [d] => { results := [.lit (.bool true)], args := [d] }
  | _ => none }
def netNamesRow : OpenClaim := { program := "ytdodijoconoeeaadoor", sum := "fc8de477c2c74bc38d3ec784464a71d75b592106970f1812b92746d0a83d45a6", func := "patchbay/patchbaylaw06.NetNames", spec := "netNames", inPlace := ["internal/bytealg.IndexByteString", "internal/bytealg.IndexString", "internal/abi.NoEscape", "internal/bytealg.MakeNoZero"], unfollowed := true, recurses := true, named := ["unicode/utf8.first", "unicode/utf8.acceptRanges", "patchbay/net.ins", "internal/bytealg.MaxLen"], apart := false, laid := [("unicode/utf8.acceptRanges", laid_unicode_utf8_acceptRanges), ("patchbay/net.ins", laid_patchbay_net_ins), ("unicode/utf8.first", laid_unicode_utf8_first)] }
def NetNamesSaid : Prop := netNamesRow.holds Tryd.pinned (OpenSpec.ofChange netNamesSpec)

/-- ITS FALSE NEIGHBOUR: 'it returns false'. Refute it at one input. -/
def netNamesWrong : ChangeSpec := { name := "netNames", fn := fun _ => fun
  | [d] => { results := [.lit (.bool false)], args := [d] }
  | _ => none }
def NetNamesWrongFalsely : Prop := netNamesRow.holds Tryd.pinned (OpenSpec.ofChange netNamesWrong)

/- THE SECOND FORM. 'bulk': how many values and letters a reading holds, each counted each time it is reached (what is shared counts as often as it is met; a slice's spare places count too). A statement '..UptoSaid' is the law's where the arguments, and the package variables that the reading takes, are together of bulk at most 1048576: NARROWER than '..Said'. Prove '..Said' where nothing that the law and all that it calls make is longer than what came in: it says more and counts as full. Else prove '..UptoSaid'. A law counts once. -/
mutual
def uptoBulk {H : Type} : DataW H → Nat
  | .lit (.string bytes) => bytes.length + 1
  | .lit _ => 1
  | .nil => 1
  | .ptr d => uptoBulk d + 1
  | .slice elems spare => uptoBulkAll elems + uptoBulkAll spare + 1
  | .agg parts => uptoBulkAll parts + 1
  | .iface _ d => uptoBulk d + 1
  | .map entries => uptoBulkEntries entries + 1
  | .held _ => 1
def uptoBulkAll {H : Type} : List (DataW H) → Nat
  | [] => 0
  | d :: r => uptoBulk d + uptoBulkAll r
def uptoBulkEntries {H : Type} : List (Lit × DataW H) → Nat
  | [] => 0
  | x :: r => uptoBulkEntry x + uptoBulkEntries r
def uptoBulkEntry {H : Type} : Lit × DataW H → Nat
  | (.string bytes, d) => bytes.length + uptoBulk d + 1
  | (_, d) => uptoBulk d + 1
 end
def uptoSmall : (H : Type) → List (DataW H) → Bool := fun _ ds => decide (uptoBulkAll ds ≤ 1048576)
def OpenSpec.upto (s : _root_.Go.ChangeSpec) : _root_.Go.OpenSpec := { _root_.Go.OpenSpec.ofChange s with cond := some uptoSmall }

/-- 'patchbaylaw06.NetChecks', WHERE WHAT IT READS IS OF BULK AT MOST 1048576: true; the input reads as it did. -/
def netChecksUptoRow : OpenClaim := { program := "ytdodijoconoeeaadoor", sum := "fc8de477c2c74bc38d3ec784464a71d75b592106970f1812b92746d0a83d45a6", func := "patchbay/patchbaylaw06.NetChecks", spec := "netChecks", inPlace := ["internal/bytealg.IndexByteString", "internal/bytealg.IndexString", "internal/abi.NoEscape", "internal/bytealg.MakeNoZero"], unfollowed := true, recurses := true, named := ["unicode/utf8.first", "unicode/utf8.acceptRanges", "patchbay/net.ins", "internal/bytealg.MaxLen"], apart := false, laid := [("unicode/utf8.acceptRanges", laid_unicode_utf8_acceptRanges), ("patchbay/net.ins", laid_patchbay_net_ins), ("unicode/utf8.first", laid_unicode_utf8_first)], narrowed := true }
def NetChecksUptoSaid : Prop := netChecksUptoRow.holds Tryd.pinned (OpenSpec.upto netChecksSpec)

/-- 'patchbaylaw06.NetCanon', WHERE WHAT IT READS IS OF BULK AT MOST 1048576: true; the input reads as it did. -/
def netCanonUptoRow : OpenClaim := { program := "ytdodijoconoeeaadoor", sum := "fc8de477c2c74bc38d3ec784464a71d75b592106970f1812b92746d0a83d45a6", func := "patchbay/patchbaylaw06.NetCanon", spec := "netCanon", inPlace := ["internal/bytealg.IndexByteString", "internal/bytealg.IndexString", "internal/abi.NoEscape", "internal/bytealg.MakeNoZero"], unfollowed := true, recurses := true, named := ["unicode/utf8.first", "unicode/utf8.acceptRanges", "patchbay/net.ins", "internal/bytealg.MaxLen"], apart := false, laid := [("unicode/utf8.acceptRanges", laid_unicode_utf8_acceptRanges), ("patchbay/net.ins", laid_patchbay_net_ins), ("unicode/utf8.first", laid_unicode_utf8_first)], narrowed := true }
def NetCanonUptoSaid : Prop := netCanonUptoRow.holds Tryd.pinned (OpenSpec.upto netCanonSpec)

/-- 'patchbaylaw06.NetCovers', WHERE WHAT IT READS IS OF BULK AT MOST 1048576: true; the input reads as it did. -/
def netCoversUptoRow : OpenClaim := { program := "ytdodijoconoeeaadoor", sum := "fc8de477c2c74bc38d3ec784464a71d75b592106970f1812b92746d0a83d45a6", func := "patchbay/patchbaylaw06.NetCovers", spec := "netCovers", inPlace := ["internal/bytealg.IndexByteString", "internal/bytealg.IndexString", "internal/abi.NoEscape", "internal/bytealg.MakeNoZero"], unfollowed := true, recurses := true, named := ["unicode/utf8.first", "unicode/utf8.acceptRanges", "patchbay/net.ins", "internal/bytealg.MaxLen"], apart := false, laid := [("unicode/utf8.acceptRanges", laid_unicode_utf8_acceptRanges), ("patchbay/net.ins", laid_patchbay_net_ins), ("unicode/utf8.first", laid_unicode_utf8_first)], narrowed := true }
def NetCoversUptoSaid : Prop := netCoversUptoRow.holds Tryd.pinned (OpenSpec.upto netCoversSpec)

/-- 'patchbaylaw06.NetNames', WHERE WHAT IT READS IS OF BULK AT MOST 1048576: true; the input reads as it did. -/
def netNamesUptoRow : OpenClaim := { program := "ytdodijoconoeeaadoor", sum := "fc8de477c2c74bc38d3ec784464a71d75b592106970f1812b92746d0a83d45a6", func := "patchbay/patchbaylaw06.NetNames", spec := "netNames", inPlace := ["internal/bytealg.IndexByteString", "internal/bytealg.IndexString", "internal/abi.NoEscape", "internal/bytealg.MakeNoZero"], unfollowed := true, recurses := true, named := ["unicode/utf8.first", "unicode/utf8.acceptRanges", "patchbay/net.ins", "internal/bytealg.MaxLen"], apart := false, laid := [("unicode/utf8.acceptRanges", laid_unicode_utf8_acceptRanges), ("patchbay/net.ins", laid_patchbay_net_ins), ("unicode/utf8.first", laid_unicode_utf8_first)], narrowed := true }
def NetNamesUptoSaid : Prop := netNamesUptoRow.holds Tryd.pinned (OpenSpec.upto netNamesSpec)

end Rows
end Go.Proofs.YtdodijoconoeeaaDoor

/-
  NARROWER THAN 'FOR EVERY INPUT', by the rows' own cells (each row's printed sentence says how): RaiseTells: laid · RaiseGates: laid · RaiseNames: laid · RaiseBack: laid · RaiseMeans: laid · RaiseLowers: laid.
  DERIVED. THE GIVEN ROWS OF THIS SEAT. 6 by the template 'for every input the law returns true; each argument reads behind the call as it read before'; 0 by the template 'total and deterministic' (their statements: YtchjijfjidlpjaaGreatDoorTotals.lean).
  GIVEN WITH THE SEED: the statements are not yours to turn. If you find one false, say at which input.
  Laid BY PROGRAM, IN A SANDBOX (cutbox-rows.mjs): the forced cells as the released guide's own fill.sh prints them over the translation 1265054b9d764e10… (all of the seat's roots in one cut). By AI agents, Wed Nov 11 2026. No macro, syntax, notation, axiom, sorry.
-/
import Derived.Test.YtchjijfjidlpjaaGreatDoorChecked
import GoSem.PinnedTables
import GoSem.Claim
import GoSem.ClaimJoined
import GoSem.ClaimMapViews
import Derived.JoinedTies
import Derived.KernelRfl
namespace Go.Proofs.YtchjijfjidlpjaaGreatDoor
/- THE CELL 'sum', in the pinned program and in every row, IS THE sha256 OF THE DUMP (.gsa) THAT YtchjijfjidlpjaaGreatDoorProg.lean LOADS. Nothing in Lean hashes anything: it is a label: what it is worth is what the hold of that sum in a sandbox is worth. -/
noncomputable def Tryz.pinned : Pinned := { name := "ytchjijfjidlpjaagreatdoor", sum := "1265054b9d764e1081c5e0133ff66894c3f1c6b642f86e38ea7627235390ffd6", checked := Tryz.checked }
namespace Rows
def none {H : Type} : Left H := { results := [], args := [] }

/- WHAT THE LISTED PACKAGE-LEVEL VARIABLES READ AS WHEN THE CALL BEGINS. Each datum BY PROGRAM (the guide's laid-datum.mjs) off the statement by which the dump's own 'gosem.cut.vars' lays the variable. In a bare row this is a premise. The card (YtchjijfjidlpjaaGreatDoorCards.lean) ties it to the program's text. -/
def laid_math_bits_deBruijn32tab {H : Type} : DataW H := .agg [.lit (.int .u8 0), .lit (.int .u8 1), .lit (.int .u8 28), .lit (.int .u8 2), .lit (.int .u8 29), .lit (.int .u8 14), .lit (.int .u8 24), .lit (.int .u8 3), .lit (.int .u8 30), .lit (.int .u8 22), .lit (.int .u8 20), .lit (.int .u8 15), .lit (.int .u8 25), .lit (.int .u8 17), .lit (.int .u8 4), .lit (.int .u8 8), .lit (.int .u8 31), .lit (.int .u8 27), .lit (.int .u8 13), .lit (.int .u8 23), .lit (.int .u8 21), .lit (.int .u8 19), .lit (.int .u8 16), .lit (.int .u8 7), .lit (.int .u8 26), .lit (.int .u8 12), .lit (.int .u8 18), .lit (.int .u8 6), .lit (.int .u8 11), .lit (.int .u8 5), .lit (.int .u8 10), .lit (.int .u8 9)]
def laid_math_bits_deBruijn64tab {H : Type} : DataW H := .agg [.lit (.int .u8 0), .lit (.int .u8 1), .lit (.int .u8 56), .lit (.int .u8 2), .lit (.int .u8 57), .lit (.int .u8 49), .lit (.int .u8 28), .lit (.int .u8 3), .lit (.int .u8 61), .lit (.int .u8 58), .lit (.int .u8 42), .lit (.int .u8 50), .lit (.int .u8 38), .lit (.int .u8 29), .lit (.int .u8 17), .lit (.int .u8 4), .lit (.int .u8 62), .lit (.int .u8 47), .lit (.int .u8 59), .lit (.int .u8 36), .lit (.int .u8 45), .lit (.int .u8 43), .lit (.int .u8 51), .lit (.int .u8 22), .lit (.int .u8 53), .lit (.int .u8 39), .lit (.int .u8 33), .lit (.int .u8 30), .lit (.int .u8 24), .lit (.int .u8 18), .lit (.int .u8 12), .lit (.int .u8 5), .lit (.int .u8 63), .lit (.int .u8 55), .lit (.int .u8 48), .lit (.int .u8 27), .lit (.int .u8 60), .lit (.int .u8 41), .lit (.int .u8 37), .lit (.int .u8 16), .lit (.int .u8 46), .lit (.int .u8 35), .lit (.int .u8 44), .lit (.int .u8 21), .lit (.int .u8 52), .lit (.int .u8 32), .lit (.int .u8 23), .lit (.int .u8 11), .lit (.int .u8 54), .lit (.int .u8 26), .lit (.int .u8 40), .lit (.int .u8 15), .lit (.int .u8 34), .lit (.int .u8 20), .lit (.int .u8 31), .lit (.int .u8 10), .lit (.int .u8 25), .lit (.int .u8 14), .lit (.int .u8 19), .lit (.int .u8 9), .lit (.int .u8 13), .lit (.int .u8 8), .lit (.int .u8 7), .lit (.int .u8 6)]
def laid_internal_strconv_uint64pow10 {H : Type} : DataW H := .agg [.lit (.int .u64 1), .lit (.int .u64 10), .lit (.int .u64 100), .lit (.int .u64 1000), .lit (.int .u64 10000), .lit (.int .u64 100000), .lit (.int .u64 1000000), .lit (.int .u64 10000000), .lit (.int .u64 100000000), .lit (.int .u64 1000000000), .lit (.int .u64 10000000000), .lit (.int .u64 100000000000), .lit (.int .u64 1000000000000), .lit (.int .u64 10000000000000), .lit (.int .u64 100000000000000), .lit (.int .u64 1000000000000000), .lit (.int .u64 10000000000000000), .lit (.int .u64 100000000000000000), .lit (.int .u64 1000000000000000000), .lit (.int .u64 10000000000000000000)]
def laid_unicode_utf8_acceptRanges {H : Type} : DataW H := .agg [.agg [.lit (.int .u8 128), .lit (.int .u8 191)], .agg [.lit (.int .u8 160), .lit (.int .u8 191)], .agg [.lit (.int .u8 128), .lit (.int .u8 159)], .agg [.lit (.int .u8 144), .lit (.int .u8 191)], .agg [.lit (.int .u8 128), .lit (.int .u8 143)], .agg [.lit (.int .u8 0), .lit (.int .u8 0)], .agg [.lit (.int .u8 0), .lit (.int .u8 0)], .agg [.lit (.int .u8 0), .lit (.int .u8 0)], .agg [.lit (.int .u8 0), .lit (.int .u8 0)], .agg [.lit (.int .u8 0), .lit (.int .u8 0)], .agg [.lit (.int .u8 0), .lit (.int .u8 0)], .agg [.lit (.int .u8 0), .lit (.int .u8 0)], .agg [.lit (.int .u8 0), .lit (.int .u8 0)], .agg [.lit (.int .u8 0), .lit (.int .u8 0)], .agg [.lit (.int .u8 0), .lit (.int .u8 0)], .agg [.lit (.int .u8 0), .lit (.int .u8 0)]]
def laid_patchbay_net_ins {H : Type} : DataW H := .map [(.int .i64 0, .agg [.lit (.int .i64 0), .lit (.int .i64 0)]), (.int .i64 1, .agg [.lit (.int .i64 0), .lit (.int .i64 0)]), (.int .i64 2, .agg [.lit (.int .i64 1), .lit (.int .i64 1)]), (.int .i64 3, .agg [.lit (.int .i64 1), .lit (.int .i64 1)]), (.int .i64 4, .agg [.lit (.int .i64 2), .lit (.int .i64 8)]), (.int .i64 5, .agg [.lit (.int .i64 2), .lit (.int .i64 8)]), (.int .i64 6, .agg [.lit (.int .i64 2), .lit (.int .i64 8)]), (.int .i64 7, .agg [.lit (.int .i64 2), .lit (.int .i64 8)]), (.int .i64 8, .agg [.lit (.int .i64 2), .lit (.int .i64 8)]), (.int .i64 9, .agg [.lit (.int .i64 2), .lit (.int .i64 8)]), (.int .i64 10, .agg [.lit (.int .i64 0), .lit (.int .i64 8)])]
/-- One of Go's own tables, pinned by name: the form's constant. -/
def laid_unicode_utf8_first : DataW Unit := Go.Pinned.utf8First
def laid_patchbay_lower_ops {H : Type} : DataW H := .iface "func table" (.map [(.int .i64 0, .agg [.iface "func" (.lit (.string [40, 42, 112, 97, 116, 99, 104, 98, 97, 121, 47, 108, 111, 119, 101, 114, 46, 98, 117, 105, 108, 100, 101, 114, 41, 46, 110, 111, 110, 101])), .lit (.int .i64 0)]), (.int .i64 1, .agg [.iface "func" (.lit (.string [40, 42, 112, 97, 116, 99, 104, 98, 97, 121, 47, 108, 111, 119, 101, 114, 46, 98, 117, 105, 108, 100, 101, 114, 41, 46, 110, 111, 110, 101])), .lit (.int .i64 1)]), (.int .i64 2, .agg [.iface "func" (.lit (.string [40, 42, 112, 97, 116, 99, 104, 98, 97, 121, 47, 108, 111, 119, 101, 114, 46, 98, 117, 105, 108, 100, 101, 114, 41, 46, 97, 108, 108])), .lit (.int .i64 0)]), (.int .i64 3, .agg [.iface "func" (.lit (.string [40, 42, 112, 97, 116, 99, 104, 98, 97, 121, 47, 108, 111, 119, 101, 114, 46, 98, 117, 105, 108, 100, 101, 114, 41, 46, 97, 108, 108])), .lit (.int .i64 1)]), (.int .i64 4, .agg [.iface "func" (.lit (.string [40, 42, 112, 97, 116, 99, 104, 98, 97, 121, 47, 108, 111, 119, 101, 114, 46, 98, 117, 105, 108, 100, 101, 114, 41, 46, 97, 108, 108])), .lit (.int .i64 0)]), (.int .i64 5, .agg [.iface "func" (.lit (.string [40, 42, 112, 97, 116, 99, 104, 98, 97, 121, 47, 108, 111, 119, 101, 114, 46, 98, 117, 105, 108, 100, 101, 114, 41, 46, 97, 108, 108])), .lit (.int .i64 1)]), (.int .i64 6, .agg [.iface "func" (.lit (.string [40, 42, 112, 97, 116, 99, 104, 98, 97, 121, 47, 108, 111, 119, 101, 114, 46, 98, 117, 105, 108, 100, 101, 114, 41, 46, 111, 110, 101])), .lit (.int .i64 0)]), (.int .i64 7, .agg [.iface "func" (.lit (.string [40, 42, 112, 97, 116, 99, 104, 98, 97, 121, 47, 108, 111, 119, 101, 114, 46, 98, 117, 105, 108, 100, 101, 114, 41, 46, 111, 110, 101])), .lit (.int .i64 1)]), (.int .i64 8, .agg [.iface "func" (.lit (.string [40, 42, 112, 97, 116, 99, 104, 98, 97, 121, 47, 108, 111, 119, 101, 114, 46, 98, 117, 105, 108, 100, 101, 114, 41, 46, 111, 100, 100])), .lit (.int .i64 0)]), (.int .i64 9, .agg [.iface "func" (.lit (.string [40, 42, 112, 97, 116, 99, 104, 98, 97, 121, 47, 108, 111, 119, 101, 114, 46, 98, 117, 105, 108, 100, 101, 114, 41, 46, 111, 100, 100])), .lit (.int .i64 1)])])

/-- 'patchbaylaw12.RaiseTells': WHATEVER THE INPUT: true; the input reads as it did. -/
def raiseTellsSpec : ChangeSpec := { name := "raiseTells", fn := fun _ => fun
  | [d] => { results := [.lit (.bool true)], args := [d] }
  | _ => none }
def raiseTellsRow : OpenClaim := { program := "ytchjijfjidlpjaagreatdoor", sum := "1265054b9d764e1081c5e0133ff66894c3f1c6b642f86e38ea7627235390ffd6", func := "patchbay/patchbaylaw12.RaiseTells", spec := "raiseTells", inPlace := ["internal/bytealg.IndexByteString", "internal/bytealg.IndexString"], unfollowed := true, recurses := true, named := ["internal/strconv.uint64pow10", "math/bits.deBruijn32tab", "math/bits.deBruijn64tab", "unicode/utf8.first", "unicode/utf8.acceptRanges", "patchbay/net.ins", "internal/bytealg.MaxLen"], plainKeys := false, apart := false, laid := [("math/bits.deBruijn32tab", laid_math_bits_deBruijn32tab), ("math/bits.deBruijn64tab", laid_math_bits_deBruijn64tab), ("internal/strconv.uint64pow10", laid_internal_strconv_uint64pow10), ("unicode/utf8.acceptRanges", laid_unicode_utf8_acceptRanges), ("patchbay/net.ins", laid_patchbay_net_ins), ("unicode/utf8.first", laid_unicode_utf8_first)] }
def RaiseTellsSaid : Prop := raiseTellsRow.holds Tryz.pinned (OpenSpec.ofChange raiseTellsSpec)

/-- ITS FALSE NEIGHBOUR: 'it returns false'. Refute it at one input. -/
def raiseTellsWrong : ChangeSpec := { name := "raiseTells", fn := fun _ => fun
  | [d] => { results := [.lit (.bool false)], args := [d] }
  | _ => none }
def RaiseTellsWrongFalsely : Prop := raiseTellsRow.holds Tryz.pinned (OpenSpec.ofChange raiseTellsWrong)

/-- 'patchbaylaw12.RaiseGates': WHATEVER THE INPUT: true; the input reads as it did. -/
def raiseGatesSpec : ChangeSpec := { name := "raiseGates", fn := fun _ => fun
  | [d] => { results := [.lit (.bool true)], args := [d] }
  | _ => none }
def raiseGatesRow : OpenClaim := { program := "ytchjijfjidlpjaagreatdoor", sum := "1265054b9d764e1081c5e0133ff66894c3f1c6b642f86e38ea7627235390ffd6", func := "patchbay/patchbaylaw12.RaiseGates", spec := "raiseGates", inPlace := ["internal/bytealg.IndexByteString", "internal/bytealg.IndexString"], unfollowed := true, recurses := true, named := ["internal/strconv.uint64pow10", "math/bits.deBruijn32tab", "math/bits.deBruijn64tab", "unicode/utf8.first", "unicode/utf8.acceptRanges", "patchbay/net.ins", "internal/bytealg.MaxLen"], plainKeys := false, apart := false, laid := [("math/bits.deBruijn32tab", laid_math_bits_deBruijn32tab), ("math/bits.deBruijn64tab", laid_math_bits_deBruijn64tab), ("internal/strconv.uint64pow10", laid_internal_strconv_uint64pow10), ("unicode/utf8.acceptRanges", laid_unicode_utf8_acceptRanges), ("patchbay/net.ins", laid_patchbay_net_ins), ("unicode/utf8.first", laid_unicode_utf8_first)] }
def RaiseGatesSaid : Prop := raiseGatesRow.holds Tryz.pinned (OpenSpec.ofChange raiseGatesSpec)

/-- ITS FALSE NEIGHBOUR: 'it returns false'. Refute it at one input. -/
def raiseGatesWrong : ChangeSpec := { name := "raiseGates", fn := fun _ => fun
  | [d] => { results := [.lit (.bool false)], args := [d] }
  | _ => none }
def RaiseGatesWrongFalsely : Prop := raiseGatesRow.holds Tryz.pinned (OpenSpec.ofChange raiseGatesWrong)

/-- 'patchbaylaw12.RaiseNames': WHATEVER THE INPUT: true; the input reads as it did. -/
def raiseNamesSpec : ChangeSpec := { name := "raiseNames", fn := fun _ => fun
  | [d] => { results := [.lit (.bool true)], args := [d] }
  | _ => none }
def raiseNamesRow : OpenClaim := { program := "ytchjijfjidlpjaagreatdoor", sum := "1265054b9d764e1081c5e0133ff66894c3f1c6b642f86e38ea7627235390ffd6", func := "patchbay/patchbaylaw12.RaiseNames", spec := "raiseNames", inPlace := ["internal/bytealg.IndexByteString", "internal/bytealg.IndexString"], unfollowed := true, recurses := true, named := ["internal/strconv.uint64pow10", "math/bits.deBruijn32tab", "math/bits.deBruijn64tab", "unicode/utf8.first", "unicode/utf8.acceptRanges", "patchbay/net.ins", "internal/bytealg.MaxLen"], plainKeys := false, apart := false, laid := [("math/bits.deBruijn32tab", laid_math_bits_deBruijn32tab), ("math/bits.deBruijn64tab", laid_math_bits_deBruijn64tab), ("internal/strconv.uint64pow10", laid_internal_strconv_uint64pow10), ("unicode/utf8.acceptRanges", laid_unicode_utf8_acceptRanges), ("patchbay/net.ins", laid_patchbay_net_ins), ("unicode/utf8.first", laid_unicode_utf8_first)] }
def RaiseNamesSaid : Prop := raiseNamesRow.holds Tryz.pinned (OpenSpec.ofChange raiseNamesSpec)

/-- ITS FALSE NEIGHBOUR: 'it returns false'. Refute it at one input. -/
def raiseNamesWrong : ChangeSpec := { name := "raiseNames", fn := fun _ => fun
  | [d] => { results := [.lit (.bool false)], args := [d] }
  | _ => none }
def RaiseNamesWrongFalsely : Prop := raiseNamesRow.holds Tryz.pinned (OpenSpec.ofChange raiseNamesWrong)

/-- 'patchbaylaw12.RaiseBack': WHATEVER THE INPUT: true; the input reads as it did. -/
def raiseBackSpec : ChangeSpec := { name := "raiseBack", fn := fun _ => fun
  | [d] => { results := [.lit (.bool true)], args := [d] }
  | _ => none }
def raiseBackRow : OpenClaim := { program := "ytchjijfjidlpjaagreatdoor", sum := "1265054b9d764e1081c5e0133ff66894c3f1c6b642f86e38ea7627235390ffd6", func := "patchbay/patchbaylaw12.RaiseBack", spec := "raiseBack", inPlace := ["internal/bytealg.IndexByteString", "internal/bytealg.IndexString"], unfollowed := true, recurses := true, named := ["internal/strconv.uint64pow10", "math/bits.deBruijn32tab", "math/bits.deBruijn64tab", "unicode/utf8.first", "unicode/utf8.acceptRanges", "patchbay/net.ins", "patchbay/lower.ops", "internal/bytealg.MaxLen"], plainKeys := false, apart := false, laid := [("math/bits.deBruijn32tab", laid_math_bits_deBruijn32tab), ("math/bits.deBruijn64tab", laid_math_bits_deBruijn64tab), ("internal/strconv.uint64pow10", laid_internal_strconv_uint64pow10), ("unicode/utf8.acceptRanges", laid_unicode_utf8_acceptRanges), ("patchbay/net.ins", laid_patchbay_net_ins), ("patchbay/lower.ops", laid_patchbay_lower_ops), ("unicode/utf8.first", laid_unicode_utf8_first)] }
def RaiseBackSaid : Prop := raiseBackRow.holds Tryz.pinned (OpenSpec.ofChange raiseBackSpec)

/-- ITS FALSE NEIGHBOUR: 'it returns false'. Refute it at one input. -/
def raiseBackWrong : ChangeSpec := { name := "raiseBack", fn := fun _ => fun
  | [d] => { results := [.lit (.bool false)], args := [d] }
  | _ => none }
def RaiseBackWrongFalsely : Prop := raiseBackRow.holds Tryz.pinned (OpenSpec.ofChange raiseBackWrong)

/-- 'patchbaylaw12.RaiseMeans': WHATEVER THE INPUT: true; the input reads as it did. -/
def raiseMeansSpec : ChangeSpec := { name := "raiseMeans", fn := fun _ => fun
  | [d1, d2, d3] => { results := [.lit (.bool true)], args := [d1, d2, d3] }
  | _ => none }
def raiseMeansRow : OpenClaim := { program := "ytchjijfjidlpjaagreatdoor", sum := "1265054b9d764e1081c5e0133ff66894c3f1c6b642f86e38ea7627235390ffd6", func := "patchbay/patchbaylaw12.RaiseMeans", spec := "raiseMeans", inPlace := ["internal/bytealg.IndexByteString", "internal/bytealg.IndexString"], unfollowed := true, recurses := true, named := ["internal/strconv.uint64pow10", "math/bits.deBruijn32tab", "math/bits.deBruijn64tab", "unicode/utf8.first", "unicode/utf8.acceptRanges", "patchbay/net.ins", "internal/bytealg.MaxLen"], plainKeys := false, apart := false, laid := [("math/bits.deBruijn32tab", laid_math_bits_deBruijn32tab), ("math/bits.deBruijn64tab", laid_math_bits_deBruijn64tab), ("internal/strconv.uint64pow10", laid_internal_strconv_uint64pow10), ("unicode/utf8.acceptRanges", laid_unicode_utf8_acceptRanges), ("patchbay/net.ins", laid_patchbay_net_ins), ("unicode/utf8.first", laid_unicode_utf8_first)] }
def RaiseMeansSaid : Prop := raiseMeansRow.holds Tryz.pinned (OpenSpec.ofChange raiseMeansSpec)

/-- ITS FALSE NEIGHBOUR: 'it returns false'. Refute it at one input. -/
def raiseMeansWrong : ChangeSpec := { name := "raiseMeans", fn := fun _ => fun
  | [d1, d2, d3] => { results := [.lit (.bool false)], args := [d1, d2, d3] }
  | _ => none }
def RaiseMeansWrongFalsely : Prop := raiseMeansRow.holds Tryz.pinned (OpenSpec.ofChange raiseMeansWrong)

/-- 'patchbaylaw12.RaiseLowers': WHATEVER THE INPUT: true; the input reads as it did. -/
def raiseLowersSpec : ChangeSpec := { name := "raiseLowers", fn := fun _ => fun
  | [d1, d2, d3] => { results := [.lit (.bool true)], args := [d1, d2, d3] }
  | _ => none }
def raiseLowersRow : OpenClaim := { program := "ytchjijfjidlpjaagreatdoor", sum := "1265054b9d764e1081c5e0133ff66894c3f1c6b642f86e38ea7627235390ffd6", func := "patchbay/patchbaylaw12.RaiseLowers", spec := "raiseLowers", inPlace := ["internal/bytealg.IndexByteString", "internal/bytealg.IndexString"], unfollowed := true, recurses := true, named := ["internal/strconv.uint64pow10", "math/bits.deBruijn32tab", "math/bits.deBruijn64tab", "unicode/utf8.first", "unicode/utf8.acceptRanges", "patchbay/net.ins", "patchbay/lower.ops", "internal/bytealg.MaxLen"], plainKeys := false, apart := false, laid := [("math/bits.deBruijn32tab", laid_math_bits_deBruijn32tab), ("math/bits.deBruijn64tab", laid_math_bits_deBruijn64tab), ("internal/strconv.uint64pow10", laid_internal_strconv_uint64pow10), ("unicode/utf8.acceptRanges", laid_unicode_utf8_acceptRanges), ("patchbay/net.ins", laid_patchbay_net_ins), ("patchbay/lower.ops", laid_patchbay_lower_ops), ("unicode/utf8.first", laid_unicode_utf8_first)] }
def RaiseLowersSaid : Prop := raiseLowersRow.holds Tryz.pinned (OpenSpec.ofChange raiseLowersSpec)

/-- ITS FALSE NEIGHBOUR: 'it returns false'. Refute it at one input. -/
def raiseLowersWrong : ChangeSpec := { name := "raiseLowers", fn := fun _ => fun
  | [d1, d2, d3] => { results := [.lit (.bool false)], args := [d1, d2, d3] }
  | _ => none }
def RaiseLowersWrongFalsely : Prop := raiseLowersRow.holds Tryz.pinned (OpenSpec.ofChange raiseLowersWrong)

/- THE SECOND FORM. 'bulk': how many values and letters a reading holds, each counted each time it is reached (what is shared counts as often as it is met; a slice's spare places count too). A statement '..UptoSaid' is the law's where the arguments, and the package variables that the reading takes, are together of bulk at most 1048576: NARROWER than '..Said'. Prove '..Said' where nothing that the law and all that it calls make is longer than what came in: it says more and counts as full. Else prove '..UptoSaid'. A law counts once. -/
mutual
def uptoBulk {H : Type} : DataW H → Nat
  | .lit (.string bytes) => bytes.length + 1
  | .lit _ => 1
  | .nil => 1
  | .ptr d => uptoBulk d + 1
  | .slice elems spare => uptoBulkAll elems + uptoBulkAll spare + 1
  | .agg parts => uptoBulkAll parts + 1
  | .iface _ d => uptoBulk d + 1
  | .map entries => uptoBulkEntries entries + 1
  | .held _ => 1
def uptoBulkAll {H : Type} : List (DataW H) → Nat
  | [] => 0
  | d :: r => uptoBulk d + uptoBulkAll r
def uptoBulkEntries {H : Type} : List (Lit × DataW H) → Nat
  | [] => 0
  | x :: r => uptoBulkEntry x + uptoBulkEntries r
def uptoBulkEntry {H : Type} : Lit × DataW H → Nat
  | (.string bytes, d) => bytes.length + uptoBulk d + 1
  | (_, d) => uptoBulk d + 1
 end
def uptoSmall : (H : Type) → List (DataW H) → Bool := fun _ ds => decide (uptoBulkAll ds ≤ 1048576)
def OpenSpec.upto (s : _root_.Go.ChangeSpec) : _root_.Go.OpenSpec := { _root_.Go.OpenSpec.ofChange s with cond := some uptoSmall }

/-- 'patchbaylaw12.RaiseTells', WHERE WHAT IT READS IS OF BULK AT MOST 1048576: true; the input reads as it did. -/
def raiseTellsUptoRow : OpenClaim := { program := "ytchjijfjidlpjaagreatdoor", sum := "1265054b9d764e1081c5e0133ff66894c3f1c6b642f86e38ea7627235390ffd6", func := "patchbay/patchbaylaw12.RaiseTells", spec := "raiseTells", inPlace := ["internal/bytealg.IndexByteString", "internal/bytealg.IndexString"], unfollowed := true, recurses := true, named := ["internal/strconv.uint64pow10", "math/bits.deBruijn32tab", "math/bits.deBruijn64tab", "unicode/utf8.first", "unicode/utf8.acceptRanges", "patchbay/net.ins", "internal/bytealg.MaxLen"], plainKeys := false, apart := false, laid := [("math/bits.deBruijn32tab", laid_math_bits_deBruijn32tab), ("math/bits.deBruijn64tab", laid_math_bits_deBruijn64tab), ("internal/strconv.uint64pow10", laid_internal_strconv_uint64pow10), ("unicode/utf8.acceptRanges", laid_unicode_utf8_acceptRanges), ("patchbay/net.ins", laid_patchbay_net_ins), ("unicode/utf8.first", laid_unicode_utf8_first)], narrowed := true }
def RaiseTellsUptoSaid : Prop := raiseTellsUptoRow.holds Tryz.pinned (OpenSpec.upto raiseTellsSpec)

/-- 'patchbaylaw12.RaiseGates', WHERE WHAT IT READS IS OF BULK AT MOST 1048576: true; the input reads as it did. -/
def raiseGatesUptoRow : OpenClaim := { program := "ytchjijfjidlpjaagreatdoor", sum := "1265054b9d764e1081c5e0133ff66894c3f1c6b642f86e38ea7627235390ffd6", func := "patchbay/patchbaylaw12.RaiseGates", spec := "raiseGates", inPlace := ["internal/bytealg.IndexByteString", "internal/bytealg.IndexString"], unfollowed := true, recurses := true, named := ["internal/strconv.uint64pow10", "math/bits.deBruijn32tab", "math/bits.deBruijn64tab", "unicode/utf8.first", "unicode/utf8.acceptRanges", "patchbay/net.ins", "internal/bytealg.MaxLen"], plainKeys := false, apart := false, laid := [("math/bits.deBruijn32tab", laid_math_bits_deBruijn32tab), ("math/bits.deBruijn64tab", laid_math_bits_deBruijn64tab), ("internal/strconv.uint64pow10", laid_internal_strconv_uint64pow10), ("unicode/utf8.acceptRanges", laid_unicode_utf8_acceptRanges), ("patchbay/net.ins", laid_patchbay_net_ins), ("unicode/utf8.first", laid_unicode_utf8_first)], narrowed := true }
def RaiseGatesUptoSaid : Prop := raiseGatesUptoRow.holds Tryz.pinned (OpenSpec.upto raiseGatesSpec)

/-- 'patchbaylaw12.RaiseNames', WHERE WHAT IT READS IS OF BULK AT MOST 1048576: true; the input reads as it did. -/
def raiseNamesUptoRow : OpenClaim := { program := "ytchjijfjidlpjaagreatdoor", sum := "1265054b9d764e1081c5e0133ff66894c3f1c6b642f86e38ea7627235390ffd6", func := "patchbay/patchbaylaw12.RaiseNames", spec := "raiseNames", inPlace := ["internal/bytealg.IndexByteString", "internal/bytealg.IndexString"], unfollowed := true, recurses := true, named := ["internal/strconv.uint64pow10", "math/bits.deBruijn32tab", "math/bits.deBruijn64tab", "unicode/utf8.first", "unicode/utf8.acceptRanges", "patchbay/net.ins", "internal/bytealg.MaxLen"], plainKeys := false, apart := false, laid := [("math/bits.deBruijn32tab", laid_math_bits_deBruijn32tab), ("math/bits.deBruijn64tab", laid_math_bits_deBruijn64tab), ("internal/strconv.uint64pow10", laid_internal_strconv_uint64pow10), ("unicode/utf8.acceptRanges", laid_unicode_utf8_acceptRanges), ("patchbay/net.ins", laid_patchbay_net_ins), ("unicode/utf8.first", laid_unicode_utf8_first)], narrowed := true }
def RaiseNamesUptoSaid : Prop := raiseNamesUptoRow.holds Tryz.pinned (OpenSpec.upto raiseNamesSpec)

/-- 'patchbaylaw12.RaiseBack', WHERE WHAT IT READS IS OF BULK AT MOST 1048576: true; the input reads as it did. -/
def raiseBackUptoRow : OpenClaim := { program := "ytchjijfjidlpjaagreatdoor", sum := "1265054b9d764e1081c5e0133ff66894c3f1c6b642f86e38ea7627235390ffd6", func := "patchbay/patchbaylaw12.RaiseBack", spec := "raiseBack", inPlace := ["internal/bytealg.IndexByteString", "internal/bytealg.IndexString"], unfollowed := true, recurses := true, named := ["internal/strconv.uint64pow10", "math/bits.deBruijn32tab", "math/bits.deBruijn64tab", "unicode/utf8.first", "unicode/utf8.acceptRanges", "patchbay/net.ins", "patchbay/lower.ops", "internal/bytealg.MaxLen"], plainKeys := false, apart := false, laid := [("math/bits.deBruijn32tab", laid_math_bits_deBruijn32tab), ("math/bits.deBruijn64tab", laid_math_bits_deBruijn64tab), ("internal/strconv.uint64pow10", laid_internal_strconv_uint64pow10), ("unicode/utf8.acceptRanges", laid_unicode_utf8_acceptRanges), ("patchbay/net.ins", laid_patchbay_net_ins), ("patchbay/lower.ops", laid_patchbay_lower_ops), ("unicode/utf8.first", laid_unicode_utf8_first)], narrowed := true }
def RaiseBackUptoSaid : Prop := raiseBackUptoRow.holds Tryz.pinned (OpenSpec.upto raiseBackSpec)

/-- 'patchbaylaw12.RaiseMeans', WHERE WHAT IT READS IS OF BULK AT MOST 1048576: true; the input reads as it did. -/
def raiseMeansUptoRow : OpenClaim := { program := "ytchjijfjidlpjaagreatdoor", sum := "1265054b9d764e1081c5e0133ff66894c3f1c6b642f86e38ea7627235390ffd6", func := "patchbay/patchbaylaw12.RaiseMeans", spec := "raiseMeans", inPlace := ["internal/bytealg.IndexByteString", "internal/bytealg.IndexString"], unfollowed := true, recurses := true, named := ["internal/strconv.uint64pow10", "math/bits.deBruijn32tab", "math/bits.deBruijn64tab", "unicode/utf8.first", "unicode/utf8.acceptRanges", "patchbay/net.ins", "internal/bytealg.MaxLen"], plainKeys := false, apart := false, laid := [("math/bits.deBruijn32tab", laid_math_bits_deBruijn32tab), ("math/bits.deBruijn64tab", laid_math_bits_deBruijn64tab), ("internal/strconv.uint64pow10", laid_internal_strconv_uint64pow10), ("unicode/utf8.acceptRanges", laid_unicode_utf8_acceptRanges), ("patchbay/net.ins", laid_patchbay_net_ins), ("unicode/utf8.first", laid_unicode_utf8_first)], narrowed := true }
def RaiseMeansUptoSaid : Prop := raiseMeansUptoRow.holds Tryz.pinned (OpenSpec.upto raiseMeansSpec)

/-- 'patchbaylaw12.RaiseLowers', WHERE WHAT IT READS IS OF BULK AT MOST 1048576: true; the input reads as it did. -/
def raiseLowersUptoRow : OpenClaim := { program := "ytchjijfjidlpjaagreatdoor", sum := "1265054b9d764e1081c5e0133ff66894c3f1c6b642f86e38ea7627235390ffd6", func := "patchbay/patchbaylaw12.RaiseLowers", spec := "raiseLowers", inPlace := ["internal/bytealg.IndexByteString", "internal/bytealg.IndexString"], unfollowed := true, recurses := true, named := ["internal/strconv.uint64pow10", "math/bits.deBruijn32tab", "math/bits.deBruijn64tab", "unicode/utf8.first", "unicode/utf8.acceptRanges", "patchbay/net.ins", "patchbay/lower.ops", "internal/bytealg.MaxLen"], plainKeys := false, apart := false, laid := [("math/bits.deBruijn32tab", laid_math_bits_deBruijn32tab), ("math/bits.deBruijn64tab", laid_math_bits_deBruijn64tab), ("internal/strconv.uint64pow10", laid_internal_strconv_uint64pow10), ("unicode/utf8.acceptRanges", laid_unicode_utf8_acceptRanges), ("patchbay/net.ins", laid_patchbay_net_ins), ("patchbay/lower.ops", laid_patchbay_lower_ops), ("unicode/utf8.first", laid_unicode_utf8_first)], narrowed := true }
def RaiseLowersUptoSaid : Prop := raiseLowersUptoRow.holds Tryz.pinned (OpenSpec.upto raiseLowersSpec)

end Rows
end Go.Proofs.YtchjijfjidlpjaaGreatDoor

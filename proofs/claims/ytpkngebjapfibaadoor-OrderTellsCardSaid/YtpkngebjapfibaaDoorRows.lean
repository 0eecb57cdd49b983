/-
  NARROWER THAN 'FOR EVERY INPUT', by the rows' own cells (each row's printed sentence says how): OrderTells: laid · OrderCones: laid · OrderRises: laid · OrderWaits: laid · OrderLevels: laid · OrderTrims: laid.
  DERIVED. THE GIVEN ROWS OF THIS SEAT. 6 by the template 'for every input the law returns true; each argument reads behind the call as it read before'; 0 by the template 'total and deterministic' (their statements: YtpkngebjapfibaaDoorTotals.lean).
  GIVEN WITH THE SEED: the statements are not yours to turn. If you find one false, say at which input.
  Laid BY PROGRAM, IN A SANDBOX (cutbox-rows.mjs): the forced cells as the released guide's own fill.sh prints them over the translation 1408f44fdb33eb93… (all of the seat's roots in one cut). By AI agents, Wed Nov 11 2026. No macro, syntax, notation, axiom, sorry.
-/
import Derived.Test.YtpkngebjapfibaaDoorChecked
import GoSem.PinnedTables
import GoSem.Claim
import GoSem.ClaimJoined
import GoSem.ClaimMapViews
import Derived.JoinedTies
import Derived.KernelRfl
namespace Go.Proofs.YtpkngebjapfibaaDoor
/- THE CELL 'sum', in the pinned program and in every row, IS THE sha256 OF THE DUMP (.gsa) THAT YtpkngebjapfibaaDoorProg.lean LOADS. Nothing in Lean hashes anything: it is a label: what it is worth is what the hold of that sum in a sandbox is worth. -/
noncomputable def Tryd.pinned : Pinned := { name := "ytpkngebjapfibaadoor", sum := "1408f44fdb33eb93d50ec452d98532ec4e7d2f45619809cacba87cd116bd63fd", checked := Tryd.checked }
namespace Rows
def none {H : Type} : Left H := { results := [], args := [] }

/- WHAT THE LISTED PACKAGE-LEVEL VARIABLES READ AS WHEN THE CALL BEGINS. Each datum BY PROGRAM (the guide's laid-datum.mjs) off the statement by which the dump's own 'gosem.cut.vars' lays the variable. In a bare row this is a premise. The card (YtpkngebjapfibaaDoorCards.lean) ties it to the program's text. -/
def laid_unicode_utf8_acceptRanges {H : Type} : DataW H := .agg [.agg [.lit (.int .u8 128), .lit (.int .u8 191)], .agg [.lit (.int .u8 160), .lit (.int .u8 191)], .agg [.lit (.int .u8 128), .lit (.int .u8 159)], .agg [.lit (.int .u8 144), .lit (.int .u8 191)], .agg [.lit (.int .u8 128), .lit (.int .u8 143)], .agg [.lit (.int .u8 0), .lit (.int .u8 0)], .agg [.lit (.int .u8 0), .lit (.int .u8 0)], .agg [.lit (.int .u8 0), .lit (.int .u8 0)], .agg [.lit (.int .u8 0), .lit (.int .u8 0)], .agg [.lit (.int .u8 0), .lit (.int .u8 0)], .agg [.lit (.int .u8 0), .lit (.int .u8 0)], .agg [.lit (.int .u8 0), .lit (.int .u8 0)], .agg [.lit (.int .u8 0), .lit (.int .u8 0)], .agg [.lit (.int .u8 0), .lit (.int .u8 0)], .agg [.lit (.int .u8 0), .lit (.int .u8 0)], .agg [.lit (.int .u8 0), .lit (.int .u8 0)]]
def laid_patchbay_net_ins {H : Type} : DataW H := .map [(.int .i64 0, .agg [.lit (.int .i64 0), .lit (.int .i64 0)]), (.int .i64 1, .agg [.lit (.int .i64 0), .lit (.int .i64 0)]), (.int .i64 2, .agg [.lit (.int .i64 1), .lit (.int .i64 1)]), (.int .i64 3, .agg [.lit (.int .i64 1), .lit (.int .i64 1)]), (.int .i64 4, .agg [.lit (.int .i64 2), .lit (.int .i64 8)]), (.int .i64 5, .agg [.lit (.int .i64 2), .lit (.int .i64 8)]), (.int .i64 6, .agg [.lit (.int .i64 2), .lit (.int .i64 8)]), (.int .i64 7, .agg [.lit (.int .i64 2), .lit (.int .i64 8)]), (.int .i64 8, .agg [.lit (.int .i64 2), .lit (.int .i64 8)]), (.int .i64 9, .agg [.lit (.int .i64 2), .lit (.int .i64 8)]), (.int .i64 10, .agg [.lit (.int .i64 0), .lit (.int .i64 8)])]
/-- One of Go's own tables, pinned by name: the form's constant. -/
def laid_unicode_utf8_first : DataW Unit := Go.Pinned.utf8First

/-- 'patchbaylaw07.OrderTells': WHATEVER THE INPUT: true; the input reads as it did. -/
def orderTellsSpec : ChangeSpec := { name := "orderTells", fn := fun _ => fun
  | [d] => { results := [.lit (.bool true)], args := [d] }
  | _ => none }
def orderTellsRow : OpenClaim := { program := "ytpkngebjapfibaadoor", sum := "1408f44fdb33eb93d50ec452d98532ec4e7d2f45619809cacba87cd116bd63fd", func := "patchbay/patchbaylaw07.OrderTells", spec := "orderTells", inPlace := ["internal/bytealg.IndexByteString", "internal/bytealg.IndexString"], unfollowed := true, recurses := true, named := ["unicode/utf8.first", "unicode/utf8.acceptRanges", "patchbay/net.ins", "internal/bytealg.MaxLen"], apart := false, laid := [("unicode/utf8.acceptRanges", laid_unicode_utf8_acceptRanges), ("patchbay/net.ins", laid_patchbay_net_ins), ("unicode/utf8.first", laid_unicode_utf8_first)] }
def OrderTellsSaid : Prop := orderTellsRow.holds Tryd.pinned (OpenSpec.ofChange orderTellsSpec)

/-- ITS FALSE NEIGHBOUR: 'it returns false'. Refute it at one input. -/
def orderTellsWrong : ChangeSpec := { name := "orderTells", fn := fun _ => fun
  | [d] => { results := [.lit (.bool false)], args := [d] }
  | _ => none }
def OrderTellsWrongFalsely : Prop := orderTellsRow.holds Tryd.pinned (OpenSpec.ofChange orderTellsWrong)

/-- 'patchbaylaw07.OrderCones': WHATEVER THE INPUT: true; the input reads as it did. -/
def orderConesSpec : ChangeSpec := { name := "orderCones", fn := fun _ => fun
  | [d1, d2] => { results := [.lit (.bool true)], args := [d1, d2] }
  | _ => none }
def orderConesRow : OpenClaim := { program := "ytpkngebjapfibaadoor", sum := "1408f44fdb33eb93d50ec452d98532ec4e7d2f45619809cacba87cd116bd63fd", func := "patchbay/patchbaylaw07.OrderCones", spec := "orderCones", inPlace := ["internal/bytealg.IndexByteString", "internal/bytealg.IndexString"], unfollowed := true, recurses := true, named := ["unicode/utf8.first", "unicode/utf8.acceptRanges", "patchbay/net.ins", "internal/bytealg.MaxLen"], apart := false, laid := [("unicode/utf8.acceptRanges", laid_unicode_utf8_acceptRanges), ("patchbay/net.ins", laid_patchbay_net_ins), ("unicode/utf8.first", laid_unicode_utf8_first)] }
def OrderConesSaid : Prop := orderConesRow.holds Tryd.pinned (OpenSpec.ofChange orderConesSpec)

/-- ITS FALSE NEIGHBOUR: 'it returns false'. Refute it at one input. -/
def orderConesWrong : ChangeSpec := { name := "orderCones", fn := fun _ => fun
  | [d1, d2] => { results := [.lit (.bool false)], args := [d1, d2] }
  | _ => none }
def OrderConesWrongFalsely : Prop := orderConesRow.holds Tryd.pinned (OpenSpec.ofChange orderConesWrong)

/-- 'patchbaylaw07.OrderRises': WHATEVER THE INPUT: true; the input reads as it did. -/
def orderRisesSpec : ChangeSpec := { name := "orderRises", fn := fun _ => fun
  | [d] => { results := [.lit (.bool true)], args := [d] }
  | _ => none }
def orderRisesRow : OpenClaim := { program := "ytpkngebjapfibaadoor", sum := "1408f44fdb33eb93d50ec452d98532ec4e7d2f45619809cacba87cd116bd63fd", func := "patchbay/patchbaylaw07.OrderRises", spec := "orderRises", inPlace := ["internal/bytealg.IndexByteString", "internal/bytealg.IndexString"], unfollowed := true, recurses := true, named := ["unicode/utf8.first", "unicode/utf8.acceptRanges", "patchbay/net.ins", "internal/bytealg.MaxLen"], apart := false, laid := [("unicode/utf8.acceptRanges", laid_unicode_utf8_acceptRanges), ("patchbay/net.ins", laid_patchbay_net_ins), ("unicode/utf8.first", laid_unicode_utf8_first)] }
def OrderRisesSaid : Prop := orderRisesRow.holds Tryd.pinned (OpenSpec.ofChange orderRisesSpec)

/-- ITS FALSE NEIGHBOUR: 'it returns false'. Refute it at one input. -/
def orderRisesWrong : ChangeSpec := { name := "orderRises", fn := fun _ => fun
  | [d] => { results := [.lit (.bool false)], args := [d] }
  | _ => none }
def OrderRisesWrongFalsely : Prop := orderRisesRow.holds Tryd.pinned (OpenSpec.ofChange orderRisesWrong)

/-- 'patchbaylaw07.OrderWaits': WHATEVER THE INPUT: true; the input reads as it did. -/
def orderWaitsSpec : ChangeSpec := { name := "orderWaits", fn := fun _ => fun
  | [d] => { results := [.lit (.bool true)], args := [d] }
  | _ => none }
def orderWaitsRow : OpenClaim := { program := "ytpkngebjapfibaadoor", sum := "1408f44fdb33eb93d50ec452d98532ec4e7d2f45619809cacba87cd116bd63fd", func := "patchbay/patchbaylaw07.OrderWaits", spec := "orderWaits", inPlace := ["internal/bytealg.IndexByteString", "internal/bytealg.IndexString"], unfollowed := true, recurses := true, named := ["unicode/utf8.first", "unicode/utf8.acceptRanges", "patchbay/net.ins", "internal/bytealg.MaxLen"], apart := false, laid := [("unicode/utf8.acceptRanges", laid_unicode_utf8_acceptRanges), ("patchbay/net.ins", laid_patchbay_net_ins), ("unicode/utf8.first", laid_unicode_utf8_first)] }
def OrderWaitsSaid : Prop := orderWaitsRow.holds Tryd.pinned (OpenSpec.ofChange orderWaitsSpec)

/-- ITS FALSE NEIGHBOUR: 'it returns false'. Refute it at one input. -/
def orderWaitsWrong : ChangeSpec := { name := "orderWaits", fn := fun _ => fun
  | [d] => { results := [.lit (.bool false)], args := [d] }
  | _ => none }
def OrderWaitsWrongFalsely : Prop := orderWaitsRow.holds Tryd.pinned (OpenSpec.ofChange orderWaitsWrong)

/-- 'patchbaylaw07.OrderLevels': WHATEVER THE INPUT: true; the input reads as it did. -/
def orderLevelsSpec : ChangeSpec := { name := "orderLevels", fn := fun _ => fun
  | [d] => { results := [.lit (.bool true)], args := [d] }
  | _ => none }
def orderLevelsRow : OpenClaim := { program := "ytpkngebjapfibaadoor", sum := "1408f44fdb33eb93d50ec452d98532ec4e7d2f45619809cacba87cd116bd63fd", func := "patchbay/patchbaylaw07.OrderLevels", spec := "orderLevels", inPlace := ["internal/bytealg.IndexByteString", "internal/bytealg.IndexString"], unfollowed := true, recurses := true, named := ["unicode/utf8.first", "unicode/utf8.acceptRanges", "patchbay/net.ins", "internal/bytealg.MaxLen"], apart := false, laid := [("unicode/utf8.acceptRanges", laid_unicode_utf8_acceptRanges), ("patchbay/net.ins", laid_patchbay_net_ins), ("unicode/utf8.first", laid_unicode_utf8_first)] }
def OrderLevelsSaid : Prop := orderLevelsRow.holds Tryd.pinned (OpenSpec.ofChange orderLevelsSpec)

/-- ITS FALSE NEIGHBOUR: 'it returns false'. Refute it at one input. -/
def orderLevelsWrong : ChangeSpec := { name := "orderLevels", fn := fun _ => fun
  | [d] => { results := [.lit (.bool false)], args := [d] }
  | _ => none }
def OrderLevelsWrongFalsely : Prop := orderLevelsRow.holds Tryd.pinned (OpenSpec.ofChange orderLevelsWrong)

/-- 'patchbaylaw07.OrderTrims': WHATEVER THE INPUT: true; the input reads as it did. -/
def orderTrimsSpec : ChangeSpec := { name := "orderTrims", fn := fun _ => fun
  | [d1, d2, d3] => { results := [.lit (.bool true)], args := [d1, d2, d3] }
  | _ => none }
def orderTrimsRow : OpenClaim := { program := "ytpkngebjapfibaadoor", sum := "1408f44fdb33eb93d50ec452d98532ec4e7d2f45619809cacba87cd116bd63fd", func := "patchbay/patchbaylaw07.OrderTrims", spec := "orderTrims", inPlace := ["internal/bytealg.IndexByteString", "internal/bytealg.IndexString"], unfollowed := true, recurses := true, named := ["unicode/utf8.first", "unicode/utf8.acceptRanges", "patchbay/net.ins", "internal/bytealg.MaxLen"], apart := false, laid := [("unicode/utf8.acceptRanges", laid_unicode_utf8_acceptRanges), ("patchbay/net.ins", laid_patchbay_net_ins), ("unicode/utf8.first", laid_unicode_utf8_first)] }
def OrderTrimsSaid : Prop := orderTrimsRow.holds Tryd.pinned (OpenSpec.ofChange orderTrimsSpec)

/-- ITS FALSE NEIGHBOUR: 'it returns false'. Refute it at one input. -/
def orderTrimsWrong : ChangeSpec := { name := "orderTrims", fn := fun _ => fun
  | [d1, d2, d3] => { results := [.lit (.bool false)], args := [d1, d2, d3] }
  | _ => none }
def OrderTrimsWrongFalsely : Prop := orderTrimsRow.holds Tryd.pinned (OpenSpec.ofChange orderTrimsWrong)

/- THE SECOND FORM. 'bulk': how many values and letters a reading holds, each counted each time it is reached (what is shared counts as often as it is met; a slice's spare places count too). A statement '..UptoSaid' is the law's where the arguments, and the package variables that the reading takes, are together of bulk at most 1048576: NARROWER than '..Said'. Prove '..Said' where nothing that the law and all that it calls make is longer than what came in: it says more and counts as full. Else prove '..UptoSaid'. A law counts once. -/
mutual
def uptoBulk {H : Type} : DataW H → Nat
  | .lit (.string bytes) => bytes.length + 1
  | .lit _ => 1
  | .nil => 1
  | .ptr d => uptoBulk d + 1
  | .slice elems spare => uptoBulkAll elems + uptoBulkAll spare + 1
  | .agg parts => uptoBulkAll parts + 1
  | .iface _ d => uptoBulk d + 1
  | .map entries => uptoBulkEntries entries + 1
  | .held _ => 1
def uptoBulkAll {H : Type} : List (DataW H) → Nat
  | [] => 0
  | d :: r => uptoBulk d + uptoBulkAll r
def uptoBulkEntries {H : Type} : List (Lit × DataW H) → Nat
  | [] => 0
  | x :: r => uptoBulkEntry x + uptoBulkEntries r
def uptoBulkEntry {H : Type} : Lit × DataW H → Nat
  | (.string bytes, d) => bytes.length + uptoBulk d + 1
  | (_, d) => uptoBulk d + 1
 end
def uptoSmall : (H : Type) → List (DataW H) → Bool := fun _ ds => decide (uptoBulkAll ds ≤ 1048576)
def OpenSpec.upto (s : _root_.Go.ChangeSpec) : _root_.Go.OpenSpec := { _root_.Go.OpenSpec.ofChange s with cond := some uptoSmall }

/-- 'patchbaylaw07.OrderTells', WHERE WHAT IT READS IS OF BULK AT MOST 1048576: true; the input reads as it did. -/
def orderTellsUptoRow : OpenClaim := { program := "ytpkngebjapfibaadoor", sum := "1408f44fdb33eb93d50ec452d98532ec4e7d2f45619809cacba87cd116bd63fd", func := "patchbay/patchbaylaw07.OrderTells", spec := "orderTells", inPlace := ["internal/bytealg.IndexByteString", "internal/bytealg.IndexString"], unfollowed := true, recurses := true, named := ["unicode/utf8.first", "unicode/utf8.acceptRanges", "patchbay/net.ins", "internal/bytealg.MaxLen"], apart := false, laid := [("unicode/utf8.acceptRanges", laid_unicode_utf8_acceptRanges), ("patchbay/net.ins", laid_patchbay_net_ins), ("unicode/utf8.first", laid_unicode_utf8_first)], narrowed := true }
def OrderTellsUptoSaid : Prop := orderTellsUptoRow.holds Tryd.pinned (OpenSpec.upto orderTellsSpec)

/-- 'patchbaylaw07.OrderCones', WHERE WHAT IT READS IS OF BULK AT MOST 1048576: true; the input reads as it did. -/
def orderConesUptoRow : OpenClaim := { program := "ytpkngebjapfibaadoor", sum := "1408f44fdb33eb93d50ec452d98532ec4e7d2f45619809cacba87cd116bd63fd", func := "patchbay/patchbaylaw07.OrderCones", spec := "orderCones", inPlace := ["internal/bytealg.IndexByteString", "internal/bytealg.IndexString"], unfollowed := true, recurses := true, named := ["unicode/utf8.first", "unicode/utf8.acceptRanges", "patchbay/net.ins", "internal/bytealg.MaxLen"], apart := false, laid := [("unicode/utf8.acceptRanges", laid_unicode_utf8_acceptRanges), ("patchbay/net.ins", laid_patchbay_net_ins), ("unicode/utf8.first", laid_unicode_utf8_first)], narrowed := true }
def OrderConesUptoSaid : Prop := orderConesUptoRow.holds Tryd.pinned (OpenSpec.upto orderConesSpec)

/-- 'patchbaylaw07.OrderRises', WHERE WHAT IT READS IS OF BULK AT MOST 1048576: true; the input reads as it did. -/
def orderRisesUptoRow : OpenClaim := { program := "ytpkngebjapfibaadoor", sum := "1408f44fdb33eb93d50ec452d98532ec4e7d2f45619809cacba87cd116bd63fd", func := "patchbay/patchbaylaw07.OrderRises", spec := "orderRises", inPlace := ["internal/bytealg.IndexByteString", "internal/bytealg.IndexString"], unfollowed := true, recurses := true, named := ["unicode/utf8.first", "unicode/utf8.acceptRanges", "patchbay/net.ins", "internal/bytealg.MaxLen"], apart := false, laid := [("unicode/utf8.acceptRanges", laid_unicode_utf8_acceptRanges), ("patchbay/net.ins", laid_patchbay_net_ins), ("unicode/utf8.first", laid_unicode_utf8_first)], narrowed := true }
def OrderRisesUptoSaid : Prop := orderRisesUptoRow.holds Tryd.pinned (OpenSpec.upto orderRisesSpec)

/-- 'patchbaylaw07.OrderWaits', WHERE WHAT IT READS IS OF BULK AT MOST 1048576: true; the input reads as it did. -/
def orderWaitsUptoRow : OpenClaim := { program := "ytpkngebjapfibaadoor", sum := "1408f44fdb33eb93d50ec452d98532ec4e7d2f45619809cacba87cd116bd63fd", func := "patchbay/patchbaylaw07.OrderWaits", spec := "orderWaits", inPlace := ["internal/bytealg.IndexByteString", "internal/bytealg.IndexString"], unfollowed := true, recurses := true, named := ["unicode/utf8.first", "unicode/utf8.acceptRanges", "patchbay/net.ins", "internal/bytealg.MaxLen"], apart := false, laid := [("unicode/utf8.acceptRanges", laid_unicode_utf8_acceptRanges), ("patchbay/net.ins", laid_patchbay_net_ins), ("unicode/utf8.first", laid_unicode_utf8_first)], narrowed := true }
def OrderWaitsUptoSaid : Prop := orderWaitsUptoRow.holds Tryd.pinned (OpenSpec.upto orderWaitsSpec)

/-- 'patchbaylaw07.OrderLevels', WHERE WHAT IT READS IS OF BULK AT MOST 1048576: true; the input reads as it did. -/
def orderLevelsUptoRow : OpenClaim := { program := "ytpkngebjapfibaadoor", sum := "1408f44fdb33eb93d50ec452d98532ec4e7d2f45619809cacba87cd116bd63fd", func := "patchbay/patchbaylaw07.OrderLevels", spec := "orderLevels", inPlace := ["internal/bytealg.IndexByteString", "internal/bytealg.IndexString"], unfollowed := true, recurses := true, named := ["unicode/utf8.first", "unicode/utf8.acceptRanges", "patchbay/net.ins", "internal/bytealg.MaxLen"], apart := false, laid := [("unicode/utf8.acceptRanges", laid_unicode_utf8_acceptRanges), ("patchbay/net.ins", laid_patchbay_net_ins), ("unicode/utf8.first", laid_unicode_utf8_first)], narrowed := true }
def OrderLevelsUptoSaid : Prop := orderLevelsUptoRow.holds Tryd.pinned (OpenSpec.upto orderLevelsSpec)

/-- 'patchbaylaw07.OrderTrims', WHERE WHAT IT READS IS OF BULK AT MOST 1048576: true; the input reads as it did. -/
def orderTrimsUptoRow : OpenClaim := { program := "ytpkngebjapfibaadoor", sum := "1408f44fdb33eb93d50ec452d98532ec4e7d2f45619809cacba87cd116bd63fd", func := "patchbay/patchbaylaw07.OrderTrims", spec := "orderTrims", inPlace := ["internal/bytealg.IndexByteString", "internal/bytealg.IndexString"], unfollowed := true, recurses := true, named := ["unicode/utf8.first", "unicode/utf8.acceptRanges", "patchbay/net.ins", "internal/bytealg.MaxLen"], apart := false, laid := [("unicode/utf8.acceptRanges", laid_unicode_utf8_acceptRanges), ("patchbay/net.ins", laid_patchbay_net_ins), ("unicode/utf8.first", laid_unicode_utf8_first)], narrowed := true }
def OrderTrimsUptoSaid : Prop := orderTrimsUptoRow.holds Tryd.pinned (OpenSpec.upto orderTrimsSpec)

end Rows
end Go.Proofs.YtpkngebjapfibaaDoor

/-
  No cell of these rows narrows 'for every input' (looked for: loops, veiled, ifaces, maps, wideKeys, modest, calm, conditions, laid).
  DERIVED. THE GIVEN ROWS OF THIS SEAT. 4 by the template 'for every input the law returns true; each argument reads behind the call as it read before'; 0 by the template 'total and deterministic' (their statements: YtbdnncbigmcdjaaTotals.lean).
  GIVEN WITH THE SEED: the statements are not yours to turn. If you find one false, say at which input.
  Laid BY PROGRAM, IN A SANDBOX (cutbox-rows.mjs): the forced cells as the released guide's own fill.sh prints them over the translation 5f5c14cd9a867b21… (all of the seat's roots in one cut). By AI agents, Wed Nov 11 2026. No macro, syntax, notation, axiom, sorry.
-/
import Derived.Test.YtbdnncbigmcdjaaChecked
import GoSem.Claim
import GoSem.ClaimJoined
import GoSem.ClaimMapViews
import Derived.JoinedTies
import Derived.KernelRfl
namespace Go.Proofs.Ytbdnncbigmcdjaa
/- THE CELL 'sum', in the pinned program and in every row, IS THE sha256 OF THE DUMP (.gsa) THAT YtbdnncbigmcdjaaProg.lean LOADS. Nothing in Lean hashes anything: it is a label: what it is worth is what the hold of that sum in a sandbox is worth. -/
noncomputable def Try.pinned : Pinned := { name := "ytbdnncbigmcdjaa", sum := "5f5c14cd9a867b212fbb687b205f9598f1b822265f9f8da4ba041ba60f955de2", checked := Try.checked }
namespace Rows
def none {H : Type} : Left H := { results := [], args := [] }

/-- 'patchbaylaw03.TokenBench': WHATEVER THE INPUT: true; the input reads as it did. -/
def tokenBenchSpec : ChangeSpec := { name := "tokenBench", fn := fun _ => fun
  | [d] => { results := [.lit (.bool true)], args := [d] }
  | _ => none }
def tokenBenchRow : OpenClaim := { program := "ytbdnncbigmcdjaa", sum := "5f5c14cd9a867b212fbb687b205f9598f1b822265f9f8da4ba041ba60f955de2", func := "patchbay/patchbaylaw03.TokenBench", spec := "tokenBench", unfollowed := true, recurses := true, apart := false }
def TokenBenchSaid : Prop := tokenBenchRow.holds Try.pinned (OpenSpec.ofChange tokenBenchSpec)

/-- ITS FALSE NEIGHBOUR: 'it returns false'. Refute it at one input. -/
def tokenBenchWrong : ChangeSpec := { name := "tokenBench", fn := fun _ => fun
  | [d] => { results := [.lit (.bool false)], args := [d] }
  | _ => none }
def TokenBenchWrongFalsely : Prop := tokenBenchRow.holds Try.pinned (OpenSpec.ofChange tokenBenchWrong)

/-- 'patchbaylaw03.TokenRows': WHATEVER THE INPUT: true; the input reads as it did. -/
def tokenRowsSpec : ChangeSpec := { name := "tokenRows", fn := fun _ => fun
  | [d1, d2] => { results := [.lit (.bool true)], args := [d1, d2] }
  | _ => none }
def tokenRowsRow : OpenClaim := { program := "ytbdnncbigmcdjaa", sum := "5f5c14cd9a867b212fbb687b205f9598f1b822265f9f8da4ba041ba60f955de2", func := "patchbay/patchbaylaw03.TokenRows", spec := "tokenRows", unfollowed := true, recurses := true, apart := false }
def TokenRowsSaid : Prop := tokenRowsRow.holds Try.pinned (OpenSpec.ofChange tokenRowsSpec)

/-- ITS FALSE NEIGHBOUR: 'it returns false'. Refute it at one input. -/
def tokenRowsWrong : ChangeSpec := { name := "tokenRows", fn := fun _ => fun
  | [d1, d2] => { results := [.lit (.bool false)], args := [d1, d2] }
  | _ => none }
def TokenRowsWrongFalsely : Prop := tokenRowsRow.holds Try.pinned (OpenSpec.ofChange tokenRowsWrong)

/-- 'patchbaylaw03.TokenAgain': WHATEVER THE INPUT: true; the input reads as it did. -/
def tokenAgainSpec : ChangeSpec := { name := "tokenAgain", fn := fun _ => fun
  | [d] => { results := [.lit (.bool true)], args := [d] }
  | _ => none }
def tokenAgainRow : OpenClaim := { program := "ytbdnncbigmcdjaa", sum := "5f5c14cd9a867b212fbb687b205f9598f1b822265f9f8da4ba041ba60f955de2", func := "patchbay/patchbaylaw03.TokenAgain", spec := "tokenAgain", unfollowed := true, recurses := true, apart := false }
def TokenAgainSaid : Prop := tokenAgainRow.holds Try.pinned (OpenSpec.ofChange tokenAgainSpec)

/-- ITS FALSE NEIGHBOUR: 'it returns false'. Refute it at one input. -/
def tokenAgainWrong : ChangeSpec := { name := "tokenAgain", fn := fun _ => fun
  | [d] => { results := [.lit (.bool false)], args := [d] }
  | _ => none }
def TokenAgainWrongFalsely : Prop := tokenAgainRow.holds Try.pinned (OpenSpec.ofChange tokenAgainWrong)

/-- 'patchbaylaw03.TokenPlaces': WHATEVER THE INPUT: true; the input reads as it did. -/
def tokenPlacesSpec : ChangeSpec := { name := "tokenPlaces", fn := fun _ => fun
  | [d] => { results := [.lit (.bool true)], args := [d] }
  | _ => none }
def tokenPlacesRow : OpenClaim := { program := "ytbdnncbigmcdjaa", sum := "5f5c14cd9a867b212fbb687b205f9598f1b822265f9f8da4ba041ba60f955de2", func := "patchbay/patchbaylaw03.TokenPlaces", spec := "tokenPlaces", unfollowed := true, recurses := true, apart := false }
def TokenPlacesSaid : Prop := tokenPlacesRow.holds Try.pinned (OpenSpec.ofChange tokenPlacesSpec)

/-- ITS FALSE NEIGHBOUR: 'it returns false'. Refute it at one input. -/
def tokenPlacesWrong : ChangeSpec := { name := "tokenPlaces", fn := fun _ => fun
  | [d] => { results := [.lit (.bool false)], args := [d] }
  | _ => none }
def TokenPlacesWrongFalsely : Prop := tokenPlacesRow.holds Try.pinned (OpenSpec.ofChange tokenPlacesWrong)

/- THE SECOND FORM. 'bulk': how many values and letters a reading holds, each counted each time it is reached (what is shared counts as often as it is met; a slice's spare places count too). A statement '..UptoSaid' is the law's where the arguments, and the package variables that the reading takes, are together of bulk at most 1048576: NARROWER than '..Said'. Prove '..Said' where nothing that the law and all that it calls make is longer than what came in: it says more and counts as full. Else prove '..UptoSaid'. A law counts once. -/
mutual
def uptoBulk {H : Type} : DataW H → Nat
  | .lit (.string bytes) => bytes.length + 1
  | .lit _ => 1
  | .nil => 1
  | .ptr d => uptoBulk d + 1
  | .slice elems spare => uptoBulkAll elems + uptoBulkAll spare + 1
  | .agg parts => uptoBulkAll parts + 1
  | .iface _ d => uptoBulk d + 1
  | .map entries => uptoBulkEntries entries + 1
  | .held _ => 1
def uptoBulkAll {H : Type} : List (DataW H) → Nat
  | [] => 0
  | d :: r => uptoBulk d + uptoBulkAll r
def uptoBulkEntries {H : Type} : List (Lit × DataW H) → Nat
  | [] => 0
  | x :: r => uptoBulkEntry x + uptoBulkEntries r
def uptoBulkEntry {H : Type} : Lit × DataW H → Nat
  | (.string bytes, d) => bytes.length + uptoBulk d + 1
  | (_, d) => uptoBulk d + 1
 end
def uptoSmall : (H : Type) → List (DataW H) → Bool := fun _ ds => decide (uptoBulkAll ds ≤ 1048576)
def OpenSpec.upto (s : _root_.Go.ChangeSpec) : _root_.Go.OpenSpec := { _root_.Go.OpenSpec.ofChange s with cond := some uptoSmall }

/-- 'patchbaylaw03.TokenBench', WHERE WHAT IT READS IS OF BULK AT MOST 1048576: true; the input reads as it did. -/
def tokenBenchUptoRow : OpenClaim := { program := "ytbdnncbigmcdjaa", sum := "5f5c14cd9a867b212fbb687b205f9598f1b822265f9f8da4ba041ba60f955de2", func := "patchbay/patchbaylaw03.TokenBench", spec := "tokenBench", unfollowed := true, recurses := true, apart := false, narrowed := true }
def TokenBenchUptoSaid : Prop := tokenBenchUptoRow.holds Try.pinned (OpenSpec.upto tokenBenchSpec)

/-- 'patchbaylaw03.TokenRows', WHERE WHAT IT READS IS OF BULK AT MOST 1048576: true; the input reads as it did. -/
def tokenRowsUptoRow : OpenClaim := { program := "ytbdnncbigmcdjaa", sum := "5f5c14cd9a867b212fbb687b205f9598f1b822265f9f8da4ba041ba60f955de2", func := "patchbay/patchbaylaw03.TokenRows", spec := "tokenRows", unfollowed := true, recurses := true, apart := false, narrowed := true }
def TokenRowsUptoSaid : Prop := tokenRowsUptoRow.holds Try.pinned (OpenSpec.upto tokenRowsSpec)

/-- 'patchbaylaw03.TokenAgain', WHERE WHAT IT READS IS OF BULK AT MOST 1048576: true; the input reads as it did. -/
def tokenAgainUptoRow : OpenClaim := { program := "ytbdnncbigmcdjaa", sum := "5f5c14cd9a867b212fbb687b205f9598f1b822265f9f8da4ba041ba60f955de2", func := "patchbay/patchbaylaw03.TokenAgain", spec := "tokenAgain", unfollowed := true, recurses := true, apart := false, narrowed := true }
def TokenAgainUptoSaid : Prop := tokenAgainUptoRow.holds Try.pinned (OpenSpec.upto tokenAgainSpec)

/-- 'patchbaylaw03.TokenPlaces', WHERE WHAT IT READS IS OF BULK AT MOST 1048576: true; the input reads as it did. -/
def tokenPlacesUptoRow : OpenClaim := { program := "ytbdnncbigmcdjaa", sum := "5f5c14cd9a867b212fbb687b205f9598f1b822265f9f8da4ba041ba60f955de2", func := "patchbay/patchbaylaw03.TokenPlaces", spec := "tokenPlaces", unfollowed := true, recurses := true, apart := false, narrowed := true }
def TokenPlacesUptoSaid : Prop := tokenPlacesUptoRow.holds Try.pinned (OpenSpec.upto tokenPlacesSpec)

end Rows
end Go.Proofs.Ytbdnncbigmcdjaa

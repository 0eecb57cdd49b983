/-
  DERIVED. GIVEN WITH THE SEED: THE PROGRAM's TIES (one call each: nine closed facts by the kernel) AND EACH ROW's TIE, after the 31st guide's Derived/Test/Toyas{Tie, Card}.lean. No idea stands in it: it is a product of the set-up. Laid BY PROGRAM, IN A SANDBOX (cutbox-door.mjs). By AI agents, Wed Nov 11 2026. No macro, syntax, notation, axiom, sorry.
-/
import Derived.Test.YtenpljbbboibiaaDoorRows
import Derived.LaidByTextLater
import Derived.SevenTiedAt
import Derived.LaidSub
import Derived.LaidOnce
namespace Go.Proofs.YtenpljbbboibiaaDoor
open Go
set_option maxRecDepth 100000
theorem seatTie1 : Tryd.prog.laidByTextLater [("math/bits.deBruijn32tab", Rows.laid_math_bits_deBruijn32tab), ("math/bits.deBruijn64tab", Rows.laid_math_bits_deBruijn64tab), ("internal/strconv.uint64pow10", Rows.laid_internal_strconv_uint64pow10), ("patchbay/ident.kept", Rows.laid_patchbay_ident_kept)] [.data, .data, .data, .mapped] true :=
  Program.laidByTextLater_by_one 114 8 65 (by kernel_rfl) (by kernel_rfl) (by kernel_rfl) (by kernel_rfl) (by kernel_rfl) (by kernel_rfl) (fun _ _ => by kernel_rfl)
theorem noOwnUnsafe : Tryd.pinned.checked.prog.headLifts.contains "ownunsafe" = false := by kernel_rfl
theorem tie : Tryd.prog.laidByTextLater [("math/bits.deBruijn32tab", Rows.laid_math_bits_deBruijn32tab), ("math/bits.deBruijn64tab", Rows.laid_math_bits_deBruijn64tab), ("internal/strconv.uint64pow10", Rows.laid_internal_strconv_uint64pow10), ("patchbay/ident.kept", Rows.laid_patchbay_ident_kept)] [.data, .data, .data, .mapped] true :=
  Program.laidByTextLater.sub seatTie1 ["math/bits.deBruijn32tab", "math/bits.deBruijn64tab", "internal/strconv.uint64pow10", "patchbay/ident.kept"] (by kernel_rfl) (by kernel_rfl)
theorem identWords_row_tie : Rows.identWordsRow.laidByTextAt .later Tryd.pinned [.data, .data, .data, .mapped] true :=
  OpenClaim.laidByTextAt_later rfl rfl tie noOwnUnsafe
theorem identOnly_row_tie : Rows.identOnlyRow.laidByTextAt .later Tryd.pinned [.data, .data, .data, .mapped] true :=
  OpenClaim.laidByTextAt_later rfl rfl tie noOwnUnsafe
theorem identReads_row_tie : Rows.identReadsRow.laidByTextAt .later Tryd.pinned [.data, .data, .data, .mapped] true :=
  OpenClaim.laidByTextAt_later rfl rfl tie noOwnUnsafe
theorem identFresh_row_tie : Rows.identFreshRow.laidByTextAt .later Tryd.pinned [.data, .data, .data, .mapped] true :=
  OpenClaim.laidByTextAt_later rfl rfl tie noOwnUnsafe
theorem identBack_row_tie : Rows.identBackRow.laidByTextAt .later Tryd.pinned [.data, .data, .data, .mapped] true :=
  OpenClaim.laidByTextAt_later rfl rfl tie noOwnUnsafe
theorem identFinds_row_tie : Rows.identFindsRow.laidByTextAt .later Tryd.pinned [.data, .data, .data, .mapped] true :=
  OpenClaim.laidByTextAt_later rfl rfl tie noOwnUnsafe
theorem identWordsUpto_row_tie : Rows.identWordsUptoRow.laidByTextAt .later Tryd.pinned [.data, .data, .data, .mapped] true :=
  OpenClaim.laidByTextAt_later rfl rfl tie noOwnUnsafe
theorem identOnlyUpto_row_tie : Rows.identOnlyUptoRow.laidByTextAt .later Tryd.pinned [.data, .data, .data, .mapped] true :=
  OpenClaim.laidByTextAt_later rfl rfl tie noOwnUnsafe
theorem identReadsUpto_row_tie : Rows.identReadsUptoRow.laidByTextAt .later Tryd.pinned [.data, .data, .data, .mapped] true :=
  OpenClaim.laidByTextAt_later rfl rfl tie noOwnUnsafe
theorem identFreshUpto_row_tie : Rows.identFreshUptoRow.laidByTextAt .later Tryd.pinned [.data, .data, .data, .mapped] true :=
  OpenClaim.laidByTextAt_later rfl rfl tie noOwnUnsafe
theorem identBackUpto_row_tie : Rows.identBackUptoRow.laidByTextAt .later Tryd.pinned [.data, .data, .data, .mapped] true :=
  OpenClaim.laidByTextAt_later rfl rfl tie noOwnUnsafe
theorem identFindsUpto_row_tie : Rows.identFindsUptoRow.laidByTextAt .later Tryd.pinned [.data, .data, .data, .mapped] true :=
  OpenClaim.laidByTextAt_later rfl rfl tie noOwnUnsafe
end Go.Proofs.YtenpljbbboibiaaDoor

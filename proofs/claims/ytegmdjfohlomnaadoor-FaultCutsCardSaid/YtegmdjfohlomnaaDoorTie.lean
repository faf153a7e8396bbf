/-
  DERIVED. GIVEN WITH THE SEED: THE PROGRAM's TIES (one call each: nine closed facts by the kernel) AND EACH ROW's TIE, after the 31st guide's Derived/Test/Toyas{Tie, Card}.lean. No idea stands in it: it is a product of the set-up. Laid BY PROGRAM, IN A SANDBOX (cutbox-door.mjs). By AI agents, Wed Nov 11 2026. No macro, syntax, notation, axiom, sorry.
-/
import Derived.Test.YtegmdjfohlomnaaDoorRows
import Derived.LaidByTextLater
import Derived.SevenTiedAt
import Derived.LaidSub
import Derived.LaidOnce
namespace Go.Proofs.YtegmdjfohlomnaaDoor
open Go
set_option maxRecDepth 100000
theorem seatTie1 : Tryd.prog.laidByTextLater [("math/bits.deBruijn32tab", Rows.laid_math_bits_deBruijn32tab), ("math/bits.deBruijn64tab", Rows.laid_math_bits_deBruijn64tab), ("internal/strconv.uint64pow10", Rows.laid_internal_strconv_uint64pow10), ("errors.errorType", Rows.laid_errors_errorType)] [.data, .data, .data, .handle] true :=
  Program.laidByTextLater_by_one 31 8 65 (by kernel_rfl) (by kernel_rfl) (by kernel_rfl) (by kernel_rfl) (by kernel_rfl) (by kernel_rfl) (fun _ _ => by kernel_rfl)
theorem noOwnUnsafe : Tryd.pinned.checked.prog.headLifts.contains "ownunsafe" = false := by kernel_rfl
theorem tie : Tryd.prog.laidByTextLater [("math/bits.deBruijn32tab", Rows.laid_math_bits_deBruijn32tab), ("math/bits.deBruijn64tab", Rows.laid_math_bits_deBruijn64tab), ("internal/strconv.uint64pow10", Rows.laid_internal_strconv_uint64pow10), ("errors.errorType", Rows.laid_errors_errorType)] [.data, .data, .data, .handle] true :=
  Program.laidByTextLater.sub seatTie1 ["math/bits.deBruijn32tab", "math/bits.deBruijn64tab", "internal/strconv.uint64pow10", "errors.errorType"] (by kernel_rfl) (by kernel_rfl)
theorem faultTexts_row_tie : Rows.faultTextsRow.laidByTextAt .later Tryd.pinned [.data, .data, .data, .handle] true :=
  OpenClaim.laidByTextAt_later rfl rfl tie noOwnUnsafe
theorem faultFinds_row_tie : Rows.faultFindsRow.laidByTextAt .later Tryd.pinned [.data, .data, .data, .handle] true :=
  OpenClaim.laidByTextAt_later rfl rfl tie noOwnUnsafe
theorem faultNone_row_tie : Rows.faultNoneRow.laidByTextAt .later Tryd.pinned [.data, .data, .data, .handle] true :=
  OpenClaim.laidByTextAt_later rfl rfl tie noOwnUnsafe
theorem faultAs_row_tie : Rows.faultAsRow.laidByTextAt .later Tryd.pinned [.data, .data, .data, .handle] true :=
  OpenClaim.laidByTextAt_later rfl rfl tie noOwnUnsafe
theorem faultCuts_row_tie : Rows.faultCutsRow.laidByTextAt .later Tryd.pinned [.data, .data, .data, .handle] true :=
  OpenClaim.laidByTextAt_later rfl rfl tie noOwnUnsafe
theorem faultIs_row_tie : Rows.faultIsRow.laidByTextAt .later Tryd.pinned [.data, .data, .data, .handle] true :=
  OpenClaim.laidByTextAt_later rfl rfl tie noOwnUnsafe
theorem faultHas_row_tie : Rows.faultHasRow.laidByTextAt .later Tryd.pinned [.data, .data, .data, .handle] true :=
  OpenClaim.laidByTextAt_later rfl rfl tie noOwnUnsafe
theorem faultTextsUpto_row_tie : Rows.faultTextsUptoRow.laidByTextAt .later Tryd.pinned [.data, .data, .data, .handle] true :=
  OpenClaim.laidByTextAt_later rfl rfl tie noOwnUnsafe
theorem faultFindsUpto_row_tie : Rows.faultFindsUptoRow.laidByTextAt .later Tryd.pinned [.data, .data, .data, .handle] true :=
  OpenClaim.laidByTextAt_later rfl rfl tie noOwnUnsafe
theorem faultNoneUpto_row_tie : Rows.faultNoneUptoRow.laidByTextAt .later Tryd.pinned [.data, .data, .data, .handle] true :=
  OpenClaim.laidByTextAt_later rfl rfl tie noOwnUnsafe
theorem faultAsUpto_row_tie : Rows.faultAsUptoRow.laidByTextAt .later Tryd.pinned [.data, .data, .data, .handle] true :=
  OpenClaim.laidByTextAt_later rfl rfl tie noOwnUnsafe
theorem faultCutsUpto_row_tie : Rows.faultCutsUptoRow.laidByTextAt .later Tryd.pinned [.data, .data, .data, .handle] true :=
  OpenClaim.laidByTextAt_later rfl rfl tie noOwnUnsafe
theorem faultIsUpto_row_tie : Rows.faultIsUptoRow.laidByTextAt .later Tryd.pinned [.data, .data, .data, .handle] true :=
  OpenClaim.laidByTextAt_later rfl rfl tie noOwnUnsafe
theorem faultHasUpto_row_tie : Rows.faultHasUptoRow.laidByTextAt .later Tryd.pinned [.data, .data, .data, .handle] true :=
  OpenClaim.laidByTextAt_later rfl rfl tie noOwnUnsafe
end Go.Proofs.YtegmdjfohlomnaaDoor

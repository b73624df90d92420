/-
  DERIVED. GIVEN WITH THE SEED: THE PROGRAM's TIES (one call each: nine closed facts by the kernel) AND EACH ROW's TIE, after the 31st guide's Derived/Test/Toyas{Tie, Card}.lean. No idea stands in it: it is a product of the set-up. Laid BY PROGRAM, IN A SANDBOX (cutbox-door.mjs). By AI agents, Wed Nov 11 2026. No macro, syntax, notation, axiom, sorry.
-/
import Derived.Test.YtejleplhmkmegaaGreatDoorRows
import Derived.LaidByTextLater
import Derived.SevenTiedAt
import Derived.LaidSub
import Derived.LaidOnce
namespace Go.Proofs.YtejleplhmkmegaaGreatDoor
open Go
set_option maxRecDepth 100000
theorem seatTie1 : Tryz.prog.laidByTextLater [("math/bits.deBruijn32tab", Rows.laid_math_bits_deBruijn32tab), ("math/bits.deBruijn64tab", Rows.laid_math_bits_deBruijn64tab), ("internal/strconv.uint64pow10", Rows.laid_internal_strconv_uint64pow10), ("errors.errorType", Rows.laid_errors_errorType), ("tesserae/filter.errNone", Rows.laid_tesserae_filter_errNone), ("tesserae/filter.errGrain", Rows.laid_tesserae_filter_errGrain)] [.data, .data, .data, .handle, .sentinel, .sentinel] true :=
  Program.laidByTextLater_by_one 69 8 65 (by kernel_rfl) (by kernel_rfl) (by kernel_rfl) (by kernel_rfl) (by kernel_rfl) (by kernel_rfl) (fun _ _ => by kernel_rfl)
theorem noOwnUnsafe : Tryz.pinned.checked.prog.headLifts.contains "ownunsafe" = false := by kernel_rfl
theorem tie : Tryz.prog.laidByTextLater [("math/bits.deBruijn32tab", Rows.laid_math_bits_deBruijn32tab), ("math/bits.deBruijn64tab", Rows.laid_math_bits_deBruijn64tab), ("internal/strconv.uint64pow10", Rows.laid_internal_strconv_uint64pow10)] [.data, .data, .data] true :=
  Program.laidByTextLater.sub seatTie1 ["math/bits.deBruijn32tab", "math/bits.deBruijn64tab", "internal/strconv.uint64pow10"] (by kernel_rfl) (by kernel_rfl)
theorem orderOne_row_tie : Rows.orderOneRow.laidByTextAt .later Tryz.pinned [.data, .data, .data] true :=
  OpenClaim.laidByTextAt_later rfl rfl tie noOwnUnsafe
theorem tie2 : Tryz.prog.laidByTextLater [("math/bits.deBruijn32tab", Rows.laid_math_bits_deBruijn32tab), ("math/bits.deBruijn64tab", Rows.laid_math_bits_deBruijn64tab), ("internal/strconv.uint64pow10", Rows.laid_internal_strconv_uint64pow10), ("errors.errorType", Rows.laid_errors_errorType), ("tesserae/filter.errNone", Rows.laid_tesserae_filter_errNone), ("tesserae/filter.errGrain", Rows.laid_tesserae_filter_errGrain)] [.data, .data, .data, .handle, .sentinel, .sentinel] true :=
  Program.laidByTextLater.sub seatTie1 ["math/bits.deBruijn32tab", "math/bits.deBruijn64tab", "internal/strconv.uint64pow10", "errors.errorType", "tesserae/filter.errNone", "tesserae/filter.errGrain"] (by kernel_rfl) (by kernel_rfl)
theorem orderLines_row_tie : Rows.orderLinesRow.laidByTextAt .later Tryz.pinned [.data, .data, .data, .handle, .sentinel, .sentinel] true :=
  OpenClaim.laidByTextAt_later rfl rfl tie2 noOwnUnsafe
theorem orderLimits_row_tie : Rows.orderLimitsRow.laidByTextAt .later Tryz.pinned [.data, .data, .data, .handle, .sentinel, .sentinel] true :=
  OpenClaim.laidByTextAt_later rfl rfl tie2 noOwnUnsafe
theorem orderHalves_row_tie : Rows.orderHalvesRow.laidByTextAt .later Tryz.pinned [.data, .data, .data, .handle, .sentinel, .sentinel] true :=
  OpenClaim.laidByTextAt_later rfl rfl tie2 noOwnUnsafe
theorem orderSorted_row_tie : Rows.orderSortedRow.laidByTextAt .later Tryz.pinned [.data, .data, .data, .handle, .sentinel, .sentinel] true :=
  OpenClaim.laidByTextAt_later rfl rfl tie2 noOwnUnsafe
theorem orderOneUpto_row_tie : Rows.orderOneUptoRow.laidByTextAt .later Tryz.pinned [.data, .data, .data] true :=
  OpenClaim.laidByTextAt_later rfl rfl tie noOwnUnsafe
theorem orderLinesUpto_row_tie : Rows.orderLinesUptoRow.laidByTextAt .later Tryz.pinned [.data, .data, .data, .handle, .sentinel, .sentinel] true :=
  OpenClaim.laidByTextAt_later rfl rfl tie2 noOwnUnsafe
theorem orderLimitsUpto_row_tie : Rows.orderLimitsUptoRow.laidByTextAt .later Tryz.pinned [.data, .data, .data, .handle, .sentinel, .sentinel] true :=
  OpenClaim.laidByTextAt_later rfl rfl tie2 noOwnUnsafe
theorem orderHalvesUpto_row_tie : Rows.orderHalvesUptoRow.laidByTextAt .later Tryz.pinned [.data, .data, .data, .handle, .sentinel, .sentinel] true :=
  OpenClaim.laidByTextAt_later rfl rfl tie2 noOwnUnsafe
theorem orderSortedUpto_row_tie : Rows.orderSortedUptoRow.laidByTextAt .later Tryz.pinned [.data, .data, .data, .handle, .sentinel, .sentinel] true :=
  OpenClaim.laidByTextAt_later rfl rfl tie2 noOwnUnsafe
end Go.Proofs.YtejleplhmkmegaaGreatDoor

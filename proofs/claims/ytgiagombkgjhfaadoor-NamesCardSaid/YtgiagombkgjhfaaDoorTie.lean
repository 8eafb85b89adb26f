/-
  DERIVED. GIVEN WITH THE SEED: THE PROGRAM's TIES (one call each: nine closed facts by the kernel) AND EACH ROW's TIE, after the 31st guide's Derived/Test/Toyas{Tie, Card}.lean. No idea stands in it: it is a product of the set-up. Laid BY PROGRAM, IN A SANDBOX (cutbox-door.mjs). By AI agents, Wed Nov 11 2026. No macro, syntax, notation, axiom, sorry.
-/
import Derived.Test.YtgiagombkgjhfaaDoorRows
import Derived.LaidByTextLater
import Derived.SevenTiedAt
import Derived.LaidSub
import Derived.LaidOnce
namespace Go.Proofs.YtgiagombkgjhfaaDoor
open Go
set_option maxRecDepth 100000
theorem seatTie1 : Tryd.prog.laidByTextLater [("errors.errorType", Rows.laid_errors_errorType), ("optima/api.ErrText", Rows.laid_optima_api_ErrText), ("optima/api.ErrBound", Rows.laid_optima_api_ErrBound), ("optima/api.ErrZero", Rows.laid_optima_api_ErrZero), ("optima/api.ErrShape", Rows.laid_optima_api_ErrShape), ("optima/api.ErrSingular", Rows.laid_optima_api_ErrSingular), ("optima/api.ErrSense", Rows.laid_optima_api_ErrSense), ("optima/api.ErrName", Rows.laid_optima_api_ErrName), ("optima/api.ErrNumber", Rows.laid_optima_api_ErrNumber), ("optima/api.ErrBasis", Rows.laid_optima_api_ErrBasis), ("optima/api.ErrOpen", Rows.laid_optima_api_ErrOpen)] [.handle, .sentinel, .sentinel, .sentinel, .sentinel, .sentinel, .sentinel, .sentinel, .sentinel, .sentinel, .sentinel] true :=
  Program.laidByTextLater_by_one 206 8 2 (by kernel_rfl) (by kernel_rfl) (by kernel_rfl) (by kernel_rfl) (by kernel_rfl) (by kernel_rfl) (fun _ _ => by kernel_rfl)
theorem noOwnUnsafe : Tryd.pinned.checked.prog.headLifts.contains "ownunsafe" = false := by kernel_rfl
theorem tie : Tryd.prog.laidByTextLater [("optima/api.ErrText", Rows.laid_optima_api_ErrText), ("optima/api.ErrBound", Rows.laid_optima_api_ErrBound)] [.sentinel, .sentinel] true :=
  Program.laidByTextLater.sub seatTie1 ["optima/api.ErrText", "optima/api.ErrBound"] (by kernel_rfl) (by kernel_rfl)
theorem wholeOf_row_tie : Rows.wholeOfRow.laidByTextAt .later Tryd.pinned [.sentinel, .sentinel] true :=
  OpenClaim.laidByTextAt_later rfl rfl tie noOwnUnsafe
theorem wholeRing_row_tie : Rows.wholeRingRow.laidByTextAt .later Tryd.pinned [.sentinel, .sentinel] true :=
  OpenClaim.laidByTextAt_later rfl rfl tie noOwnUnsafe
theorem wholeSums_row_tie : Rows.wholeSumsRow.laidByTextAt .later Tryd.pinned [.sentinel, .sentinel] true :=
  OpenClaim.laidByTextAt_later rfl rfl tie noOwnUnsafe
theorem ratioOf_row_tie : Rows.ratioOfRow.laidByTextAt .later Tryd.pinned [.sentinel, .sentinel] true :=
  OpenClaim.laidByTextAt_later rfl rfl tie noOwnUnsafe
theorem tie2 : Tryd.prog.laidByTextLater [("errors.errorType", Rows.laid_errors_errorType), ("optima/api.ErrText", Rows.laid_optima_api_ErrText), ("optima/api.ErrBound", Rows.laid_optima_api_ErrBound), ("optima/api.ErrZero", Rows.laid_optima_api_ErrZero), ("optima/api.ErrShape", Rows.laid_optima_api_ErrShape), ("optima/api.ErrSingular", Rows.laid_optima_api_ErrSingular), ("optima/api.ErrSense", Rows.laid_optima_api_ErrSense), ("optima/api.ErrName", Rows.laid_optima_api_ErrName), ("optima/api.ErrNumber", Rows.laid_optima_api_ErrNumber), ("optima/api.ErrBasis", Rows.laid_optima_api_ErrBasis), ("optima/api.ErrOpen", Rows.laid_optima_api_ErrOpen)] [.handle, .sentinel, .sentinel, .sentinel, .sentinel, .sentinel, .sentinel, .sentinel, .sentinel, .sentinel, .sentinel] true :=
  Program.laidByTextLater.sub seatTie1 ["errors.errorType", "optima/api.ErrText", "optima/api.ErrBound", "optima/api.ErrZero", "optima/api.ErrShape", "optima/api.ErrSingular", "optima/api.ErrSense", "optima/api.ErrName", "optima/api.ErrNumber", "optima/api.ErrBasis", "optima/api.ErrOpen"] (by kernel_rfl) (by kernel_rfl)
theorem names_row_tie : Rows.namesRow.laidByTextAt .later Tryd.pinned [.handle, .sentinel, .sentinel, .sentinel, .sentinel, .sentinel, .sentinel, .sentinel, .sentinel, .sentinel, .sentinel] true :=
  OpenClaim.laidByTextAt_later rfl rfl tie2 noOwnUnsafe
theorem wholeRead_row_tie : Rows.wholeReadRow.laidByTextAt .later Tryd.pinned [.handle, .sentinel, .sentinel, .sentinel, .sentinel, .sentinel, .sentinel, .sentinel, .sentinel, .sentinel, .sentinel] true :=
  OpenClaim.laidByTextAt_later rfl rfl tie2 noOwnUnsafe
theorem ratioRead_row_tie : Rows.ratioReadRow.laidByTextAt .later Tryd.pinned [.handle, .sentinel, .sentinel, .sentinel, .sentinel, .sentinel, .sentinel, .sentinel, .sentinel, .sentinel, .sentinel] true :=
  OpenClaim.laidByTextAt_later rfl rfl tie2 noOwnUnsafe
theorem tie3 : Tryd.prog.laidByTextLater [("optima/api.ErrText", Rows.laid_optima_api_ErrText), ("optima/api.ErrBound", Rows.laid_optima_api_ErrBound), ("optima/api.ErrZero", Rows.laid_optima_api_ErrZero)] [.sentinel, .sentinel, .sentinel] true :=
  Program.laidByTextLater.sub seatTie1 ["optima/api.ErrText", "optima/api.ErrBound", "optima/api.ErrZero"] (by kernel_rfl) (by kernel_rfl)
theorem ratioSums_row_tie : Rows.ratioSumsRow.laidByTextAt .later Tryd.pinned [.sentinel, .sentinel, .sentinel] true :=
  OpenClaim.laidByTextAt_later rfl rfl tie3 noOwnUnsafe
theorem ratioSimplest_row_tie : Rows.ratioSimplestRow.laidByTextAt .later Tryd.pinned [.sentinel, .sentinel, .sentinel] true :=
  OpenClaim.laidByTextAt_later rfl rfl tie3 noOwnUnsafe
theorem ratioBetween_row_tie : Rows.ratioBetweenRow.laidByTextAt .later Tryd.pinned [.sentinel, .sentinel, .sentinel] true :=
  OpenClaim.laidByTextAt_later rfl rfl tie3 noOwnUnsafe
theorem ratioDecimal_row_tie : Rows.ratioDecimalRow.laidByTextAt .later Tryd.pinned [.sentinel, .sentinel, .sentinel] true :=
  OpenClaim.laidByTextAt_later rfl rfl tie3 noOwnUnsafe
theorem wholeOfUpto_row_tie : Rows.wholeOfUptoRow.laidByTextAt .later Tryd.pinned [.sentinel, .sentinel] true :=
  OpenClaim.laidByTextAt_later rfl rfl tie noOwnUnsafe
theorem namesUpto_row_tie : Rows.namesUptoRow.laidByTextAt .later Tryd.pinned [.handle, .sentinel, .sentinel, .sentinel, .sentinel, .sentinel, .sentinel, .sentinel, .sentinel, .sentinel, .sentinel] true :=
  OpenClaim.laidByTextAt_later rfl rfl tie2 noOwnUnsafe
theorem wholeReadUpto_row_tie : Rows.wholeReadUptoRow.laidByTextAt .later Tryd.pinned [.handle, .sentinel, .sentinel, .sentinel, .sentinel, .sentinel, .sentinel, .sentinel, .sentinel, .sentinel, .sentinel] true :=
  OpenClaim.laidByTextAt_later rfl rfl tie2 noOwnUnsafe
theorem wholeRingUpto_row_tie : Rows.wholeRingUptoRow.laidByTextAt .later Tryd.pinned [.sentinel, .sentinel] true :=
  OpenClaim.laidByTextAt_later rfl rfl tie noOwnUnsafe
theorem wholeSumsUpto_row_tie : Rows.wholeSumsUptoRow.laidByTextAt .later Tryd.pinned [.sentinel, .sentinel] true :=
  OpenClaim.laidByTextAt_later rfl rfl tie noOwnUnsafe
theorem ratioOfUpto_row_tie : Rows.ratioOfUptoRow.laidByTextAt .later Tryd.pinned [.sentinel, .sentinel] true :=
  OpenClaim.laidByTextAt_later rfl rfl tie noOwnUnsafe
theorem ratioSumsUpto_row_tie : Rows.ratioSumsUptoRow.laidByTextAt .later Tryd.pinned [.sentinel, .sentinel, .sentinel] true :=
  OpenClaim.laidByTextAt_later rfl rfl tie3 noOwnUnsafe
theorem ratioSimplestUpto_row_tie : Rows.ratioSimplestUptoRow.laidByTextAt .later Tryd.pinned [.sentinel, .sentinel, .sentinel] true :=
  OpenClaim.laidByTextAt_later rfl rfl tie3 noOwnUnsafe
theorem ratioBetweenUpto_row_tie : Rows.ratioBetweenUptoRow.laidByTextAt .later Tryd.pinned [.sentinel, .sentinel, .sentinel] true :=
  OpenClaim.laidByTextAt_later rfl rfl tie3 noOwnUnsafe
theorem ratioDecimalUpto_row_tie : Rows.ratioDecimalUptoRow.laidByTextAt .later Tryd.pinned [.sentinel, .sentinel, .sentinel] true :=
  OpenClaim.laidByTextAt_later rfl rfl tie3 noOwnUnsafe
theorem ratioReadUpto_row_tie : Rows.ratioReadUptoRow.laidByTextAt .later Tryd.pinned [.handle, .sentinel, .sentinel, .sentinel, .sentinel, .sentinel, .sentinel, .sentinel, .sentinel, .sentinel, .sentinel] true :=
  OpenClaim.laidByTextAt_later rfl rfl tie2 noOwnUnsafe
end Go.Proofs.YtgiagombkgjhfaaDoor

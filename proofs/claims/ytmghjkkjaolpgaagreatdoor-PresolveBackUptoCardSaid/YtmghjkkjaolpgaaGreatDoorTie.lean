/-
  DERIVED. GIVEN WITH THE SEED: THE PROGRAM's TIES (one call each: nine closed facts by the kernel) AND EACH ROW's TIE, after the 31st guide's Derived/Test/Toyas{Tie, Card}.lean. No idea stands in it: it is a product of the set-up. Laid BY PROGRAM, IN A SANDBOX (cutbox-door.mjs). By AI agents, Wed Nov 11 2026. No macro, syntax, notation, axiom, sorry.
-/
import Derived.Test.YtmghjkkjaolpgaaGreatDoorRows
import Derived.LaidByTextLater
import Derived.SevenTiedAt
import Derived.LaidSub
import Derived.LaidOnce
namespace Go.Proofs.YtmghjkkjaolpgaaGreatDoor
open Go
set_option maxRecDepth 100000
theorem seatTie1 : Tryz.prog.laidByTextLater [("errors.errorType", Rows.laid_errors_errorType), ("optima/api.ErrText", Rows.laid_optima_api_ErrText), ("optima/api.ErrBound", Rows.laid_optima_api_ErrBound), ("optima/api.ErrZero", Rows.laid_optima_api_ErrZero), ("optima/api.ErrShape", Rows.laid_optima_api_ErrShape), ("optima/api.ErrSingular", Rows.laid_optima_api_ErrSingular), ("optima/api.ErrSense", Rows.laid_optima_api_ErrSense), ("optima/api.ErrName", Rows.laid_optima_api_ErrName), ("optima/api.ErrNumber", Rows.laid_optima_api_ErrNumber), ("optima/api.ErrBasis", Rows.laid_optima_api_ErrBasis), ("optima/api.ErrOpen", Rows.laid_optima_api_ErrOpen)] [.handle, .sentinel, .sentinel, .sentinel, .sentinel, .sentinel, .sentinel, .sentinel, .sentinel, .sentinel, .sentinel] true :=
  Program.laidByTextLater_by_one 206 8 2 (by kernel_rfl) (by kernel_rfl) (by kernel_rfl) (by kernel_rfl) (by kernel_rfl) (by kernel_rfl) (fun _ _ => by kernel_rfl)
theorem noOwnUnsafe : Tryz.pinned.checked.prog.headLifts.contains "ownunsafe" = false := by kernel_rfl
theorem tie : Tryz.prog.laidByTextLater [("errors.errorType", Rows.laid_errors_errorType), ("optima/api.ErrText", Rows.laid_optima_api_ErrText), ("optima/api.ErrBound", Rows.laid_optima_api_ErrBound), ("optima/api.ErrZero", Rows.laid_optima_api_ErrZero), ("optima/api.ErrShape", Rows.laid_optima_api_ErrShape), ("optima/api.ErrSingular", Rows.laid_optima_api_ErrSingular), ("optima/api.ErrSense", Rows.laid_optima_api_ErrSense), ("optima/api.ErrName", Rows.laid_optima_api_ErrName), ("optima/api.ErrNumber", Rows.laid_optima_api_ErrNumber), ("optima/api.ErrBasis", Rows.laid_optima_api_ErrBasis), ("optima/api.ErrOpen", Rows.laid_optima_api_ErrOpen)] [.handle, .sentinel, .sentinel, .sentinel, .sentinel, .sentinel, .sentinel, .sentinel, .sentinel, .sentinel, .sentinel] true :=
  Program.laidByTextLater.sub seatTie1 ["errors.errorType", "optima/api.ErrText", "optima/api.ErrBound", "optima/api.ErrZero", "optima/api.ErrShape", "optima/api.ErrSingular", "optima/api.ErrSense", "optima/api.ErrName", "optima/api.ErrNumber", "optima/api.ErrBasis", "optima/api.ErrOpen"] (by kernel_rfl) (by kernel_rfl)
theorem presolveTold_row_tie : Rows.presolveToldRow.laidByTextAt .later Tryz.pinned [.handle, .sentinel, .sentinel, .sentinel, .sentinel, .sentinel, .sentinel, .sentinel, .sentinel, .sentinel, .sentinel] true :=
  OpenClaim.laidByTextAt_later rfl rfl tie noOwnUnsafe
theorem presolveBack_row_tie : Rows.presolveBackRow.laidByTextAt .later Tryz.pinned [.handle, .sentinel, .sentinel, .sentinel, .sentinel, .sentinel, .sentinel, .sentinel, .sentinel, .sentinel, .sentinel] true :=
  OpenClaim.laidByTextAt_later rfl rfl tie noOwnUnsafe
theorem presolveToldUpto_row_tie : Rows.presolveToldUptoRow.laidByTextAt .later Tryz.pinned [.handle, .sentinel, .sentinel, .sentinel, .sentinel, .sentinel, .sentinel, .sentinel, .sentinel, .sentinel, .sentinel] true :=
  OpenClaim.laidByTextAt_later rfl rfl tie noOwnUnsafe
theorem presolveBackUpto_row_tie : Rows.presolveBackUptoRow.laidByTextAt .later Tryz.pinned [.handle, .sentinel, .sentinel, .sentinel, .sentinel, .sentinel, .sentinel, .sentinel, .sentinel, .sentinel, .sentinel] true :=
  OpenClaim.laidByTextAt_later rfl rfl tie noOwnUnsafe
end Go.Proofs.YtmghjkkjaolpgaaGreatDoor

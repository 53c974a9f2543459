/-
  DERIVED. GIVEN WITH THE SEED: THE PROGRAM's TIES (one call each: nine closed facts by the kernel) AND EACH ROW's TIE, after the 31st guide's Derived/Test/Toyas{Tie, Card}.lean. No idea stands in it: it is a product of the set-up. Laid BY PROGRAM, IN A SANDBOX (cutbox-door.mjs). By AI agents, Wed Nov 11 2026. No macro, syntax, notation, axiom, sorry.
-/
import Derived.Test.YtacjjmdhiphckaaDoorRows
import Derived.LaidByTextLater
import Derived.SevenTiedAt
import Derived.LaidSub
import Derived.LaidOnce
namespace Go.Proofs.YtacjjmdhiphckaaDoor
open Go
set_option maxRecDepth 100000
theorem seatTie1 : Tryd.prog.laidByTextLater [("errors.errorType", Rows.laid_errors_errorType), ("scaler/api.ErrLong", Rows.laid_scaler_api_ErrLong), ("scaler/api.ErrCode", Rows.laid_scaler_api_ErrCode), ("scaler/api.ErrLimits", Rows.laid_scaler_api_ErrLimits), ("scaler/api.ErrStale", Rows.laid_scaler_api_ErrStale), ("scaler/api.ErrMetric", Rows.laid_scaler_api_ErrMetric), ("scaler/api.ErrDivide", Rows.laid_scaler_api_ErrDivide), ("scaler/api.ErrNoData", Rows.laid_scaler_api_ErrNoData), ("scaler/api.ErrCooling", Rows.laid_scaler_api_ErrCooling)] [.handle, .sentinel, .sentinel, .sentinel, .sentinel, .sentinel, .sentinel, .sentinel, .sentinel] true :=
  Program.laidByTextLater_by_one 168 8 2 (by kernel_rfl) (by kernel_rfl) (by kernel_rfl) (by kernel_rfl) (by kernel_rfl) (by kernel_rfl) (fun _ _ => by kernel_rfl)
theorem noOwnUnsafe : Tryd.pinned.checked.prog.headLifts.contains "ownunsafe" = false := by kernel_rfl
theorem tie : Tryd.prog.laidByTextLater [("errors.errorType", Rows.laid_errors_errorType), ("scaler/api.ErrLong", Rows.laid_scaler_api_ErrLong), ("scaler/api.ErrCode", Rows.laid_scaler_api_ErrCode), ("scaler/api.ErrLimits", Rows.laid_scaler_api_ErrLimits), ("scaler/api.ErrStale", Rows.laid_scaler_api_ErrStale), ("scaler/api.ErrMetric", Rows.laid_scaler_api_ErrMetric), ("scaler/api.ErrDivide", Rows.laid_scaler_api_ErrDivide), ("scaler/api.ErrNoData", Rows.laid_scaler_api_ErrNoData), ("scaler/api.ErrCooling", Rows.laid_scaler_api_ErrCooling)] [.handle, .sentinel, .sentinel, .sentinel, .sentinel, .sentinel, .sentinel, .sentinel, .sentinel] true :=
  Program.laidByTextLater.sub seatTie1 ["errors.errorType", "scaler/api.ErrLong", "scaler/api.ErrCode", "scaler/api.ErrLimits", "scaler/api.ErrStale", "scaler/api.ErrMetric", "scaler/api.ErrDivide", "scaler/api.ErrNoData", "scaler/api.ErrCooling"] (by kernel_rfl) (by kernel_rfl)
theorem names_row_tie : Rows.namesRow.laidByTextAt .later Tryd.pinned [.handle, .sentinel, .sentinel, .sentinel, .sentinel, .sentinel, .sentinel, .sentinel, .sentinel] true :=
  OpenClaim.laidByTextAt_later rfl rfl tie noOwnUnsafe
theorem namesUpto_row_tie : Rows.namesUptoRow.laidByTextAt .later Tryd.pinned [.handle, .sentinel, .sentinel, .sentinel, .sentinel, .sentinel, .sentinel, .sentinel, .sentinel] true :=
  OpenClaim.laidByTextAt_later rfl rfl tie noOwnUnsafe
end Go.Proofs.YtacjjmdhiphckaaDoor

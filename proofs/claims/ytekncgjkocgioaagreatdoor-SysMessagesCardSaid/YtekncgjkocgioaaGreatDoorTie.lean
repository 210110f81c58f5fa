/-
  DERIVED. GIVEN WITH THE SEED: THE PROGRAM's TIES (one call each: nine closed facts by the kernel) AND EACH ROW's TIE, after the 31st guide's Derived/Test/Toyas{Tie, Card}.lean. No idea stands in it: it is a product of the set-up. Laid BY PROGRAM, IN A SANDBOX (cutbox-door.mjs). By AI agents, Wed Nov 11 2026. No macro, syntax, notation, axiom, sorry.
-/
import Derived.Test.YtekncgjkocgioaaGreatDoorRows
import Derived.LaidByTextLater
import Derived.SevenTiedAt
import Derived.LaidSub
import Derived.LaidOnce
namespace Go.Proofs.YtekncgjkocgioaaGreatDoor
open Go
set_option maxRecDepth 100000
theorem seatTie1 : Tryz.prog.laidByTextLater [("errors.errorType", Rows.laid_errors_errorType), ("ferry/api.ErrShort", Rows.laid_ferry_api_ErrShort), ("ferry/api.ErrRest", Rows.laid_ferry_api_ErrRest), ("ferry/api.ErrTag", Rows.laid_ferry_api_ErrTag), ("ferry/api.ErrRange", Rows.laid_ferry_api_ErrRange), ("ferry/api.ErrLength", Rows.laid_ferry_api_ErrLength), ("ferry/api.ErrSum", Rows.laid_ferry_api_ErrSum), ("ferry/api.ErrKind", Rows.laid_ferry_api_ErrKind), ("ferry/api.ErrPlan", Rows.laid_ferry_api_ErrPlan), ("ferry/api.ErrState", Rows.laid_ferry_api_ErrState), ("ferry/api.ErrBase", Rows.laid_ferry_api_ErrBase), ("ferry/api.ErrSize", Rows.laid_ferry_api_ErrSize), ("ferry/api.ErrArg", Rows.laid_ferry_api_ErrArg), ("ferry/api.ErrEnd", Rows.laid_ferry_api_ErrEnd), ("ferry/api.ErrBusy", Rows.laid_ferry_api_ErrBusy), ("ferry/api.ErrDown", Rows.laid_ferry_api_ErrDown), ("ferry/api.ErrLost", Rows.laid_ferry_api_ErrLost), ("ferry/api.ErrNone", Rows.laid_ferry_api_ErrNone), ("ferry/api.ErrText", Rows.laid_ferry_api_ErrText), ("ferry/api.ErrStop", Rows.laid_ferry_api_ErrStop), ("ferry/api.ErrDivide", Rows.laid_ferry_api_ErrDivide)] [.handle, .sentinel, .sentinel, .sentinel, .sentinel, .sentinel, .sentinel, .sentinel, .sentinel, .sentinel, .sentinel, .sentinel, .sentinel, .sentinel, .sentinel, .sentinel, .sentinel, .sentinel, .sentinel, .sentinel, .sentinel] true :=
  Program.laidByTextLater_by_one 396 8 2 (by kernel_rfl) (by kernel_rfl) (by kernel_rfl) (by kernel_rfl) (by kernel_rfl) (by kernel_rfl) (fun _ _ => by kernel_rfl)
theorem noOwnUnsafe : Tryz.pinned.checked.prog.headLifts.contains "ownunsafe" = false := by kernel_rfl
theorem tie : Tryz.prog.laidByTextLater [("ferry/api.ErrRange", Rows.laid_ferry_api_ErrRange), ("ferry/api.ErrLength", Rows.laid_ferry_api_ErrLength), ("ferry/api.ErrKind", Rows.laid_ferry_api_ErrKind), ("ferry/api.ErrPlan", Rows.laid_ferry_api_ErrPlan), ("ferry/api.ErrState", Rows.laid_ferry_api_ErrState), ("ferry/api.ErrSize", Rows.laid_ferry_api_ErrSize), ("ferry/api.ErrArg", Rows.laid_ferry_api_ErrArg), ("ferry/api.ErrBusy", Rows.laid_ferry_api_ErrBusy), ("ferry/api.ErrNone", Rows.laid_ferry_api_ErrNone)] [.sentinel, .sentinel, .sentinel, .sentinel, .sentinel, .sentinel, .sentinel, .sentinel, .sentinel] true :=
  Program.laidByTextLater.sub seatTie1 ["ferry/api.ErrRange", "ferry/api.ErrLength", "ferry/api.ErrKind", "ferry/api.ErrPlan", "ferry/api.ErrState", "ferry/api.ErrSize", "ferry/api.ErrArg", "ferry/api.ErrBusy", "ferry/api.ErrNone"] (by kernel_rfl) (by kernel_rfl)
theorem sysShares_row_tie : Rows.sysSharesRow.laidByTextAt .later Tryz.pinned [.sentinel, .sentinel, .sentinel, .sentinel, .sentinel, .sentinel, .sentinel, .sentinel, .sentinel] true :=
  OpenClaim.laidByTextAt_later rfl rfl tie noOwnUnsafe
theorem sysMessages_row_tie : Rows.sysMessagesRow.laidByTextAt .later Tryz.pinned [.sentinel, .sentinel, .sentinel, .sentinel, .sentinel, .sentinel, .sentinel, .sentinel, .sentinel] true :=
  OpenClaim.laidByTextAt_later rfl rfl tie noOwnUnsafe
theorem sysWaits_row_tie : Rows.sysWaitsRow.laidByTextAt .later Tryz.pinned [.sentinel, .sentinel, .sentinel, .sentinel, .sentinel, .sentinel, .sentinel, .sentinel, .sentinel] true :=
  OpenClaim.laidByTextAt_later rfl rfl tie noOwnUnsafe
theorem sysTouches_row_tie : Rows.sysTouchesRow.laidByTextAt .later Tryz.pinned [.sentinel, .sentinel, .sentinel, .sentinel, .sentinel, .sentinel, .sentinel, .sentinel, .sentinel] true :=
  OpenClaim.laidByTextAt_later rfl rfl tie noOwnUnsafe
theorem tie2 : Tryz.prog.laidByTextLater [("errors.errorType", Rows.laid_errors_errorType), ("ferry/api.ErrShort", Rows.laid_ferry_api_ErrShort), ("ferry/api.ErrRest", Rows.laid_ferry_api_ErrRest), ("ferry/api.ErrTag", Rows.laid_ferry_api_ErrTag), ("ferry/api.ErrRange", Rows.laid_ferry_api_ErrRange), ("ferry/api.ErrLength", Rows.laid_ferry_api_ErrLength), ("ferry/api.ErrSum", Rows.laid_ferry_api_ErrSum), ("ferry/api.ErrKind", Rows.laid_ferry_api_ErrKind), ("ferry/api.ErrPlan", Rows.laid_ferry_api_ErrPlan), ("ferry/api.ErrState", Rows.laid_ferry_api_ErrState), ("ferry/api.ErrBase", Rows.laid_ferry_api_ErrBase), ("ferry/api.ErrSize", Rows.laid_ferry_api_ErrSize), ("ferry/api.ErrArg", Rows.laid_ferry_api_ErrArg), ("ferry/api.ErrEnd", Rows.laid_ferry_api_ErrEnd), ("ferry/api.ErrBusy", Rows.laid_ferry_api_ErrBusy), ("ferry/api.ErrDown", Rows.laid_ferry_api_ErrDown), ("ferry/api.ErrLost", Rows.laid_ferry_api_ErrLost), ("ferry/api.ErrNone", Rows.laid_ferry_api_ErrNone), ("ferry/api.ErrText", Rows.laid_ferry_api_ErrText), ("ferry/api.ErrStop", Rows.laid_ferry_api_ErrStop), ("ferry/api.ErrDivide", Rows.laid_ferry_api_ErrDivide)] [.handle, .sentinel, .sentinel, .sentinel, .sentinel, .sentinel, .sentinel, .sentinel, .sentinel, .sentinel, .sentinel, .sentinel, .sentinel, .sentinel, .sentinel, .sentinel, .sentinel, .sentinel, .sentinel, .sentinel, .sentinel] true :=
  Program.laidByTextLater.sub seatTie1 ["errors.errorType", "ferry/api.ErrShort", "ferry/api.ErrRest", "ferry/api.ErrTag", "ferry/api.ErrRange", "ferry/api.ErrLength", "ferry/api.ErrSum", "ferry/api.ErrKind", "ferry/api.ErrPlan", "ferry/api.ErrState", "ferry/api.ErrBase", "ferry/api.ErrSize", "ferry/api.ErrArg", "ferry/api.ErrEnd", "ferry/api.ErrBusy", "ferry/api.ErrDown", "ferry/api.ErrLost", "ferry/api.ErrNone", "ferry/api.ErrText", "ferry/api.ErrStop", "ferry/api.ErrDivide"] (by kernel_rfl) (by kernel_rfl)
theorem sysDoes_row_tie : Rows.sysDoesRow.laidByTextAt .later Tryz.pinned [.handle, .sentinel, .sentinel, .sentinel, .sentinel, .sentinel, .sentinel, .sentinel, .sentinel, .sentinel, .sentinel, .sentinel, .sentinel, .sentinel, .sentinel, .sentinel, .sentinel, .sentinel, .sentinel, .sentinel, .sentinel] true :=
  OpenClaim.laidByTextAt_later rfl rfl tie2 noOwnUnsafe
theorem sysSharesUpto_row_tie : Rows.sysSharesUptoRow.laidByTextAt .later Tryz.pinned [.sentinel, .sentinel, .sentinel, .sentinel, .sentinel, .sentinel, .sentinel, .sentinel, .sentinel] true :=
  OpenClaim.laidByTextAt_later rfl rfl tie noOwnUnsafe
theorem sysMessagesUpto_row_tie : Rows.sysMessagesUptoRow.laidByTextAt .later Tryz.pinned [.sentinel, .sentinel, .sentinel, .sentinel, .sentinel, .sentinel, .sentinel, .sentinel, .sentinel] true :=
  OpenClaim.laidByTextAt_later rfl rfl tie noOwnUnsafe
theorem sysWaitsUpto_row_tie : Rows.sysWaitsUptoRow.laidByTextAt .later Tryz.pinned [.sentinel, .sentinel, .sentinel, .sentinel, .sentinel, .sentinel, .sentinel, .sentinel, .sentinel] true :=
  OpenClaim.laidByTextAt_later rfl rfl tie noOwnUnsafe
theorem sysTouchesUpto_row_tie : Rows.sysTouchesUptoRow.laidByTextAt .later Tryz.pinned [.sentinel, .sentinel, .sentinel, .sentinel, .sentinel, .sentinel, .sentinel, .sentinel, .sentinel] true :=
  OpenClaim.laidByTextAt_later rfl rfl tie noOwnUnsafe
theorem sysDoesUpto_row_tie : Rows.sysDoesUptoRow.laidByTextAt .later Tryz.pinned [.handle, .sentinel, .sentinel, .sentinel, .sentinel, .sentinel, .sentinel, .sentinel, .sentinel, .sentinel, .sentinel, .sentinel, .sentinel, .sentinel, .sentinel, .sentinel, .sentinel, .sentinel, .sentinel, .sentinel, .sentinel] true :=
  OpenClaim.laidByTextAt_later rfl rfl tie2 noOwnUnsafe
end Go.Proofs.YtekncgjkocgioaaGreatDoor

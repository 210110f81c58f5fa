/-
  DERIVED. GIVEN WITH THE SEED: THE PROGRAM's TIES (one call each: nine closed facts by the kernel) AND EACH ROW's TIE, after the 31st guide's Derived/Test/Toyas{Tie, Card}.lean. No idea stands in it: it is a product of the set-up. Laid BY PROGRAM, IN A SANDBOX (cutbox-door.mjs). By AI agents, Wed Nov 11 2026. No macro, syntax, notation, axiom, sorry.
-/
import Derived.Test.YtgcjnpfidjfmmaaGreatDoorRows
import Derived.LaidByTextLater
import Derived.SevenTiedAt
import Derived.LaidSub
import Derived.LaidOnce
namespace Go.Proofs.YtgcjnpfidjfmmaaGreatDoor
open Go
set_option maxRecDepth 100000
theorem seatTie1 : Tryz.prog.laidByTextLater [("ferry/api.ErrRange", Rows.laid_ferry_api_ErrRange), ("ferry/api.ErrKind", Rows.laid_ferry_api_ErrKind), ("ferry/api.ErrPlan", Rows.laid_ferry_api_ErrPlan), ("ferry/api.ErrState", Rows.laid_ferry_api_ErrState), ("ferry/api.ErrSize", Rows.laid_ferry_api_ErrSize), ("ferry/api.ErrArg", Rows.laid_ferry_api_ErrArg), ("ferry/api.ErrBusy", Rows.laid_ferry_api_ErrBusy), ("ferry/api.ErrNone", Rows.laid_ferry_api_ErrNone)] [.sentinel, .sentinel, .sentinel, .sentinel, .sentinel, .sentinel, .sentinel, .sentinel] true :=
  Program.laidByTextLater_by_one 161 8 2 (by kernel_rfl) (by kernel_rfl) (by kernel_rfl) (by kernel_rfl) (by kernel_rfl) (by kernel_rfl) (fun _ _ => by kernel_rfl)
theorem noOwnUnsafe : Tryz.pinned.checked.prog.headLifts.contains "ownunsafe" = false := by kernel_rfl
theorem tie : Tryz.prog.laidByTextLater [("ferry/api.ErrRange", Rows.laid_ferry_api_ErrRange), ("ferry/api.ErrKind", Rows.laid_ferry_api_ErrKind), ("ferry/api.ErrPlan", Rows.laid_ferry_api_ErrPlan), ("ferry/api.ErrState", Rows.laid_ferry_api_ErrState), ("ferry/api.ErrSize", Rows.laid_ferry_api_ErrSize), ("ferry/api.ErrArg", Rows.laid_ferry_api_ErrArg), ("ferry/api.ErrBusy", Rows.laid_ferry_api_ErrBusy), ("ferry/api.ErrNone", Rows.laid_ferry_api_ErrNone)] [.sentinel, .sentinel, .sentinel, .sentinel, .sentinel, .sentinel, .sentinel, .sentinel] true :=
  Program.laidByTextLater.sub seatTie1 ["ferry/api.ErrRange", "ferry/api.ErrKind", "ferry/api.ErrPlan", "ferry/api.ErrState", "ferry/api.ErrSize", "ferry/api.ErrArg", "ferry/api.ErrBusy", "ferry/api.ErrNone"] (by kernel_rfl) (by kernel_rfl)
theorem sysNames_row_tie : Rows.sysNamesRow.laidByTextAt .later Tryz.pinned [.sentinel, .sentinel, .sentinel, .sentinel, .sentinel, .sentinel, .sentinel, .sentinel] true :=
  OpenClaim.laidByTextAt_later rfl rfl tie noOwnUnsafe
theorem sysNamesUpto_row_tie : Rows.sysNamesUptoRow.laidByTextAt .later Tryz.pinned [.sentinel, .sentinel, .sentinel, .sentinel, .sentinel, .sentinel, .sentinel, .sentinel] true :=
  OpenClaim.laidByTextAt_later rfl rfl tie noOwnUnsafe
end Go.Proofs.YtgcjnpfidjfmmaaGreatDoor

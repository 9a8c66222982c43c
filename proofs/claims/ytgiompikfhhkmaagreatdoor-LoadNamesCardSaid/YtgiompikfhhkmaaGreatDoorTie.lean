/-
  DERIVED. GIVEN WITH THE SEED: THE PROGRAM's TIES (one call each: nine closed facts by the kernel) AND EACH ROW's TIE, after the 31st guide's Derived/Test/Toyas{Tie, Card}.lean. No idea stands in it: it is a product of the set-up. Laid BY PROGRAM, IN A SANDBOX (cutbox-door.mjs). By AI agents, Wed Nov 11 2026. No macro, syntax, notation, axiom, sorry.
-/
import Derived.Test.YtgiompikfhhkmaaGreatDoorRows
import Derived.LaidByTextLater
import Derived.SevenTiedAt
import Derived.LaidSub
import Derived.LaidOnce
namespace Go.Proofs.YtgiompikfhhkmaaGreatDoor
open Go
set_option maxRecDepth 100000
theorem seatTie1 : Tryz.prog.laidByTextLater [("errors.errorType", Rows.laid_errors_errorType), ("warrant/load.ErrProgram", Rows.laid_warrant_load_ErrProgram), ("warrant/load.ErrCFG", Rows.laid_warrant_load_ErrCFG), ("warrant/load.ErrCert", Rows.laid_warrant_load_ErrCert), ("warrant/load.ErrNotInductive", Rows.laid_warrant_load_ErrNotInductive), ("warrant/load.ErrUnsafe", Rows.laid_warrant_load_ErrUnsafe), ("warrant/load.ErrRank", Rows.laid_warrant_load_ErrRank), ("warrant/load.ErrBound", Rows.laid_warrant_load_ErrBound), ("warrant/load.ErrInput", Rows.laid_warrant_load_ErrInput)] [.handle, .sentinel, .sentinel, .sentinel, .sentinel, .sentinel, .sentinel, .sentinel, .sentinel] true :=
  Program.laidByTextLater_by_one 168 8 2 (by kernel_rfl) (by kernel_rfl) (by kernel_rfl) (by kernel_rfl) (by kernel_rfl) (by kernel_rfl) (fun _ _ => by kernel_rfl)
theorem noOwnUnsafe : Tryz.pinned.checked.prog.headLifts.contains "ownunsafe" = false := by kernel_rfl
theorem tie : Tryz.prog.laidByTextLater [("errors.errorType", Rows.laid_errors_errorType), ("warrant/load.ErrProgram", Rows.laid_warrant_load_ErrProgram), ("warrant/load.ErrCFG", Rows.laid_warrant_load_ErrCFG), ("warrant/load.ErrCert", Rows.laid_warrant_load_ErrCert), ("warrant/load.ErrNotInductive", Rows.laid_warrant_load_ErrNotInductive), ("warrant/load.ErrUnsafe", Rows.laid_warrant_load_ErrUnsafe), ("warrant/load.ErrRank", Rows.laid_warrant_load_ErrRank), ("warrant/load.ErrBound", Rows.laid_warrant_load_ErrBound), ("warrant/load.ErrInput", Rows.laid_warrant_load_ErrInput)] [.handle, .sentinel, .sentinel, .sentinel, .sentinel, .sentinel, .sentinel, .sentinel, .sentinel] true :=
  Program.laidByTextLater.sub seatTie1 ["errors.errorType", "warrant/load.ErrProgram", "warrant/load.ErrCFG", "warrant/load.ErrCert", "warrant/load.ErrNotInductive", "warrant/load.ErrUnsafe", "warrant/load.ErrRank", "warrant/load.ErrBound", "warrant/load.ErrInput"] (by kernel_rfl) (by kernel_rfl)
theorem loadNames_row_tie : Rows.loadNamesRow.laidByTextAt .later Tryz.pinned [.handle, .sentinel, .sentinel, .sentinel, .sentinel, .sentinel, .sentinel, .sentinel, .sentinel] true :=
  OpenClaim.laidByTextAt_later rfl rfl tie noOwnUnsafe
theorem loadNamesUpto_row_tie : Rows.loadNamesUptoRow.laidByTextAt .later Tryz.pinned [.handle, .sentinel, .sentinel, .sentinel, .sentinel, .sentinel, .sentinel, .sentinel, .sentinel] true :=
  OpenClaim.laidByTextAt_later rfl rfl tie noOwnUnsafe
end Go.Proofs.YtgiompikfhhkmaaGreatDoor

/-
  DERIVED. GIVEN WITH THE SEED: THE CARDS: each row of YtgiompikfhhkmaaGreatDoorRows.lean that lists a variable, with what it lists TIED to the program's text (the seventh form; the later family's looks); each row that meets fmt, with fmt's text TOLD by the authors' own Lean function (tested against real Go, not proved from fmt's source: count such statements apart). THE CARD IS WHAT COUNTS. Prove the row's statement (the work); the ties are given (YtgiompikfhhkmaaGreatDoorTie.lean); close each card by the builder's one call (the guide's Derived/Test/ToyasCard.lean, 'card_holds'). Laid BY PROGRAM, IN A SANDBOX (cutbox-door.mjs). By AI agents, Wed Nov 11 2026. No macro, syntax, notation, axiom, sorry.
-/
import Derived.Test.YtgiompikfhhkmaaGreatDoorRows
import GoSem.ClaimSeven
namespace Go.Proofs.YtgiompikfhhkmaaGreatDoor
namespace Rows

/-- THE TIED CARD OF 'warrantlaw16.LoadNames'. -/
def loadNamesCard : Claim7 := { stood := { row := loadNamesRow, standIns := [], harness := (true, "e78e4a6c7f7fa87656e13afd2a80afbe992272b8caf1f20e11b4770331f241c9"), looks := true }, kinds := [], alts := [], laidByText := true, laidKinds := [.handle, .sentinel, .sentinel, .sentinel, .sentinel, .sentinel, .sentinel, .sentinel, .sentinel], laidTests := true, laidLooks := .later }
def LoadNamesCardSaid : Prop := Claim7.holds Tryz.pinned (.plain (OpenSpec.ofChange loadNamesSpec)) loadNamesCard

/-- THE SECOND FORM's CARD OF 'warrantlaw16.LoadNames'. -/
def loadNamesUptoCard : Claim7 := { stood := { row := loadNamesUptoRow, standIns := [], harness := (true, "e78e4a6c7f7fa87656e13afd2a80afbe992272b8caf1f20e11b4770331f241c9"), looks := true }, kinds := [], alts := [], laidByText := true, laidKinds := [.handle, .sentinel, .sentinel, .sentinel, .sentinel, .sentinel, .sentinel, .sentinel, .sentinel], laidTests := true, laidLooks := .later }
def LoadNamesUptoCardSaid : Prop := Claim7.holds Tryz.pinned (.plain (OpenSpec.upto loadNamesSpec)) loadNamesUptoCard
end Rows
end Go.Proofs.YtgiompikfhhkmaaGreatDoor

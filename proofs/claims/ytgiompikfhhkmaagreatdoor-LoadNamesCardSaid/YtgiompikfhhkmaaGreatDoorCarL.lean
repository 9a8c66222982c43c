/- Proved: the closed law LoadNames returns true from every start that fits the row (the tied card of LoadNames). Conditions: none beyond the row's own: the listed variables (eight errors of package load and the handle of the type error) read as the program's text lays them, and this is tied by the given texts. The seat is cut with walls (the translator's switch -farwalls): the run comes to none of them. -/
import Derived.Test.YtgiompikfhhkmaaGreatDoorFinL
import Derived.Test.YtgiompikfhhkmaaGreatDoorTie
import Derived.Test.YtgiompikfhhkmaaGreatDoorCards
import Derived.SevenTiedAt
set_option linter.unusedVariables false
set_option linter.unusedSimpArgs false
namespace Go.Proofs.YtgiompikfhhkmaaGreatDoor
open Go Go.Sim Go.ChangeShapes Go.WideShapes Go.ChangeAt Go.RowKit
set_option maxRecDepth 100000

theorem card_wf : Rows.loadNamesRow.wfByText (OpenSpec.ofChange Rows.loadNamesSpec) = true := by kernel_rfl
theorem card_main : Tryz.pinned.checked.prog.mainIs = some (true,"e78e4a6c7f7fa87656e13afd2a80afbe992272b8caf1f20e11b4770331f241c9".toList) := by kernel_rfl
theorem card_named : Tryz.prog.funcNamed Rows.loadNamesRow.func = some 3 := by kernel_rfl
theorem card_looks : true = Tryz.pinned.checked.prog.looks [] := by kernel_rfl
theorem card_goes : false = Rows.loadNamesRow.goesBy Tryz.pinned.checked.prog := by kernel_rfl
theorem card_fun (f : FuncId) (fn : Func) (hf : Tryz.pinned.checked.prog.funcNamed Rows.loadNamesRow.func = some f) (hfn : Tryz.pinned.checked.prog.funcs[f]? = some fn) :
    true = Tryz.pinned.checked.prog.looks [] ∧ ∀ (j : Nat) t,fn.params[j]? = some t → Tryz.pinned.checked.prog.wantsStandIn t = false := by
  obtain rfl : f = 3 := Option.some.inj (card_named.symm.trans hf) |>.symm
  obtain rfl : fn = Tryz.f3 := (Option.some.inj (Tryz.func3.symm.trans hfn)).symm
  refine ⟨card_looks,fun j t ht => ?_⟩
  rw [Tryz.params3] at ht
  simp at ht

/-- THE STATEMENT: the tied card of LoadNames -/
theorem loadNames_card : Rows.LoadNamesCardSaid :=
  Claim7.holds_tied_plain_at .later [] [.handle,.sentinel,.sentinel,.sentinel,.sentinel,.sentinel,.sentinel,.sentinel,.sentinel] true (true,"e78e4a6c7f7fa87656e13afd2a80afbe992272b8caf1f20e11b4770331f241c9") true
    loadNames_holds (fun _ h => by cases h) card_wf (fun _ h => by cases h) loadNames_row_tie rfl ⟨rfl,rfl⟩ card_main rfl card_fun card_goes
#print axioms loadNames_card
end Go.Proofs.YtgiompikfhhkmaaGreatDoor

/- Closed facts of the row of LoadNames. -/
import Derived.Test.YtgiompikfhhkmaaGreatDoorRows
import Derived.ProofKit
import Derived.OpenShut
import Derived.LaidMore
import Derived.Lay
import Derived.MakeChecks
import Derived.SevenTiedAt
import Derived.Stop.Joined
set_option linter.unusedVariables false
set_option linter.unusedSimpArgs false
namespace Go.Proofs.YtgiompikfhhkmaaGreatDoor
open Go Go.ChangeShapes Go.WideShapes Go.ChangeAt Go.RowKit
set_option maxRecDepth 100000
theorem fa9 : ((Rows.loadNamesRow.inPlace == Tryz.checked.prog.inPlace 3)) = true := by kernel_rfl
theorem fa10 : ((Rows.loadNamesRow.unfollowed == Tryz.checked.prog.unfollowed 3)) = true := by kernel_rfl
theorem fa11 : ((Rows.loadNamesRow.recurses == Tryz.checked.prog.recurses 3)) = true := by kernel_rfl
theorem fa12 : ((Rows.loadNamesRow.named == Tryz.checked.prog.varsNamed 3)) = true := by kernel_rfl
theorem fa0 : (Rows.loadNamesRow.wf (OpenSpec.ofChange Rows.loadNamesSpec)) = true := by kernel_rfl
theorem fa1 : (laidOutB Tryz.checked.prog) = true := by kernel_rfl
theorem fa2 : (mapsRowed Tryz.checked.prog) = true := by kernel_rfl
theorem fa3 : (Tryz.f3.params.all (Tryz.checked.prog.readableRec ·)) = true := by kernel_rfl
theorem fa4 : (namedTie Tryz.checked.prog Rows.loadNamesRow.named Rows.loadNamesSpec.vars) = true := by kernel_rfl
theorem fa5 : ((Rows.loadNamesRow.stops == [])) = true := by kernel_rfl
theorem fa6 : ((Tryz.checked.prog.stops == [])) = true := by kernel_rfl
theorem fa7 : ((Rows.loadNamesRow.knobs == [])) = true := by kernel_rfl
theorem fa8 : ((Tryz.checked.prog.stopKnobs == [])) = true := by kernel_rfl
theorem fa13 : ((Rows.loadNamesRow.maps == (Tryz.f3.params.toList ++ Rows.loadNamesSpec.plain.varTypes Tryz.checked.prog).any (Tryz.checked.prog.mapsRec ·))) = true := by kernel_rfl
theorem fa14 : ((Rows.loadNamesRow.ifaces == (Tryz.f3.params.toList ++ Rows.loadNamesSpec.plain.varTypes Tryz.checked.prog).any (Tryz.checked.prog.ifacesRec ·))) = true := by kernel_rfl
theorem fa15 : ((Rows.loadNamesRow.mapsOut == Tryz.checked.prog.mapsAmong Tryz.f3.resultTypes.toList)) = true := by kernel_rfl
theorem fa16 : ((Rows.loadNamesRow.loops == (Tryz.f3.params.toList ++ Rows.loadNamesSpec.plain.varTypes Tryz.checked.prog).any (Tryz.checked.prog.loopsFrom ·))) = true := by kernel_rfl
theorem fa17 : ((Rows.loadNamesRow.wideKeys == (Tryz.f3.params.toList ++ Rows.loadNamesSpec.plain.varTypes Tryz.checked.prog ++ Tryz.f3.resultTypes.toList).any (Tryz.checked.prog.wideKeysFrom ·))) = true := by kernel_rfl
theorem fa18 : (Rows.loadNamesSpec.vars.all (Tryz.checked.prog.varReadable ·)) = true := by kernel_rfl
theorem fa19 : (Tryz.f3.resultTypes.all (fun t => Tryz.checked.prog.readableRec t && decide (t < Tryz.checked.prog.types.size))) = true := by kernel_rfl
theorem fa20 : ((Rows.loadNamesRow.ifacesOut == Tryz.f3.resultTypes.toList.any (Tryz.checked.prog.ifacesRec ·))) = true := by kernel_rfl
theorem fa21 : ((Rows.loadNamesRow.loopsOut == Tryz.f3.resultTypes.toList.any (Tryz.checked.prog.loopsFrom ·))) = true := by kernel_rfl
theorem fa22 : ((Rows.loadNamesRow.plainKeys == Tryz.checked.prog.plainKeys)) = true := by kernel_rfl
theorem fa23 : (Rows.loadNamesRow.shortTexts.isNone) = true := by kernel_rfl
theorem fa24 : (Tryz.checked.prog.stopsHeard) = true := by kernel_rfl
theorem fa25 : (Tryz.checked.prog.mayEnter) = true := by kernel_rfl
theorem fa26 : ((Rows.loadNamesRow.lifted == Tryz.checked.prog.liftsFinal)) = true := by kernel_rfl
theorem fa27 : ((Tryz.checked.prog.make == some Rows.loadNamesRow.make)) = true := by kernel_rfl
theorem fa28 : ((Rows.loadNamesRow.kinds == (if Rows.loadNamesRow.domain.isEmpty then [] else Tryz.f3.params.toList.map fun t => match Tryz.checked.prog.underlying t with | some (.int k) => some k | _ => none))) = true := by kernel_rfl
theorem fa29 : ((Rows.loadNamesRow.pinned == Rows.loadNamesRow.pinnedBy)) = true := by kernel_rfl
theorem fa30 : ((Rows.loadNamesRow.veiled == (Tryz.f3.params.toList ++ Rows.loadNamesSpec.plain.varTypes Tryz.checked.prog ++ Tryz.f3.resultTypes.toList).any (Tryz.checked.prog.veiledRec ·))) = true := by kernel_rfl
theorem fa31 : (Rows.loadNamesRow.veiledFits Tryz.checked.prog Tryz.f3.params.toList (Tryz.f3.params.toList ++ Rows.loadNamesSpec.plain.varTypes Tryz.checked.prog ++ Tryz.f3.resultTypes.toList)) = true := by kernel_rfl
theorem and_t {a b : Bool} (h : a = true) (k : b = true) : (a && b) = true := by rw [h,k]; rfl
theorem facts : joinedFacts Tryz.checked.prog 3 Tryz.f3 Rows.loadNamesSpec Rows.loadNamesRow = true := and_t (and_t (and_t (and_t (and_t (and_t (and_t (and_t (and_t (and_t (and_t (and_t (and_t (and_t (and_t (and_t (and_t (and_t (and_t (and_t (and_t (and_t (and_t (and_t (and_t (and_t (and_t (and_t (and_t (and_t (and_t fa0 fa1) fa2) fa3) fa4) fa5) fa6) fa7) fa8) fa9) fa10) fa11) fa12) fa13) fa14) fa15) fa16) fa17) fa18) fa19) fa20) fa21) fa22) fa23) fa24) fa25) fa26) fa27) fa28) fa29) fa30) fa31
theorem inst : Tryz.f3.isInstance Tryz.checked.prog Rows.loadNamesRow.origin Rows.loadNamesRow.targs := of_decide_eq_true (by kernel_rfl)
theorem wrapper : Tryz.f3.isWrapper Tryz.checked.prog Rows.loadNamesRow.wrapper Rows.loadNamesRow.mainSum := by
  unfold Func.isWrapper; first | (rw [if_pos (by decide +kernel)]; kernel_rfl) | (rw [if_neg (by decide +kernel)]; exact ⟨rfl,rfl⟩)
theorem named3 : Tryz.pinned.checked.prog.funcNamed Rows.loadNamesRow.func = some 3 := by kernel_rfl

end Go.Proofs.YtgiompikfhhkmaaGreatDoor

/- Closed facts of the row of InferNames. -/
import Derived.Test.YtgdkljcnebaiiaaGreatRows
import Derived.ProofKit
import Derived.OpenShut
import Derived.LaidMore
import Derived.Lay
import Derived.MakeChecks
import Derived.SevenTiedAt
import Derived.Stop.Joined
set_option linter.unusedVariables false
set_option linter.unusedSimpArgs false
namespace Go.Proofs.YtgdkljcnebaiiaaGreat
open Go Go.ChangeShapes Go.WideShapes Go.ChangeAt Go.RowKit
set_option maxRecDepth 100000
theorem fa9 : ((Rows.inferNamesRow.inPlace == Tryz.checked.prog.inPlace 3)) = true := by kernel_rfl
theorem xaN : ((Rows.inferNamesRow.unfollowed == Tryz.checked.prog.unfollowed 3)) = true := by kernel_rfl
theorem xlH : ((Rows.inferNamesRow.recurses == Tryz.checked.prog.recurses 3)) = true := by kernel_rfl
theorem zYS : ((Rows.inferNamesRow.named == Tryz.checked.prog.varsNamed 3)) = true := by kernel_rfl
theorem fa0 : (Rows.inferNamesRow.wf (OpenSpec.ofChange Rows.inferNamesSpec)) = true := by kernel_rfl
theorem fa1 : (laidOutB Tryz.checked.prog) = true := by kernel_rfl
theorem fa2 : (mapsRowed Tryz.checked.prog) = true := by kernel_rfl
theorem fa3 : (Tryz.f3.params.all (Tryz.checked.prog.readableRec ·)) = true := by kernel_rfl
theorem fa4 : (namedTie Tryz.checked.prog Rows.inferNamesRow.named Rows.inferNamesSpec.vars) = true := by kernel_rfl
theorem fa5 : ((Rows.inferNamesRow.stops == [])) = true := by kernel_rfl
theorem fa6 : ((Tryz.checked.prog.stops == [])) = true := by kernel_rfl
theorem fa7 : ((Rows.inferNamesRow.knobs == [])) = true := by kernel_rfl
theorem fa8 : ((Tryz.checked.prog.stopKnobs == [])) = true := by kernel_rfl
theorem zZg : ((Rows.inferNamesRow.maps == (Tryz.f3.params.toList ++ Rows.inferNamesSpec.plain.varTypes Tryz.checked.prog).any (Tryz.checked.prog.mapsRec ·))) = true := by kernel_rfl
theorem zXe : ((Rows.inferNamesRow.ifaces == (Tryz.f3.params.toList ++ Rows.inferNamesSpec.plain.varTypes Tryz.checked.prog).any (Tryz.checked.prog.ifacesRec ·))) = true := by kernel_rfl
theorem xky : ((Rows.inferNamesRow.mapsOut == Tryz.checked.prog.mapsAmong Tryz.f3.resultTypes.toList)) = true := by kernel_rfl
theorem xbA : ((Rows.inferNamesRow.loops == (Tryz.f3.params.toList ++ Rows.inferNamesSpec.plain.varTypes Tryz.checked.prog).any (Tryz.checked.prog.loopsFrom ·))) = true := by kernel_rfl
theorem xbx : ((Rows.inferNamesRow.wideKeys == (Tryz.f3.params.toList ++ Rows.inferNamesSpec.plain.varTypes Tryz.checked.prog ++ Tryz.f3.resultTypes.toList).any (Tryz.checked.prog.wideKeysFrom ·))) = true := by kernel_rfl
theorem xdz : (Rows.inferNamesSpec.vars.all (Tryz.checked.prog.varReadable ·)) = true := by kernel_rfl
theorem zZc : (Tryz.f3.resultTypes.all (fun t => Tryz.checked.prog.readableRec t && decide (t < Tryz.checked.prog.types.size))) = true := by kernel_rfl
theorem zZf : ((Rows.inferNamesRow.ifacesOut == Tryz.f3.resultTypes.toList.any (Tryz.checked.prog.ifacesRec ·))) = true := by kernel_rfl
theorem zXy : ((Rows.inferNamesRow.loopsOut == Tryz.f3.resultTypes.toList.any (Tryz.checked.prog.loopsFrom ·))) = true := by kernel_rfl
theorem xcV : ((Rows.inferNamesRow.plainKeys == Tryz.checked.prog.plainKeys)) = true := by kernel_rfl
theorem zZQ : (Rows.inferNamesRow.shortTexts.isNone) = true := by kernel_rfl
theorem xiF : (Tryz.checked.prog.stopsHeard) = true := by kernel_rfl
theorem zZh : (Tryz.checked.prog.mayEnter) = true := by kernel_rfl
theorem zYv : ((Rows.inferNamesRow.lifted == Tryz.checked.prog.liftsFinal)) = true := by kernel_rfl
theorem xkv : ((Tryz.checked.prog.make == some Rows.inferNamesRow.make)) = true := by kernel_rfl
theorem xbb : ((Rows.inferNamesRow.kinds == (if Rows.inferNamesRow.domain.isEmpty then [] else Tryz.f3.params.toList.map fun t => match Tryz.checked.prog.underlying t with | some (.int k) => some k | _ => none))) = true := by kernel_rfl
theorem zXX : ((Rows.inferNamesRow.pinned == Rows.inferNamesRow.pinnedBy)) = true := by kernel_rfl
theorem zZa : ((Rows.inferNamesRow.veiled == (Tryz.f3.params.toList ++ Rows.inferNamesSpec.plain.varTypes Tryz.checked.prog ++ Tryz.f3.resultTypes.toList).any (Tryz.checked.prog.veiledRec ·))) = true := by kernel_rfl
theorem xin : (Rows.inferNamesRow.veiledFits Tryz.checked.prog Tryz.f3.params.toList (Tryz.f3.params.toList ++ Rows.inferNamesSpec.plain.varTypes Tryz.checked.prog ++ Tryz.f3.resultTypes.toList)) = true := by kernel_rfl
theorem zcp {a b : Bool} (h : a = true) (k : b = true) : (a && b) = true := by rw [h,k]; rfl
theorem zWF : joinedFacts Tryz.checked.prog 3 Tryz.f3 Rows.inferNamesSpec Rows.inferNamesRow = true := zcp (zcp (zcp (zcp (zcp (zcp (zcp (zcp (zcp (zcp (zcp (zcp (zcp (zcp (zcp (zcp (zcp (zcp (zcp (zcp (zcp (zcp (zcp (zcp (zcp (zcp (zcp (zcp (zcp (zcp (zcp fa0 fa1) fa2) fa3) fa4) fa5) fa6) fa7) fa8) fa9) xaN) xlH) zYS) zZg) zXe) xky) xbA) xbx) xdz) zZc) zZf) zXy) xcV) zZQ) xiF) zZh) zYv) xkv) xbb) zXX) zZa) xin
theorem xlS : Tryz.f3.isInstance Tryz.checked.prog Rows.inferNamesRow.origin Rows.inferNamesRow.targs := of_decide_eq_true (by kernel_rfl)
theorem wrapper : Tryz.f3.isWrapper Tryz.checked.prog Rows.inferNamesRow.wrapper Rows.inferNamesRow.mainSum := by
  unfold Func.isWrapper; first | (rw [if_pos (by decide +kernel)]; kernel_rfl) | (rw [if_neg (by decide +kernel)]; exact ⟨rfl,rfl⟩)
theorem zEX : Tryz.pinned.checked.prog.funcNamed Rows.inferNamesRow.func = some 3 := by kernel_rfl
theorem zIc {H : Type} (enc : TypeId × Value → H) (P : Program) (fn : Func) : Rows.inferNamesRow.pre enc P fn (OpenSpec.ofChange Rows.inferNamesSpec) = Rows.inferNamesSpec.pre6 enc P fn [] false := rfl

end Go.Proofs.YtgdkljcnebaiiaaGreat

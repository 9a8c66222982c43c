/- Closed facts of the row of InferNever. -/
import Derived.Test.YtghhpeemloeljaaGreatRows
import Derived.ProofKit
import Derived.OpenShut
import Derived.LaidMore
import Derived.Lay
import Derived.MakeChecks
import Derived.SevenTiedAt
import Derived.Stop.Joined
namespace Go.Proofs.YtghhpeemloeljaaGreat
open Go Go.ChangeShapes Go.WideShapes Go.ChangeAt Go.RowKit
set_option maxRecDepth 100000
theorem fa9:((Rows.inferNeverRow.inPlace==Tryz.checked.prog.inPlace 3))=true:=by kernel_rfl
theorem zTg:((Rows.inferNeverRow.unfollowed==Tryz.checked.prog.unfollowed 3))=true:=by kernel_rfl
theorem zSH:((Rows.inferNeverRow.recurses==Tryz.checked.prog.recurses 3))=true:=by kernel_rfl
theorem zWI:((Rows.inferNeverRow.named==Tryz.checked.prog.varsNamed 3))=true:=by kernel_rfl
theorem fa0:(Rows.inferNeverRow.wf (OpenSpec.ofChange Rows.inferNeverSpec))=true:=by kernel_rfl
theorem fa1:(laidOutB Tryz.checked.prog)=true:=by kernel_rfl
theorem fa2:(mapsRowed Tryz.checked.prog)=true:=by kernel_rfl
theorem fa3:(Tryz.f3.params.all (Tryz.checked.prog.readableRec ·))=true:=by kernel_rfl
theorem fa4:(namedTie Tryz.checked.prog Rows.inferNeverRow.named Rows.inferNeverSpec.vars)=true:=by kernel_rfl
theorem fa5:((Rows.inferNeverRow.stops==[]))=true:=by kernel_rfl
theorem fa6:((Tryz.checked.prog.stops==[]))=true:=by kernel_rfl
theorem fa7:((Rows.inferNeverRow.knobs==[]))=true:=by kernel_rfl
theorem fa8:((Tryz.checked.prog.stopKnobs==[]))=true:=by kernel_rfl
theorem zWD:((Rows.inferNeverRow.maps==(Tryz.f3.params.toList++Rows.inferNeverSpec.plain.varTypes Tryz.checked.prog).any (Tryz.checked.prog.mapsRec ·)))=true:=by kernel_rfl
theorem zPe:((Rows.inferNeverRow.ifaces==(Tryz.f3.params.toList++Rows.inferNeverSpec.plain.varTypes Tryz.checked.prog).any (Tryz.checked.prog.ifacesRec ·)))=true:=by kernel_rfl
theorem zNS:((Rows.inferNeverRow.mapsOut==Tryz.checked.prog.mapsAmong Tryz.f3.resultTypes.toList))=true:=by kernel_rfl
theorem zUL:((Rows.inferNeverRow.loops==(Tryz.f3.params.toList++Rows.inferNeverSpec.plain.varTypes Tryz.checked.prog).any (Tryz.checked.prog.loopsFrom ·)))=true:=by kernel_rfl
theorem zYe:((Rows.inferNeverRow.wideKeys==(Tryz.f3.params.toList++Rows.inferNeverSpec.plain.varTypes Tryz.checked.prog++Tryz.f3.resultTypes.toList).any (Tryz.checked.prog.wideKeysFrom ·)))=true:=by kernel_rfl
theorem zQX:(Rows.inferNeverSpec.vars.all (Tryz.checked.prog.varReadable ·))=true:=by kernel_rfl
theorem zVo:(Tryz.f3.resultTypes.all (fun t=>Tryz.checked.prog.readableRec t&&decide (t<Tryz.checked.prog.types.size)))=true:=by kernel_rfl
theorem zNN:((Rows.inferNeverRow.ifacesOut==Tryz.f3.resultTypes.toList.any (Tryz.checked.prog.ifacesRec ·)))=true:=by kernel_rfl
theorem zOM:((Rows.inferNeverRow.loopsOut==Tryz.f3.resultTypes.toList.any (Tryz.checked.prog.loopsFrom ·)))=true:=by kernel_rfl
theorem zRh:((Rows.inferNeverRow.plainKeys==Tryz.checked.prog.plainKeys))=true:=by kernel_rfl
theorem zPG:(Rows.inferNeverRow.shortTexts.isNone)=true:=by kernel_rfl
theorem zRA:(Tryz.checked.prog.stopsHeard)=true:=by kernel_rfl
theorem zXc:(Tryz.checked.prog.mayEnter)=true:=by kernel_rfl
theorem zWa:((Rows.inferNeverRow.lifted==Tryz.checked.prog.liftsFinal))=true:=by kernel_rfl
theorem zOm:((Tryz.checked.prog.make==some Rows.inferNeverRow.make))=true:=by kernel_rfl
theorem zXJ:((Rows.inferNeverRow.kinds==(if Rows.inferNeverRow.domain.isEmpty then [] else Tryz.f3.params.toList.map fun t=>match Tryz.checked.prog.underlying t with | some (.int k)=>some k | _=>none)))=true:=by kernel_rfl
theorem zQH:((Rows.inferNeverRow.pinned==Rows.inferNeverRow.pinnedBy))=true:=by kernel_rfl
theorem zVv:((Rows.inferNeverRow.veiled==(Tryz.f3.params.toList++Rows.inferNeverSpec.plain.varTypes Tryz.checked.prog++Tryz.f3.resultTypes.toList).any (Tryz.checked.prog.veiledRec ·)))=true:=by kernel_rfl
theorem zUs:(Rows.inferNeverRow.veiledFits Tryz.checked.prog Tryz.f3.params.toList (Tryz.f3.params.toList++Rows.inferNeverSpec.plain.varTypes Tryz.checked.prog++Tryz.f3.resultTypes.toList))=true:=by kernel_rfl
theorem zcK {a b:Bool} (h:a=true) (k:b=true):(a&&b)=true:=by rw [h,k]; rfl
theorem zMD:joinedFacts Tryz.checked.prog 3 Tryz.f3 Rows.inferNeverSpec Rows.inferNeverRow=true:=zcK (zcK (zcK (zcK (zcK (zcK (zcK (zcK (zcK (zcK (zcK (zcK (zcK (zcK (zcK (zcK (zcK (zcK (zcK (zcK (zcK (zcK (zcK (zcK (zcK (zcK (zcK (zcK (zcK (zcK (zcK fa0 fa1) fa2) fa3) fa4) fa5) fa6) fa7) fa8) fa9) zTg) zSH) zWI) zWD) zPe) zNS) zUL) zYe) zQX) zVo) zNN) zOM) zRh) zPG) zRA) zXc) zWa) zOm) zXJ) zQH) zVv) zUs
theorem zTK:Tryz.f3.isInstance Tryz.checked.prog Rows.inferNeverRow.origin Rows.inferNeverRow.targs:=of_decide_eq_true (by kernel_rfl)
theorem wrapper:Tryz.f3.isWrapper Tryz.checked.prog Rows.inferNeverRow.wrapper Rows.inferNeverRow.mainSum:=by
  unfold Func.isWrapper; first | (rw [if_pos (by decide +kernel)]; kernel_rfl) | (rw [if_neg (by decide +kernel)]; exact ⟨rfl,rfl⟩)
theorem zIR:Tryz.pinned.checked.prog.funcNamed Rows.inferNeverRow.func=some 3:=by kernel_rfl
theorem zKP {H:Type} (enc:TypeId×Value→H) (P:Program) (fn:Func):Rows.inferNeverRow.pre enc P fn (OpenSpec.ofChange Rows.inferNeverSpec)=Rows.inferNeverSpec.pre6 enc P fn [] false:=rfl
end Go.Proofs.YtghhpeemloeljaaGreat

/- Proved: the closed law InferNames returns true from every start that fits the row. Conditions: none beyond the row's own. The seat is cut with walls (the translator's switch -farwalls): the run comes to none of them. -/
import Derived.Test.YtgdkljcnebaiiaaGreatSnd2
import Derived.Test.YtgdkljcnebaiiaaGreatFaI
import Derived.ProofKit
import Derived.OpenShut
import Derived.LaidMore
import Derived.Lay
import Derived.MakeChecks
import Derived.SevenTiedAt
import Derived.Stop.Joined
set_option linter.unusedVariables false
set_option linter.unusedSimpArgs false
namespace Go.Proofs.YtgdkljcnebaiiaaGreat
open Go Go.Sim Go.ChangeShapes Go.WideShapes Go.ChangeAt Go.RowKit
set_option maxRecDepth 100000

theorem own : ownKnob Tryz.prog.godebug = none := by kernel_rfl
def ρ0 : Ren := fun _ => none
theorem zrB {b : Nat} : h0.t.get b = none := ziR
theorem zna {O : OT} : zek (Eo O) ρ0 := fun g hg => absurd hg (Nat.not_lt_zero g)
theorem zvG {O : OT} {W : World} : WRel (Eo O) ρ0 h0 W := by
  refine ⟨fun b p hp => ?_,fun b o ho => ?_,fun b b' o o' r κ κ' ho => ?_,zna⟩
  · simp [ρ0] at hp
  · rw [zrB] at ho; simp at ho
  · rw [zrB] at ho; simp at ho
theorem ran {r : Ex (Value × SHeap)} (h : zrJ r = true) : ∃ h',r = .ok (.bool true,h') := by
  unfold zrJ at h
  split at h
  · exact ⟨_,rfl⟩
  · simp at h
theorem zBo {ρ' : Ren} {h' : SHeap} {W W' : World} (k : Stp ρ0 h0 W ρ' h' W') (may : MemPlace → Prop) : W.keptBut W' may := by
  refine ⟨k.os,k.output,fun i hi => ?_⟩
  have : W'.heap[i]? = W.heap[i]? := (k.keep i hi (by
    rintro ⟨b,o,κ,a,_,c⟩
    rw [zrB] at a
    simp at a)).1
  rw [this]
  cases W.heap[i]? with
  | none => rfl
  | some o => cases o with
    | cells c t fr => exact ⟨rfl,rfl,rfl,fun _ _ => rfl⟩
    | map es clock => exact .inr ⟨rfl,rfl⟩
    | _ => rfl

/-- THE WALK -/
theorem walk {W : World} : Calls Tryz.prog 3 #[] W fun e W' => e = .returned (.bool true) ∧ ∀ may,W.keptBut W' may := by
  obtain ⟨h',hr⟩ := ran xji
  refine Calls.mono (zrq (E := Eo OL) (zdC OL) (zdd OL) okL (f := 3) (args := #[]) (rargs := #[]) (show (Eo OL).O 3 = none by kernel_rfl) hr zvG zna (LRel.nil ρ0)) fun e W' he => ?_
  obtain ⟨ρ',u,rfl,hv,_,hk⟩ := he
  cases hv
  exact ⟨rfl,fun may => zBo hk may⟩

set_option maxRecDepth 100000 in
theorem lifted (os : Os) (started : os.Started) (H : Type) (enc : TypeId × Value → H) :
    ReturnsInHanded {} Tryz.checked os 3 .any (Rows.inferNamesSpec.pre6 enc Tryz.prog Tryz.f3 [] false) (Rows.inferNamesSpec.post enc Tryz.prog Tryz.f3 false true false false) := by
  refine returnsInHanded_of_calls (C := Tryz.checked) own started (by kernel_rfl)
    (ChangeSpec.witness6 (enc := enc) (C := Tryz.checked) (os := os) false ⟨#[],#[],[]⟩ 8 (by kernel_rfl) (by kernel_rfl) (by kernel_rfl) (by kernel_rfl) (by kernel_rfl)) ?_
  intro w tape i _ hsh _ hok hpre _
  obtain ⟨_,_,_,fn',hfn',_,_,_,_,hval⟩ := hok
  obtain ⟨⟨ds,gs,before,hw,hc⟩,hz⟩ := hpre
  have hw' := DataW.Whole.of_heap (w' := w.forCall tape i) (by rfl) hw
  have hW := hw'
  obtain ⟨p,q,hA0,hV,rfl,hfz,hnd⟩ := hW
  have hA : DataW.TrodAll enc Tryz.prog (w.forCall tape i) 0 (fun _ => true) true Tryz.f3.params.toList i.args.toList ds p := hA0
  rw [Tryz.params3] at hA
  obtain ⟨hargs,rfl,rfl⟩ := trodAll_none hA
  obtain ⟨rfl,rfl⟩ := trodVars_none hV
  have hargs : i.args = #[] := by simpa using hargs
  rw [hargs] at hw' ⊢
  refine walk.mono fun e W' ⟨he,hk⟩ => ?_
  subst he
  refine ChangeSpec.post_blind ⟨[],[],_,[],[],[],hw',?_,?_,?_,hk _,fun h => by cases h⟩
  · exact trodAll_mk1 (shut_bool Tryz.underlying4 _)
  · rw [Tryz.params3]; exact trodAll_mk0
  · rfl

/-- THE STATEMENT -/
theorem inferNames_holds : Rows.InferNamesSaid :=
  OpenClaim.holds_of_wide 3 Tryz.f3 rfl rfl rfl rfl rfl rfl rfl ⟨rfl,rfl,rfl,rfl,rfl⟩ rfl rfl rfl rfl rfl zEX Tryz.func3 zWF xlS wrapper
    (fun os started H enc _ => by
      rw [zIc]
      exact lifted os started H enc)
#print axioms inferNames_holds
end Go.Proofs.YtgdkljcnebaiiaaGreat

/- Proved: the closed law TrimNames returns true from every start that fits the row. Conditions: none beyond the row's own. The seat is cut with walls (the translator's switch -farwalls): the run comes to none of them. -/
import Derived.Test.YtepgoadcigfnoaaGreatSnd2
import Derived.Test.YtepgoadcigfnoaaGreatFaT
import Derived.ProofKit
import Derived.OpenShut
import Derived.LaidMore
import Derived.Lay
import Derived.MakeChecks
import Derived.SevenTiedAt
import Derived.Stop.Joined
set_option linter.unusedVariables false
set_option linter.unusedSimpArgs false
namespace Go.Proofs.YtepgoadcigfnoaaGreat
open Go Go.Sim Go.ChangeShapes Go.WideShapes Go.ChangeAt Go.RowKit
set_option maxRecDepth 100000

theorem own : ownKnob Tryz.prog.godebug = none := by kernel_rfl
def ρ0 : Ren := fun b => if b = 0 then some (0,0) else if b = 1 then some (1,0) else none
theorem h0xget {b : Nat} : h0.t.get b = none := nil_get
theorem start_rel {O : OT} {W : World} : WRel (Eo O) ρ0 h0 W := by
  refine ⟨fun b p hp => ?_,fun b o ho => ?_,fun b b' o o' r κ κ' ho => ?_⟩
  · show b < 2
    unfold ρ0 at hp
    split at hp
    · omega
    · split at hp
      · omega
      · simp at hp
  · rw [h0xget] at ho; simp at ho
  · rw [h0xget] at ho; simp at ho
theorem start_glob {O : OT} : GRel (Eo O) ρ0 := by
  intro g hg
  have : g < 2 := hg
  rcases (show g = 0 ∨ g = 1 by omega) with rfl | rfl
  · exact ⟨0,rfl⟩
  · exact ⟨0,rfl⟩
theorem ran {r : Ex (Value × SHeap)} (h : isTrue r = true) : ∃ h',r = .ok (.bool true,h') := by
  unfold isTrue at h
  split at h
  · exact ⟨_,rfl⟩
  · simp at h
theorem kept_of {ρ' : Ren} {h' : SHeap} {W W' : World} (k : Stp ρ0 h0 W ρ' h' W') (may : MemPlace → Prop) : W.keptBut W' may := by
  refine ⟨k.os,k.output,fun i hi => ?_⟩
  have : W'.heap[i]? = W.heap[i]? := (k.keep i hi (by
    rintro ⟨b,o,κ,a,_,c⟩
    rw [h0xget] at a
    simp at a)).1
  rw [this]
  cases W.heap[i]? with
  | none => rfl
  | some o => cases o with
    | cells c t fr => exact ⟨rfl,rfl,rfl,fun _ _ => rfl⟩
    | map es clock => exact .inr ⟨rfl,rfl⟩
    | _ => rfl

/-- THE WALK -/
theorem walk {W : World} : Calls Tryz.prog 3 #[] W fun e W' => e = .returned (.bool true) ∧ ∀ may,W.keptBut W' may := by
  obtain ⟨h',hr⟩ := ran rTop
  refine Calls.mono (calls_of_run (E := Eo OL) (envOK OL) (drawOK OL) okL (f := 3) (args := #[]) (rargs := #[]) (show (Eo OL).O 3 = none by kernel_rfl) hr start_rel start_glob (LRel.nil ρ0)) fun e W' he => ?_
  obtain ⟨ρ',u,rfl,hv,_,hk⟩ := he
  cases hv
  exact ⟨rfl,fun may => kept_of hk may⟩

set_option maxRecDepth 100000 in
theorem lifted (os : Os) (started : os.Started) (H : Type) (enc : TypeId × Value → H) :
    ReturnsInHanded {} Tryz.checked os 3 .any (Rows.trimNamesSpec.pre6 enc Tryz.prog Tryz.f3 [] false) (Rows.trimNamesSpec.post enc Tryz.prog Tryz.f3 false true false false) := by
  refine returnsInHanded_of_calls (C := Tryz.checked) own started (by kernel_rfl)
    (ChangeSpec.witness6 (enc := enc) (C := Tryz.checked) (os := os) false ⟨#[],#[],[]⟩ 8 (by kernel_rfl) (by kernel_rfl) (by kernel_rfl) (by kernel_rfl) (by kernel_rfl)) ?_
  intro w tape i _ hsh _ hok hpre _
  obtain ⟨_,_,_,fn',hfn',_,_,_,_,hval⟩ := hok
  obtain ⟨⟨ds,gs,before,hw,hc⟩,hz⟩ := hpre
  have hw' := DataW.Whole.of_heap (w' := w.forCall tape i) (by rfl) hw
  have hW := hw'
  obtain ⟨p,q,hA0,hV,rfl,hfz,hnd⟩ := hW
  have hA : DataW.TrodAll enc Tryz.prog (w.forCall tape i) 0 (fun _ => true) true Tryz.f3.params.toList i.args.toList ds p := hA0
  rw [Tryz.params3] at hA
  obtain ⟨hargs,rfl,rfl⟩ := trodAll_none hA
  obtain ⟨rfl,rfl⟩ := trodVars_none hV
  have hargs : i.args = #[] := by simpa using hargs
  rw [hargs] at hw' ⊢
  refine walk.mono fun e W' ⟨he,hk⟩ => ?_
  subst he
  refine ChangeSpec.post_blind ⟨[],[],_,[],[],[],hw',?_,?_,?_,hk _,fun h => by cases h⟩
  · exact trodAll_mk1 (shut_bool Tryz.underlying4 _)
  · rw [Tryz.params3]; exact trodAll_mk0
  · rfl

/-- THE STATEMENT -/
theorem trimNames_holds : Rows.TrimNamesSaid :=
  OpenClaim.holds_of_wide 3 Tryz.f3 rfl rfl rfl rfl rfl rfl rfl ⟨rfl,rfl,rfl,rfl,rfl⟩ rfl rfl rfl rfl rfl named3 Tryz.func3 facts inst wrapper
    (fun os started H enc _ => by
      rw [pre_is]
      exact lifted os started H enc)
#print axioms trimNames_holds
end Go.Proofs.YtepgoadcigfnoaaGreat

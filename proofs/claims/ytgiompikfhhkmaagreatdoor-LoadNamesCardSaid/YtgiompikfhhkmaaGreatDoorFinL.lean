/- The closed law LoadNames returns true from every start that fits the row. -/
import Derived.Test.YtgiompikfhhkmaaGreatDoorSnd2
import Derived.Test.YtgiompikfhhkmaaGreatDoorSta
import Derived.Test.YtgiompikfhhkmaaGreatDoorFaL
import Derived.Test.YtgiompikfhhkmaaGreatDoorWitL
import Derived.SevenTiedAt
import Derived.Stop.Joined
set_option linter.unusedVariables false
set_option linter.unusedSimpArgs false
namespace Go.Proofs.YtgiompikfhhkmaaGreatDoor
open Go Go.Sim Go.ChangeShapes Go.WideShapes Go.ChangeAt Go.RowKit
set_option maxRecDepth 100000

theorem own : ownKnob Tryz.prog.godebug = none := by kernel_rfl

/-- THE WALK -/
theorem walk {W : World} {A : Nat → Nat × Nat} (k : Sents W A) : Calls Tryz.prog 3 #[] W fun e W' => e = .returned (.bool true) ∧ ∀ may,W.keptBut W' may := by
  obtain ⟨h',hr⟩ := ran rTop
  refine Calls.mono (calls_of_run (E := Eo OL) (envOK OL) (drawOK OL) okL (f := 3) (args := #[]) (rargs := #[]) (show (Eo OL).O 3 = none by kernel_rfl) hr (start_rel k) start_glob (LRel.nil (ρ0 A))) fun e W' he => ?_
  obtain ⟨ρ',u,rfl,hv,_,hk⟩ := he
  cases hv
  exact ⟨rfl,fun may => kept_of hk may⟩

theorem lifted (os : Os) (started : os.Started) (H : Type) (enc : TypeId × Value → H) :
    ReturnsInHanded {} Tryz.checked os 3 .any (fun w args => (Rows.loadNamesSpec.pre enc Tryz.prog Tryz.f3 [] false w args ∧ laidMetH Tryz.prog laid9 w) ∧ sizedMet enc Tryz.prog Tryz.f3 (OpenSpec.ofChange Rows.loadNamesSpec) false w args)
      (Rows.loadNamesSpec.post enc Tryz.prog Tryz.f3 false true false false) := by
  refine returnsInHanded_of_calls (C := Tryz.checked) own started (by kernel_rfl)
    (ChangeSpec.witness_shaped (enc := enc) (C := Tryz.checked) (os := os) (X := fun w _ => laidMetH Tryz.prog laid9 w) false (w0 os) #[] 8 (w0xos os) (w0xshaped os) (w0xok os) (w0xpre os enc) (w0xsize os enc) (w0xmet os _)) ?_
  intro w tape i _ hsh _ hok hpre _
  obtain ⟨_,_,_,fn',hfn',_,_,_,_,hval⟩ := hok
  obtain ⟨⟨⟨ds,gs,before,hw,hc⟩,hx⟩,hz⟩ := hpre
  have hw' := DataW.Whole.of_heap (w' := w.forCall tape i) (by rfl) hw
  have hX : laidMetH Tryz.prog laid9 (w.forCall tape i) := hx.of_heap (by rfl)
  obtain ⟨A,k⟩ := sents_of (fun g zero t hg hr => hsh.1 g zero t hg hr) hX
  have hW := hw'
  obtain ⟨p,q,hA0,hV,rfl,hfz,hnd⟩ := hW
  have hA : DataW.TrodAll enc Tryz.prog (w.forCall tape i) 0 (fun _ => true) true Tryz.f3.params.toList i.args.toList ds p := hA0
  rw [Tryz.params3] at hA
  obtain ⟨hargs,rfl,rfl⟩ := trodAll_none hA
  obtain ⟨rfl,rfl⟩ := trodVars_none hV
  have hargs : i.args = #[] := by simpa using hargs
  rw [hargs] at hw' ⊢
  refine (walk k).mono fun e W' ⟨he,hk⟩ => ?_
  subst he
  refine ChangeSpec.post_blind ⟨[],[],_,[],[],[],hw',?_,?_,?_,hk _,fun h => by cases h⟩
  · exact trodAll_mk1 (shut_bool Tryz.underlying4 _)
  · rw [Tryz.params3]; exact trodAll_mk0
  · rfl

theorem loadNames_holds : Rows.LoadNamesSaid :=
  OpenClaim.holds_of_wide 3 Tryz.f3 rfl rfl rfl rfl rfl rfl rfl ⟨rfl,rfl,rfl,rfl,rfl⟩ rfl rfl rfl rfl rfl named3 Tryz.func3 facts inst wrapper
    (fun os started H enc _ => lifted os started H enc)

end Go.Proofs.YtgiompikfhhkmaaGreatDoor

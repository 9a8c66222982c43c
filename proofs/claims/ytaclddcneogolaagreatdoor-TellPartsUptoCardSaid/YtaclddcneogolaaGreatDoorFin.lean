/- Proved: the closed law TellNames returns true from every start that fits the row (the tied card of TellNames). Conditions: none beyond the row's own: the one listed table (internal/strconv.uint64pow10) reads as the program's text lays it, and this is tied by the given texts. The seat is cut with walls (the translator's switch -farwalls): the run comes to none of them. -/
import Derived.Test.YtaclddcneogolaaGreatDoorSnd2
import Derived.Test.YtaclddcneogolaaGreatDoorTie
import Derived.Test.YtaclddcneogolaaGreatDoorCards
import Derived.ProofKit
import Derived.OpenShut
import Derived.LaidMore
import Derived.Lay
import Derived.MakeChecks
import Derived.SevenTiedAt
import Derived.Stop.Joined
set_option linter.unusedVariables false
set_option linter.unusedSimpArgs false
namespace Go.Proofs.YtaclddcneogolaaGreatDoor
open Go Go.Sim Go.ChangeShapes Go.WideShapes Go.ChangeAt Go.RowKit
set_option maxRecDepth 100000

theorem own : ownKnob Tryz.prog.godebug = none := by kernel_rfl
def laid1 : List (String × DataW Unit) := Rows.tellNamesRow.laid
def vname : String := (laid1.map (·.1)).headD ""

theorem pow_data : (Rows.laid_internal_strconv_uint64pow10 : DataW Unit) = .agg ((List.range 20).map fun n => .lit (.int .u64 (10 ^ n))) := by kernel_rfl
theorem g0 : Tryz.prog.globalNamed vname = some 0 := by kernel_rfl

theorem pow_cells {W : World} (h : laidMetH Tryz.prog laid1 W) : ∃ cs, W.var? Tryz.prog vname = some cs ∧ ∀ i, i < 20 → cs.toList[i]? = some (.int .u64 (10 ^ i)) := by
  rw [MakeChecks.laidMetH_plain _ _ _ (by kernel_rfl)] at h
  obtain ⟨ps, ⟨g, t, cs, fuel, p, q, hg, ht, hv, hd, _, _⟩, _, _⟩ := h
  obtain rfl := Option.some.inj (g0.symm.trans hg)
  obtain rfl := Option.some.inj ((show (Tryz.prog.globals[0]?).map (·.type) = some 342 by kernel_rfl).symm.trans ht)
  refine ⟨cs, hv, fun i hi => ?_⟩
  obtain ⟨xs, m, _, ex, _, hl, hel⟩ := DataW.trod_array Tryz.underlying342 hd
  have c112 : Tryz.prog.cellsOf 112 = 1 := by kernel_rfl
  have hE := hel i hi
  rw [c112, Nat.mul_one, List.getElem?_eq_getElem (by omega)] at hE
  obtain ⟨z, e1, e2, _⟩ := DataW.trod_int Tryz.underlying112 hE
  have e3 : (xs.map (·.1)) = (List.range 20).map fun n => .lit (.int .u64 (10 ^ n)) := by
    have := (Prod.mk.inj ex).1
    rw [pow_data] at this
    exact (DataW.agg.inj this).symm
  have e4 : (xs.map (·.1))[i]? = ((List.range 20).map fun n => (DataW.lit (.int .u64 (10 ^ n)) : DataW Unit))[i]? := by rw [e3]
  rw [List.getElem?_map, List.getElem?_map, List.getElem?_eq_getElem (by omega : i < xs.length), List.getElem?_range hi, e2] at e4
  simp only [Option.map_some, Option.some.injEq, DataW.lit.injEq, Lit.int.injEq, true_and] at e4
  have h0 : ((cs.toList.drop i).take 1)[0]? = some (.int .u64 z) := by rw [e1]; rfl
  rw [← e4]
  simpa using h0

def ρ0 : Ren := fun b => if b = 0 then some (0, 1) else if b = 1 then some (1, 0) else none

theorem h0xget {b : Nat} {o : SObj} (h : h0.t.get b = some o) : b = 0 ∧ o = .cells (Tr.ofL 33 pow10L) 20 342 false true := by
  unfold h0 at h
  simp only [get_put] at h
  split at h
  · rename_i e; exact ⟨e.1, (Option.some.inj h).symm⟩
  · rw [nil_get] at h; simp at h

theorem start_rel {O : OT} {W : World} {cs : Array Value} (hb : W.heap[0]? = some (.cells cs 342 (0, 0))) (hs : cs.size = 20) (hc : ∀ i, i < 20 → cs.toList[i]? = some (.int .u64 (10 ^ i))) : WRel (Eo O) ρ0 h0 W := by
  refine ⟨fun b p hp => ?_, fun b o ho => ?_, fun b b' o o' r κ κ' ho ho' _ _ => by rw [(h0xget ho).1, (h0xget ho').1]⟩
  · show b < 2
    unfold ρ0 at hp
    split at hp
    · omega
    · split at hp
      · omega
      · simp at hp
  · obtain ⟨rfl, rfl⟩ := h0xget ho
    refine ⟨0, 1, rfl, 20, ?_, Nat.le_refl _, fun i v hi => ?_, fun _ => rfl, fun h => by simp at h, fun i v hi => ?_, fun h => by simp at h, fun h => by simp at h⟩
    · simp [World.shape?, hb, hs]
    · have := ofL_get hi
      rcases Nat.lt_or_ge i 20 with h | h
      · exact h
      · rw [List.getElem?_eq_none (by simp [pow10L]; exact h)] at this; simp at this
    · have := ofL_get hi
      have hlt : i < 20 := by
        rcases Nat.lt_or_ge i 20 with h | h
        · exact h
        · rw [List.getElem?_eq_none (by simp [pow10L]; exact h)] at this; simp at this
      rw [pow10L, List.getElem?_map, List.getElem?_range hlt] at this
      obtain rfl := Option.some.inj this
      refine ⟨_, ?_, .int _ _⟩
      have := hc i hlt
      simp only [World.cell?, hb]
      simpa using this

theorem start_glob {O : OT} : GRel (Eo O) ρ0 := by
  intro g hg
  have : g < 2 := hg
  rcases (show g = 0 ∨ g = 1 by omega) with rfl | rfl
  · exact ⟨1, rfl⟩
  · exact ⟨0, rfl⟩

theorem ran {r : Ex (Value × SHeap)} (h : isTrue r = true) : ∃ h', r = .ok (.bool true, h') := by
  unfold isTrue at h
  split at h
  · exact ⟨_, rfl⟩
  · simp at h

theorem kept_of {ρ' : Ren} {h' : SHeap} {W W' : World} (k : Stp ρ0 h0 W ρ' h' W') (may : MemPlace → Prop) : W.keptBut W' may := by
  refine ⟨k.os, k.output, fun i hi => ?_⟩
  have : W'.heap[i]? = W.heap[i]? := (k.keep i hi (by
    rintro ⟨b, o, κ, a, _, c⟩
    obtain ⟨_, rfl⟩ := h0xget a
    simp [notRo] at c)).1
  rw [this]
  cases W.heap[i]? with
  | none => rfl
  | some o => cases o with
    | cells c t fr => exact ⟨rfl, rfl, rfl, fun _ _ => rfl⟩
    | map es clock => exact .inr ⟨rfl, rfl⟩
    | _ => rfl

/-- THE WALK -/
theorem walk {W : World} {cs : Array Value} (hb : W.heap[0]? = some (.cells cs 342 (0, 0))) (hs : cs.size = 20) (hc : ∀ i, i < 20 → cs.toList[i]? = some (.int .u64 (10 ^ i))) :
    Calls Tryz.prog 3 #[] W fun e W' => e = .returned (.bool true) ∧ ∀ may, W.keptBut W' may := by
  obtain ⟨h', hr⟩ := ran rTop
  refine Calls.mono (calls_of_run (E := Eo OL) (envOK OL) (drawOK OL) okL (f := 3) (args := #[]) (rargs := #[]) (show (Eo OL).O 3 = none by kernel_rfl) hr (start_rel hb hs hc) start_glob (LRel.nil ρ0)) fun e W' he => ?_
  obtain ⟨ρ', u, rfl, hv, _, hk⟩ := he
  cases hv
  exact ⟨rfl, fun may => kept_of hk may⟩

set_option maxRecDepth 100000 in
theorem lifted (os : Os) (started : os.Started) (H : Type) (enc : TypeId × Value → H) :
    ReturnsInHanded {} Tryz.checked os 3 .any (fun w args => (Rows.tellNamesSpec.pre enc Tryz.prog Tryz.f3 [] false w args ∧ laidMetH Tryz.prog laid1 w) ∧ sizedMet enc Tryz.prog Tryz.f3 (OpenSpec.ofChange Rows.tellNamesSpec) false w args)
      (Rows.tellNamesSpec.post enc Tryz.prog Tryz.f3 false true false false) := by
  refine returnsInHanded_of_calls (C := Tryz.checked) own started (by kernel_rfl)
    (ChangeSpec.witness_shaped (enc := enc) (C := Tryz.checked) (os := os) (X := fun w _ => laidMetH Tryz.prog laid1 w) false (World.laidAll Tryz.prog os laid1) #[] 8 (World.laidAll_os _ _ _)
      (World.shaped_of_ZipB (by kernel_rfl) (by kernel_rfl)) (by kernel_rfl) (by kernel_rfl) (by kernel_rfl)
      (by rw [MakeChecks.laidMetH_plain _ _ _ (by kernel_rfl)]; exact laidMet_laidAll _ (by kernel_rfl) (by kernel_rfl))) ?_
  intro w tape i _ hsh _ hok hpre _
  obtain ⟨_, _, _, fn', hfn', _, _, _, _, hval⟩ := hok
  obtain ⟨⟨⟨ds, gs, before, hw, hc⟩, hx⟩, hz⟩ := hpre
  have hw' := DataW.Whole.of_heap (w' := w.forCall tape i) (by rfl) hw
  have hX : laidMetH Tryz.prog laid1 (w.forCall tape i) := hx.of_heap (by rfl)
  obtain ⟨cs0, hv, hcs⟩ := pow_cells hX
  obtain ⟨zero, hrow, hzs⟩ : ∃ zero : Array Value, (((begin Tryz.prog (fun _ _ => 0) default).world.heap[0]?).bind Obj.row?) = some (zero, 342) ∧ zero.size = 20 := by
    have e : ((((begin Tryz.prog (fun _ _ => 0) default).world.heap[0]?).bind Obj.row?).map fun x => (x.1.size, x.2)) = some (20, 342) := by kernel_rfl
    obtain ⟨⟨z, t⟩, h1, h2⟩ := Option.map_eq_some_iff.1 e
    simp only [Prod.mk.injEq] at h2
    obtain ⟨h2, rfl⟩ := h2
    exact ⟨z, h1, h2⟩
  obtain ⟨cs, hb, hsz, _⟩ := hsh.1 0 zero 342 (show 0 < Tryz.prog.globals.size from by rw [show Tryz.prog.globals.size = 2 by kernel_rfl]; omega) hrow
  have hcs' : cs0 = cs := by
    unfold World.var? at hv
    rw [g0] at hv
    simp only [Option.bind_some, hb] at hv
    exact (Option.some.inj hv).symm
  subst hcs'
  have hW := hw'
  obtain ⟨p, q, hA0, hV, rfl, hfz, hnd⟩ := hW
  have hA : DataW.TrodAll enc Tryz.prog (w.forCall tape i) 0 (fun _ => true) true Tryz.f3.params.toList i.args.toList ds p := hA0
  rw [Tryz.params3] at hA
  obtain ⟨hargs, rfl, rfl⟩ := trodAll_none hA
  obtain ⟨rfl, rfl⟩ := trodVars_none hV
  have hargs : i.args = #[] := by simpa using hargs
  rw [hargs] at hw' ⊢
  refine (walk hb (by omega) hcs).mono fun e W' ⟨he, hk⟩ => ?_
  subst he
  refine ChangeSpec.post_blind ⟨[], [], _, [], [], [], hw', ?_, ?_, ?_, hk _, fun h => by cases h⟩
  · exact trodAll_mk1 (shut_bool Tryz.underlying4 _)
  · rw [Tryz.params3]; exact trodAll_mk0
  · rfl


theorem tellNames_holds : Rows.TellNamesSaid :=
  OpenClaim.holds_of_wide 3 Tryz.f3 rfl rfl rfl rfl rfl rfl rfl ⟨rfl, rfl, rfl, rfl, rfl⟩ rfl rfl rfl rfl rfl (by kernel_rfl) Tryz.func3 (by kernel_rfl)
    (of_decide_eq_true (by kernel_rfl)) (by unfold Func.isWrapper; first | (rw [if_pos (by decide +kernel)]; kernel_rfl) | (rw [if_neg (by decide +kernel)]; exact ⟨rfl, rfl⟩))
    (fun os started H enc _ => lifted os started H enc)

/-- THE STATEMENT: the tied card of TellNames -/
theorem tellNames_card : Rows.TellNamesCardSaid :=
  Claim7.holds_tied_plain_at .later [] [.data] true (true, "3e036517b1b3998e31826ec3228c434d4005399fcbe3a6d33bfa930043602b64") true
    tellNames_holds (fun _ h => by cases h) (by kernel_rfl) (fun _ h => by cases h) tellNames_row_tie rfl ⟨rfl, rfl⟩ (by kernel_rfl) rfl
    (fun f fn hf hfn => by
      obtain rfl : f = 3 := Option.some.inj ((show Tryz.prog.funcNamed Rows.tellNamesRow.func = some 3 by kernel_rfl).symm.trans hf) |>.symm
      obtain rfl : fn = Tryz.f3 := (Option.some.inj (Tryz.func3.symm.trans hfn)).symm
      exact ⟨by kernel_rfl, fun j t ht => by
        rw [Tryz.params3] at ht
        simp at ht⟩)
    (by kernel_rfl)
#print axioms tellNames_card
end Go.Proofs.YtaclddcneogolaaGreatDoor

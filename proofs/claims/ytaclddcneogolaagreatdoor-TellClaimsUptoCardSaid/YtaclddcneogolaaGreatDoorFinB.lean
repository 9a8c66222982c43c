/- The start of a call: what the listed table gives, the relation of the start, what stays. -/
import Derived.Test.YtaclddcneogolaaGreatDoorSnd2
import Derived.Test.YtaclddcneogolaaGreatDoorTie
import Derived.Test.YtaclddcneogolaaGreatDoorCards
import Derived.ProofKit
import Derived.OpenShut
import Derived.LaidMore
import Derived.Lay
import Derived.MakeChecks
import Derived.SevenTiedAt
import Derived.Stop.Joined
set_option linter.unusedVariables false
set_option linter.unusedSimpArgs false
namespace Go.Proofs.YtaclddcneogolaaGreatDoor
open Go Go.Sim Go.ChangeShapes Go.WideShapes Go.ChangeAt Go.RowKit
set_option maxRecDepth 100000

theorem own : ownKnob Tryz.prog.godebug = none := by kernel_rfl
def laid1 : List (String × DataW Unit) := Rows.tellNamesRow.laid
def vname : String := (laid1.map (·.1)).headD ""

theorem pow_data : (Rows.laid_internal_strconv_uint64pow10 : DataW Unit) = .agg ((List.range 20).map fun n => .lit (.int .u64 (10 ^ n))) := by kernel_rfl
theorem g0 : Tryz.prog.globalNamed vname = some 0 := by kernel_rfl

theorem pow_cells {W : World} (h : laidMetH Tryz.prog laid1 W) : ∃ cs,W.var? Tryz.prog vname = some cs ∧ ∀ i,i < 20 → cs.toList[i]? = some (.int .u64 (10 ^ i)) := by
  rw [MakeChecks.laidMetH_plain _ _ _ (by kernel_rfl)] at h
  obtain ⟨ps,⟨g,t,cs,fuel,p,q,hg,ht,hv,hd,_,_⟩,_,_⟩ := h
  obtain rfl := Option.some.inj (g0.symm.trans hg)
  obtain rfl := Option.some.inj ((show (Tryz.prog.globals[0]?).map (·.type) = some 342 by kernel_rfl).symm.trans ht)
  refine ⟨cs,hv,fun i hi => ?_⟩
  obtain ⟨xs,m,_,ex,_,hl,hel⟩ := DataW.trod_array Tryz.underlying342 hd
  have c112 : Tryz.prog.cellsOf 112 = 1 := by kernel_rfl
  have hE := hel i hi
  rw [c112,Nat.mul_one,List.getElem?_eq_getElem (by omega)] at hE
  obtain ⟨z,e1,e2,_⟩ := DataW.trod_int Tryz.underlying112 hE
  have e3 : (xs.map (·.1)) = (List.range 20).map fun n => .lit (.int .u64 (10 ^ n)) := by
    have := (Prod.mk.inj ex).1
    rw [pow_data] at this
    exact (DataW.agg.inj this).symm
  have e4 : (xs.map (·.1))[i]? = ((List.range 20).map fun n => (DataW.lit (.int .u64 (10 ^ n)) : DataW Unit))[i]? := by rw [e3]
  rw [List.getElem?_map,List.getElem?_map,List.getElem?_eq_getElem (by omega : i < xs.length),List.getElem?_range hi,e2] at e4
  simp only [Option.map_some,Option.some.injEq,DataW.lit.injEq,Lit.int.injEq,true_and] at e4
  have h0 : ((cs.toList.drop i).take 1)[0]? = some (.int .u64 z) := by rw [e1]; rfl
  rw [← e4]
  simpa using h0

def ρ0 : Ren := fun b => if b = 0 then some (0,1) else if b = 1 then some (1,0) else none

theorem h0xget {b : Nat} {o : SObj} (h : h0.t.get b = some o) : b = 0 ∧ o = .cells (Tr.ofL 33 pow10L) 20 342 false true := by
  unfold h0 at h
  simp only [get_put] at h
  split at h
  · rename_i e; exact ⟨e.1,(Option.some.inj h).symm⟩
  · rw [nil_get] at h; simp at h

theorem start_rel {O : OT} {W : World} {cs : Array Value} (hb : W.heap[0]? = some (.cells cs 342 (0,0))) (hs : cs.size = 20) (hc : ∀ i,i < 20 → cs.toList[i]? = some (.int .u64 (10 ^ i))) : WRel (Eo O) ρ0 h0 W := by
  refine ⟨fun b p hp => ?_,fun b o ho => ?_,fun b b' o o' r κ κ' ho ho' _ _ => by rw [(h0xget ho).1,(h0xget ho').1]⟩
  · show b < 2
    unfold ρ0 at hp
    split at hp
    · omega
    · split at hp
      · omega
      · simp at hp
  · obtain ⟨rfl,rfl⟩ := h0xget ho
    refine ⟨0,1,rfl,20,?_,Nat.le_refl _,fun i v hi => ?_,fun _ => rfl,fun h => by simp at h,fun i v hi => ?_,fun h => by simp at h,fun h => by simp at h⟩
    · simp [World.shape?,hb,hs]
    · have := ofL_get hi
      rcases Nat.lt_or_ge i 20 with h | h
      · exact h
      · rw [List.getElem?_eq_none (by simp [pow10L]; exact h)] at this; simp at this
    · have := ofL_get hi
      have hlt : i < 20 := by
        rcases Nat.lt_or_ge i 20 with h | h
        · exact h
        · rw [List.getElem?_eq_none (by simp [pow10L]; exact h)] at this; simp at this
      rw [pow10L,List.getElem?_map,List.getElem?_range hlt] at this
      obtain rfl := Option.some.inj this
      refine ⟨_,?_,.int _ _⟩
      have := hc i hlt
      simp only [World.cell?,hb]
      simpa using this

theorem start_glob {O : OT} : GRel (Eo O) ρ0 := by
  intro g hg
  have : g < 2 := hg
  rcases (show g = 0 ∨ g = 1 by omega) with rfl | rfl
  · exact ⟨1,rfl⟩
  · exact ⟨0,rfl⟩

theorem ran {r : Ex (Value × SHeap)} (h : isTrue r = true) : ∃ h',r = .ok (.bool true,h') := by
  unfold isTrue at h
  split at h
  · exact ⟨_,rfl⟩
  · simp at h

theorem kept_of {ρ' : Ren} {h' : SHeap} {W W' : World} (k : Stp ρ0 h0 W ρ' h' W') (may : MemPlace → Prop) : W.keptBut W' may := by
  refine ⟨k.os,k.output,fun i hi => ?_⟩
  have : W'.heap[i]? = W.heap[i]? := (k.keep i hi (by
    rintro ⟨b,o,κ,a,_,c⟩
    obtain ⟨_,rfl⟩ := h0xget a
    simp [notRo] at c)).1
  rw [this]
  cases W.heap[i]? with
  | none => rfl
  | some o => cases o with
    | cells c t fr => exact ⟨rfl,rfl,rfl,fun _ _ => rfl⟩
    | map es clock => exact .inr ⟨rfl,rfl⟩
    | _ => rfl

end Go.Proofs.YtaclddcneogolaaGreatDoor

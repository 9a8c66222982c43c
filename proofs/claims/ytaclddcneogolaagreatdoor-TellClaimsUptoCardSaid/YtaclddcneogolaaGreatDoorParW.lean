/- The walk of TellParts, from the start of the call: the relation of the start, what stays. -/
import Derived.Test.YtaclddcneogolaaGreatDoorClA
import Derived.Test.YtaclddcneogolaaGreatDoorFinB
set_option linter.unusedVariables false
set_option linter.unusedSimpArgs false
namespace Go.Proofs.YtaclddcneogolaaGreatDoor
open Go Go.Sim Go.ChangeShapes Go.WideShapes Go.ChangeAt Go.RowKit
set_option maxRecDepth 100000

/-- the start's heap,the constraints' row under the name 2 -/
def hP (l : List Tg) (off : Nat) : SHeap := ⟨h0.t.put 2 (some (.far (Tr.ofL 33 (tgVs l)) (l.length * 3) off)),3⟩
def ρP (b : Nat) : Ren := fun x => if x = 2 then some (b,0) else ρ0 x
theorem ρP_le (b : Nat) : Le ρ0 (ρP b) := fun x p h => by
  unfold ρP
  split
  · rename_i e; subst e; simp [ρ0] at h
  · exact h
theorem tgVs_int : ∀ (l : List Tg) (v : Value),v ∈ tgVs l → ∃ z,v = .int .i64 z
  | [],v,h => by simp [tgVs] at h
  | t :: r,v,h => by
    simp only [tgVs,List.mem_cons] at h
    rcases h with rfl | rfl | rfl | h
    · exact ⟨_,rfl⟩
    · exact ⟨_,rfl⟩
    · exact ⟨_,rfl⟩
    · exact tgVs_int r v h

theorem cells_at {W : World} {b o : Nat} {v : Value} (h : W.cell? ⟨b,o,none⟩ = some v) : ∃ c e fr,W.heap[b]? = some (.cells c e fr) ∧ c[o]? = some v := by
  unfold World.cell? at h
  split at h
  · rename_i c e fr hc
    exact ⟨c,e,fr,hc,by simpa using h⟩
  · simp at h

theorem parts_rel {O : OT} {W : World} {cs : Array Value} (hb : W.heap[0]? = some (.cells cs 342 (0,0))) (hs : cs.size = 20) (hc : ∀ i,i < 20 → cs.toList[i]? = some (.int .u64 (10 ^ i)))
    {l : List Tg} {a : Addr} (hl : 0 < l.length) (hcell : ∀ i v,(tgVs l)[i]? = some v → W.cell? ⟨a.block,a.off + i,none⟩ = some v) : WRel (Eo O) (ρP a.block) (hP l a.off) W := by
  have st := start_rel (O := O) hb hs hc
  obtain ⟨z,hz⟩ : ∃ z,(tgVs l)[0]? = some (.int .i64 z) := by
    match l,hl with
    | t :: r,_ => exact ⟨_,rfl⟩
  obtain ⟨c,e,fr,h1,h2⟩ := cells_at (hcell 0 _ hz)
  have ne0 : a.block ≠ 0 := fun e0 => by
    rw [e0,hb] at h1
    simp only [Option.some.injEq,Obj.cells.injEq] at h1
    obtain ⟨rfl,_,_⟩ := h1
    have hlt : a.off + 0 < 20 := by
      rcases Nat.lt_or_ge (a.off + 0) 20 with hl | hl
      · exact hl
      · rw [Array.getElem?_eq_none (by omega)] at h2; simp at h2
    have := hc _ hlt
    rw [Array.getElem?_toList,h2] at this
    simp at this
  refine ⟨fun x p hp => ?_,fun x o ho => ?_,fun x x' o o' r κ κ' ho ho' e1 e2 => ?_⟩
  · show x < 3
    unfold ρP at hp
    split at hp
    · omega
    · have := st.dom x p hp
      have : x < 2 := this
      omega
  · simp only [hP,get_put] at ho
    split at ho
    · rename_i hx
      obtain rfl := Option.some.inj ho
      refine ⟨a.block,0,by simp [ρP,hx.1],c.size,e,by simp [World.shape?,h1],fun i v hv => ⟨v,hcell i v (ofL_get hv),?_⟩⟩
      obtain ⟨z,rfl⟩ := tgVs_int l v (List.mem_of_getElem? (ofL_get hv))
      exact .int _ _
    · obtain ⟨r,κ,k1,k2⟩ := st.live x o ho
      exact ⟨r,κ,ρP_le _ _ _ k1,k2.move (ρP_le _) rfl⟩
  · have low : ∀ y q,(hP l a.off).t.get y = some q → y = 2 ∨ y = 0 := fun y q hy => by
      simp only [hP,get_put] at hy
      split at hy
      · rename_i h; exact .inl h.1
      · exact .inr (h0xget hy).1
    have v2 : ρP a.block 2 = some (a.block,0) := rfl
    have v0 : ρP a.block 0 = some (0,1) := rfl
    rcases low x o ho with rfl | rfl <;> rcases low x' o' ho' with rfl | rfl
    · rfl
    · rw [v2] at e1; rw [v0] at e2
      simp only [Option.some.injEq,Prod.mk.injEq] at e1 e2
      exact absurd (e1.1.trans e2.1.symm) ne0
    · rw [v0] at e1; rw [v2] at e2
      simp only [Option.some.injEq,Prod.mk.injEq] at e1 e2
      exact absurd (e2.1.trans e1.1.symm) ne0
    · rfl
theorem none_rel {O : OT} {W : World} {cs : Array Value} (hb : W.heap[0]? = some (.cells cs 342 (0,0))) (hs : cs.size = 20) (hc : ∀ i,i < 20 → cs.toList[i]? = some (.int .u64 (10 ^ i))) (b : Nat) : WRel (Eo O) (ρP b) ⟨h0.t,3⟩ W := by
  have st := start_rel (O := O) hb hs hc
  refine ⟨fun x p hp => ?_,fun x o ho => ?_,fun x x' o o' r κ κ' ho ho' e1 e2 => by rw [(h0xget ho).1,(h0xget ho').1]⟩
  · show x < 3
    unfold ρP at hp
    split at hp
    · omega
    · have : x < 2 := st.dom x p hp
      omega
  · obtain ⟨r,κ,k1,k2⟩ := st.live x o ho
    exact ⟨r,κ,ρP_le _ _ _ k1,k2.move (ρP_le _) rfl⟩
theorem parts_glob {O : OT} (b : Nat) : GRel (Eo O) (ρP b) := fun g hg => by
  obtain ⟨κ,h⟩ := start_glob (O := O) g hg
  exact ⟨κ,ρP_le _ _ _ h⟩

/-- what is not its own stays -/
theorem kept_gen {ρ ρ' : Ren} {h h' : SHeap} {W W' : World} (hno : ∀ r,¬ Own ρ h r) (k : Stp ρ h W ρ' h' W') : (∀ may : MemPlace → Prop,W.keptBut W' may) ∧ ∀ i,i < W.heap.size → W'.heap[i]? = W.heap[i]? := by
  have same : ∀ i,i < W.heap.size → W'.heap[i]? = W.heap[i]? := fun i hi => (k.keep i hi (hno i)).1
  refine ⟨fun may => ⟨k.os,k.output,fun i hi => ?_⟩,same⟩
  rw [same i hi]
  cases W.heap[i]? with
  | none => rfl
  | some o => cases o with
    | cells c t fr => exact ⟨rfl,rfl,rfl,fun _ _ => rfl⟩
    | map es clock => exact .inr ⟨rfl,rfl⟩
    | _ => rfl
theorem no_own0 {ρ : Ren} {n : Nat} (r : Nat) : ¬ Own ρ ⟨h0.t,n⟩ r := by
  rintro ⟨b,o,κ,a,_,c⟩
  obtain ⟨_,rfl⟩ := h0xget a
  simp [notRo] at c
theorem no_ownP {ρ : Ren} {l : List Tg} {off : Nat} (r : Nat) : ¬ Own ρ (hP l off) r := by
  rintro ⟨b,o,κ,a,_,c⟩
  simp only [hP,get_put] at a
  split at a
  · obtain rfl := Option.some.inj a
    exact c
  · obtain ⟨_,rfl⟩ := h0xget a
    simp [notRo] at c

theorem clV_front (d : Bool) (rs ss : List Tg) (x : Value) : clV d rs ss x = (.bool d :: (tgVs rs ++ tgVs ss)) ++ [x] := by simp [clV]
theorem clV_rel {ρ : Ren} {d : Bool} {rs ss : List Tg} {a b : Value} (h : VRel ρ a b) : LRel ρ (clV d rs ss a) (clV d rs ss b) := by
  rw [clV_front,clV_front]
  refine ⟨by simp,fun i v u h1 h2 => ?_⟩
  by_cases hi : i < (Value.bool d :: (tgVs rs ++ tgVs ss)).length
  · rw [List.getElem?_append_left hi] at h1 h2
    obtain rfl := Option.some.inj (h1.symm.trans h2)
    have hm := List.mem_of_getElem? h1
    rcases List.mem_cons.1 hm with rfl | hm
    · exact .bool _
    · rcases List.mem_append.1 hm with hm | hm
      · obtain ⟨z,rfl⟩ := tgVs_int _ _ hm; exact .int _ _
      · obtain ⟨z,rfl⟩ := tgVs_int _ _ hm; exact .int _ _
  · rw [List.getElem?_append_right (by omega)] at h1 h2
    cases hj : i - (Value.bool d :: (tgVs rs ++ tgVs ss)).length with
    | zero =>
      rw [hj] at h1 h2
      obtain rfl := Option.some.inj h1
      obtain rfl := Option.some.inj h2
      exact h
    | succ j => rw [hj] at h1; simp at h1

end Go.Proofs.YtaclddcneogolaaGreatDoor

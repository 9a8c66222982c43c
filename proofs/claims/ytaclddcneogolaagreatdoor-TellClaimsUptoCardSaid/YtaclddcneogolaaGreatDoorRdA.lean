/- What a claim that comes in reads as: its cells, its tags, its constraints' row. What a claim that comes in reads as, put together: its cells, its bulk, its places. -/
import Derived.Test.YtaclddcneogolaaGreatDoorClA
import Derived.Test.YtaclddcneogolaaGreatDoorRows
import Derived.ProofKit
import Derived.OpenShut
import Derived.Deep.Slices
import Derived.Deep.Strs
import Derived.Lib.SmallJoins
import Derived.WideKeyArgs
set_option linter.unusedVariables false
set_option linter.unusedSimpArgs false
namespace Go.Proofs.YtaclddcneogolaaGreatDoor
open Go Go.Sim Go.ChangeShapes Go.WideShapes Go.ChangeAt Go.RowKit Go.Joins Go.Deep
set_option maxRecDepth 100000
variable {H : Type} {enc : TypeId × Value → H} {w : World} {base : Nat} {sp : Nat → Bool} {hd : Bool}

def tagD (t : Tg) : DataW H := .agg [.lit (.int .i64 t.1),.lit (.int .i64 t.2.1),.lit (.int .i64 t.2.2)]
theorem c3 : Tryz.prog.cellsOf 3 = 1 := by kernel_rfl
theorem c24 : Tryz.prog.cellsOf 24 = 3 := by kernel_rfl
theorem c32 : Tryz.prog.cellsOf 32 = 3 := by kernel_rfl

theorem open3 {f0 f1 f2 : Field} {t fuel : Nat} {cs : List Value} {y : DataW H × List MemPlace} (hs : Tryz.prog.underlying t = some (.struct #[f0,f1,f2])) (t0 : f0.type = 3 ∧ f0.offset = 0) (t1 : f1.type = 3 ∧ f1.offset = 1) (t2 : f2.type = 3 ∧ f2.offset = 2)
    (hC : Tryz.prog.cellsOf t = 3) (h : DataW.trod enc Tryz.prog w base sp hd fuel t cs = some y) : ∃ x : Tg,cs = tgV x ∧ y = (tagD x,[]) ∧ x.fits := by
  obtain ⟨y0,y1,y2,n,rfl,hl,h0,h1,h2⟩ := trod_struct3 hs h
  rw [t0.1,t0.2,c3] at h0
  rw [t1.1,t1.2,c3] at h1
  rw [t2.1,t2.2,c3] at h2
  rw [hC] at hl
  obtain ⟨a,e0,rfl,wa⟩ := DataW.trod_int Tryz.underlying3 h0
  obtain ⟨b,e1,rfl,wb⟩ := DataW.trod_int Tryz.underlying3 h1
  obtain ⟨c,e2,rfl,wc⟩ := DataW.trod_int Tryz.underlying3 h2
  match cs,hl with
  | [v0,v1,v2],_ =>
    simp only [List.drop_zero,List.drop_succ_cons,List.take_succ_cons,List.take_zero,List.cons.injEq,and_true] at e0 e1 e2
    subst e0 e1 e2
    exact ⟨(a,b,c),rfl,rfl,bounds_i64 wa,bounds_i64 wb,bounds_i64 wc⟩
theorem open_tag {fuel : Nat} {cs : List Value} {y : DataW H × List MemPlace} (h : DataW.trod enc Tryz.prog w base sp hd fuel 24 cs = some y) : ∃ x : Tg,cs = tgV x ∧ y = (tagD x,[]) ∧ x.fits :=
  open3 Tryz.underlying24 ⟨rfl,rfl⟩ ⟨rfl,rfl⟩ ⟨rfl,rfl⟩ c24 h
theorem open_con {fuel : Nat} {cs : List Value} {y : DataW H × List MemPlace} (h : DataW.trod enc Tryz.prog w base sp hd fuel 32 cs = some y) : ∃ x : Tg,cs = tgV x ∧ y = (tagD x,[]) ∧ x.fits :=
  open3 Tryz.underlying32 ⟨rfl,rfl⟩ ⟨rfl,rfl⟩ ⟨rfl,rfl⟩ c32 h

theorem tags_of : ∀ (m : Nat) (l : List Value) (xs : List (DataW H × List MemPlace)),l.length = m * 3 → xs.length = m → (∀ i,i < m → ∃ x : Tg,(l.drop (i * 3)).take 3 = tgV x ∧ xs[i]? = some (tagD x,[]) ∧ x.fits) →
    ∃ rs : List Tg,rs.length = m ∧ l = tgVs rs ∧ (∀ t ∈ rs,t.fits) ∧ xs = rs.map fun t => (tagD t,[])
  | 0,l,xs,hl,hx,_ => ⟨[],rfl,List.eq_nil_of_length_eq_zero (by omega),by simp,by simpa using hx⟩
  | m + 1,l,xs,hl,hx,h => by
    obtain ⟨x,e1,e2,e3⟩ := h 0 (by omega)
    rw [Nat.zero_mul,List.drop_zero] at e1
    match xs,hx with
    | x0 :: xr,hx =>
      obtain rfl := Option.some.inj e2
      obtain ⟨rs,g1,g2,g3,g4⟩ := tags_of m (l.drop 3) xr (by rw [List.length_drop]; omega) (by simpa using hx) (fun i hi => by
        obtain ⟨u,k1,k2,k3⟩ := h (i + 1) (by omega)
        refine ⟨u,?_,by simpa using k2,k3⟩
        rw [List.drop_drop,show 3 + i * 3 = (i + 1) * 3 by omega]
        exact k1)
      refine ⟨x :: rs,by simp [g1],?_,fun t ht => ?_,by rw [g4]; rfl⟩
      · have : l = l.take 3 ++ l.drop 3 := (List.take_append_drop 3 l).symm
        rw [this,e1,g2]
        rfl
      · rcases List.mem_cons.1 ht with rfl | ht
        · exact e3
        · exact g3 t ht
theorem open_tags {m t fuel : Nat} {cs : List Value} {y : DataW H × List MemPlace} (hu : Tryz.prog.underlying t = some (.array m 24)) (hC : Tryz.prog.cellsOf t = m * 3) (h : DataW.trod enc Tryz.prog w base sp hd fuel t cs = some y) :
    ∃ rs : List Tg,rs.length = m ∧ cs = tgVs rs ∧ (∀ t ∈ rs,t.fits) ∧ y = (.agg (rs.map tagD),[]) := by
  obtain ⟨xs,k,_,rfl,hlen,hxl,hel⟩ := DataW.trod_array hu h
  rw [hC] at hlen
  obtain ⟨rs,g1,g2,g3,g4⟩ := tags_of m cs xs hlen hxl (fun i hi => by
    have h1 := hel i hi
    rw [c24,List.getElem?_eq_getElem (by omega)] at h1
    obtain ⟨x,e1,e2,e3⟩ := open_tag h1
    exact ⟨x,e1,by rw [List.getElem?_eq_getElem (by omega),e2],e3⟩)
  refine ⟨rs,g1,g2,g3,?_⟩
  rw [g4]
  refine Prod.ext ?_ ?_
  · simp only [List.map_map]; rfl
  · simp

/-- the constraints' row: empty,or so many threes of cells in a block -/
theorem open_cons {fuel : Nat} {cs : List Value} {y : DataW H × List MemPlace} (h : DataW.trod enc Tryz.prog w 0 (fun _ => true) hd fuel 27 cs = some y) :
    (cs = [.slice none 0 0] ∧ y = (.nil,[])) ∨ ∃ (a : Addr) (cap : Nat) (l : List Tg) (sd : List (DataW H)),cs = [.slice (some a) l.length cap] ∧ l.length ≤ cap ∧ cap ≤ maxLen ∧ y = (.slice (l.map tagD) sd,MemPlace.row a (cap * 3)) ∧ (∀ t ∈ l,t.fits) ∧
      (∀ j c,l[j]? = some c → w.cells? 0 (a.add (j * 3)) 3 = some (tgV c)) ∧ (∀ p ∈ MemPlace.row a (cap * 3),∃ off v,p = .cell a.block off ∧ w.cell? ⟨a.block,off,none⟩ = some v ∨ (a.spot ≠ none)) := by
  rcases open_slice Tryz.underlying27 h with ⟨h1,h2⟩ | ⟨a,len,cap,m,n,D,Pl,rfl,_,hlc,hcm,hm,rfl,hel⟩
  · exact .inl ⟨h1,h2⟩
  · right
    simp only [if_true] at hm
    subst hm
    have key : ∀ i,∃ x : Tg,i < m → w.cells? 0 (a.add (i * 3)) 3 = some (tgV x) ∧ D i = tagD x ∧ Pl i = [] ∧ x.fits := by
      intro i
      by_cases hi : i < m
      · obtain ⟨cs',k1,k2⟩ := hel i hi
        rw [c32] at k1
        obtain ⟨x,e1,e2,e3⟩ := open_con k2
        simp only [Prod.mk.injEq] at e2
        exact ⟨x,fun _ => ⟨by rw [k1,e1],e2.1,e2.2,e3⟩⟩
      · exact ⟨(0,0,0),fun h => absurd h hi⟩
    obtain ⟨f,hf⟩ := Classical.axiomOfChoice key
    have hP : (List.range m).flatMap Pl = [] := by
      rw [List.flatMap_eq_nil_iff]
      intro i hi
      exact (hf i (List.mem_range.1 hi)).2.2.1
    have hD : (List.range len).map D = ((List.range len).map f).map tagD := by
      rw [List.map_map]
      refine List.map_congr_left fun i hi => ?_
      exact (hf i (by have := List.mem_range.1 hi; omega)).2.1
    refine ⟨a,m,(List.range len).map f,(List.range (m - len)).map fun j => D (len + j),by simp,by simpa using hlc,hcm,?_,fun t ht => ?_,fun j c hj => ?_,fun p hp => ?_⟩
    · rw [hP,hD,c32,List.append_nil]
    · obtain ⟨i,hi,rfl⟩ := List.mem_map.1 ht
      exact (hf i (by have := List.mem_range.1 hi; omega)).2.2.2
    · rw [List.getElem?_map] at hj
      have hlt : j < len := by
        rcases Nat.lt_or_ge j len with hl | hl
        · exact hl
        · rw [List.getElem?_eq_none (by simpa using hl)] at hj; simp at hj
      rw [List.getElem?_range hlt] at hj
      obtain rfl := Option.some.inj hj
      exact (hf j (by omega)).1
    · obtain ⟨i,hi,rfl⟩ := List.mem_map.1 hp
      have hi := List.mem_range.1 hi
      have hc := (hf (i / 3) (by omega)).1
      simp only [World.cells?,Nat.zero_le,if_true] at hc
      have := mapM_some_get hc (i % 3) (i % 3) (by rw [List.getElem?_range (Nat.mod_lt _ (by decide))])
      cases hs : a.spot with
      | some s => exact ⟨0,.bool true,.inr (by simp)⟩
      | none =>
        refine ⟨a.off + i,((tgV (f (i / 3)))[i % 3]?).getD (.bool true),.inl ⟨rfl,?_⟩⟩
        have hadd : (a.add (i / 3 * 3)).add (i % 3) = ⟨a.block,a.off + i,none⟩ := by
          obtain ⟨b,o,s⟩ := a
          simp only at hs
          subst hs
          have := Nat.div_add_mod i 3
          unfold Addr.add
          split <;> split <;> simp <;> omega
        rw [hadd] at this
        rw [this]
        have hl3 : i % 3 < (tgV (f (i / 3))).length := by simp only [tgV,List.length_cons,List.length_nil]; omega
        rw [List.getElem?_eq_getElem hl3]
        rfl

/-- one cell of the row -/
theorem cons_cell {a : Addr} {l : List Tg} (hs : a.spot = none) (h : ∀ j c,l[j]? = some c → w.cells? 0 (a.add (j * 3)) 3 = some (tgV c)) : ∀ i v,(tgVs l)[i]? = some v → w.cell? ⟨a.block,a.off + i,none⟩ = some v := by
  intro i v hv
  have hi : i < l.length * 3 := by
    rcases Nat.lt_or_ge i (l.length * 3) with hl | hl
    · exact hl
    · rw [List.getElem?_eq_none (by rw [tgVs_len]; exact hl)] at hv; simp at hv
  have hj : l[i / 3]? = some (l[i / 3]'(by omega)) := List.getElem?_eq_getElem (by omega)
  have hc := h _ _ hj
  simp only [World.cells?,Nat.zero_le,if_true] at hc
  have := mapM_some_get hc (i % 3) (i % 3) (by rw [List.getElem?_range (Nat.mod_lt _ (by decide))])
  have hadd : (a.add (i / 3 * 3)).add (i % 3) = ⟨a.block,a.off + i,none⟩ := by
    obtain ⟨b,o,s⟩ := a
    simp only at hs
    subst hs
    have := Nat.div_add_mod i 3
    unfold Addr.add
    split <;> split <;> simp <;> omega
  rw [hadd] at this
  rw [this,← tgVs_at l (i / 3) _ hj,List.getElem?_take_of_lt (Nat.mod_lt _ (by decide)),List.getElem?_drop,show i / 3 * 3 + i % 3 = i by have := Nat.div_add_mod i 3; omega]
  exact hv

/-! ## bulk -/
theorem bulk_tag (t : Tg) : Rows.uptoBulk (tagD (H := H) t) = 4 := by simp [tagD,Rows.uptoBulk,Rows.uptoBulkAll]
theorem bulk_tags : ∀ l : List Tg,Rows.uptoBulkAll (l.map (tagD (H := H))) = 4 * l.length
  | [] => by simp [Rows.uptoBulkAll]
  | t :: r => by simp only [List.map_cons,Rows.uptoBulkAll,bulk_tag,bulk_tags r,List.length_cons]; omega
end Go.Proofs.YtaclddcneogolaaGreatDoor

namespace Go.Proofs.YtaclddcneogolaaGreatDoor
open Go Go.Sim Go.ChangeShapes Go.WideShapes Go.ChangeAt Go.RowKit Go.Joins Go.Deep
set_option maxRecDepth 100000

theorem split128 {l : List Value} (h : l.length = 128) : l = (l.drop 0).take 1 ++ ((l.drop 1).take 30 ++ ((l.drop 31).take 96 ++ (l.drop 127).take 1)) := by
  have e1 : (l.drop 127).take 1 = l.drop 127 := List.take_of_length_le (by rw [List.length_drop]; omega)
  have e2 : (l.drop 31).take 96 ++ l.drop 127 = l.drop 31 := by
    have := List.take_append_drop 96 (l.drop 31)
    rw [List.drop_drop] at this
    exact this
  have e3 : (l.drop 1).take 30 ++ l.drop 31 = l.drop 1 := by
    have := List.take_append_drop 30 (l.drop 1)
    rw [List.drop_drop] at this
    exact this
  rw [e1,e2,e3,List.drop_zero]
  exact (List.take_append_drop 1 l).symm
theorem c4 : Tryz.prog.cellsOf 4 = 1 := by kernel_rfl
theorem c25 : Tryz.prog.cellsOf 25 = 30 := by kernel_rfl
theorem c26 : Tryz.prog.cellsOf 26 = 96 := by kernel_rfl
theorem c27 : Tryz.prog.cellsOf 27 = 1 := by kernel_rfl
theorem c29 : Tryz.prog.cellsOf 29 = 128 := by kernel_rfl

/-- the last cell's address is plain,its block is there -/
theorem cons_okWide {W : World} {b0 : Nat} {cs : Array Value} {a : Addr} {n cap : Nat} (h : Value.okWide Tryz.prog W .any b0 29 (.agg cs)) (hc : cs[127]? = some (.slice (some a) n cap)) : a.spot = none ∧ ∃ row cells,W.shape? a.block = some (row,cells) := by
  have e : (Tryz.prog.cellTypes Tryz.prog.depth 29).map (fun ts => (ts.length,ts[127]?)) = some (128,some 27) := by kernel_rfl
  simp only [Value.okWide,Tryz.underlying29] at h
  obtain ⟨cs',e',_,ts,hts,_,hcell⟩ := h
  obtain rfl := Value.agg.inj e'
  rw [hts] at e
  simp only [Option.map_some,Option.some.injEq,Prod.mk.injEq] at e
  obtain ⟨u,hu,hok⟩ := hcell 127 _ hc
  rw [e.1,show 127 % 128 = 127 from rfl,e.2] at hu
  obtain rfl := Option.some.inj hu
  simp only [Cell.okWide,Tryz.underlying27,Cell.ok,World.has] at hok
  obtain ⟨_,_,_,h2,row,cells,h3,_⟩ := hok
  exact ⟨h2,row,cells,h3⟩

/-- WHAT COMES IN -/
theorem claim_opens {H : Type} {enc : TypeId × Value → H} {W : World} {b0 : Nat} {hd : Bool} {v : Value} {d : DataW H} {p : List MemPlace} (hv : Value.okWide Tryz.prog W .any b0 29 v) (h : DataW.Trod enc Tryz.prog W 0 (fun _ => true) hd 29 v d p) :
    ∃ (dead : Bool) (rs ss l : List Tg) (cv : Value),v = .agg (clV dead rs ss cv).toArray ∧ rs.length = 10 ∧ ss.length = 32 ∧ (∀ t ∈ rs,t.fits) ∧ (∀ t ∈ ss,t.fits) ∧ (∀ t ∈ l,t.fits) ∧ (Rows.uptoBulk d ≤ 1048576 → l.length ≤ 300000) ∧
      ((cv = .slice none 0 0 ∧ l = [] ∧ p = []) ∨ ∃ (a : Addr) (cap : Nat),cv = .slice (some ⟨a.block,a.off,none⟩) l.length cap ∧ cap ≤ maxLen ∧ a.spot = none ∧ a.block < W.heap.size ∧ (∀ q ∈ p,∃ off,q = .cell a.block off) ∧ ∀ i v,(tgVs l)[i]? = some v → W.cell? ⟨a.block,a.off + i,none⟩ = some v) := by
  obtain ⟨cs,rfl,hsz⟩ := okWide_struct Tryz.underlying29 hv
  obtain ⟨fuel,hf⟩ := h
  obtain ⟨y0,y1,y2,y3,n,hx,hlen,t0,t1,t2,t3⟩ := trod_struct4 Tryz.underlying29 hf
  simp only [Prod.mk.injEq] at hx
  obtain ⟨rfl,rfl⟩ := hx
  have hcs : (Value.agg cs).cells = cs := rfl
  rw [hcs] at t0 t1 t2 t3 hlen
  rw [c29] at hlen
  simp only [c4] at t0
  simp only [c25] at t1
  simp only [c26] at t2
  simp only [c27] at t3
  obtain ⟨dead,e0,rfl⟩ := DataW.trod_bool Tryz.underlying4 t0
  obtain ⟨rs,lr,e1,fr,rfl⟩ := open_tags (m := 10) Tryz.underlying25 (by kernel_rfl) t1
  obtain ⟨ss,ls,e2,fs,rfl⟩ := open_tags (m := 32) Tryz.underlying26 (by kernel_rfl) t2
  have hsp := split128 hlen
  rcases open_cons t3 with ⟨e3,rfl⟩ | ⟨a,cap,l,sd,e3,hlc,hcm,rfl,fl,hel,_⟩
  · refine ⟨dead,rs,ss,[],.slice none 0 0,?_,lr,ls,fr,fs,by simp,fun _ => by simp,.inl ⟨rfl,rfl,rfl⟩⟩
    rw [e0,e1,e2,e3] at hsp
    congr 1
    apply Array.toList_inj.1
    rw [hsp]
    rfl
  · have hcs127 : cs.toList = clV dead rs ss (.slice (some a) l.length cap) := by
      rw [e0,e1,e2,e3] at hsp
      rw [hsp]
      rfl
    have h127 : cs[127]? = some (.slice (some a) l.length cap) := by
      rw [← Array.getElem?_toList,hcs127]
      exact clV_cons lr ls
    obtain ⟨hspot,row,cells,hshape⟩ := cons_okWide hv h127
    have hblk : a.block < W.heap.size := by
      rcases Nat.lt_or_ge a.block W.heap.size with hl | hl
      · exact hl
      · unfold World.shape? at hshape
        rw [Array.getElem?_eq_none hl] at hshape
        simp at hshape
    have ha : (⟨a.block,a.off,none⟩ : Addr) = a := by
      obtain ⟨b,o,s⟩ := a
      simp only at hspot
      rw [hspot]
    refine ⟨dead,rs,ss,l,.slice (some ⟨a.block,a.off,none⟩) l.length cap,?_,lr,ls,fr,fs,fl,fun hk => ?_,.inr ⟨a,cap,rfl,hcm,hspot,hblk,fun q hq => ?_,cons_cell hspot hel⟩⟩
    · rw [ha,← hcs127]
    · simp only [Rows.uptoBulk,Rows.uptoBulkAll,bulk_tags] at hk
      omega
    · simp only [List.nil_append] at hq
      obtain ⟨i,_,rfl⟩ := List.mem_map.1 hq
      exact ⟨_,rfl⟩

end Go.Proofs.YtaclddcneogolaaGreatDoor

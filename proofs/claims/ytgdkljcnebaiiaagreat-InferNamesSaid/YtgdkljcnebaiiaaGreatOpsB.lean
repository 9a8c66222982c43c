/- The simulator's operations, each held against the model's: new slices, values built of parts. The simulator's operations, each held against the model's: values built of parts. The simulator's operations, each held against the model's: structs, arrays and slices built of parts. The simulator's operations, each held against the model's: operators with two operands. The simulator's operations, each held against the model's: operators with two operands, put together. The simulator's operations, each held against the model's: slicing. The simulator's operations, each held against the model's: slicing, put together. The simulator's operations, each held against the model's: the operation 'slice'. -/
import Derived.Test.YtgdkljcnebaiiaaGreatOpsA
import Derived.Laws.MakeOwn
import Derived.Laws.Tables
import Derived.Laws.Strings
import Derived.Laws.Concat
set_option linter.unusedVariables false
set_option linter.unusedSimpArgs false
namespace Go.Sim
variable {E : Env}

theorem zfy {α : Type} (l : List α) (hl : 0 < l.length) : ∀ (c i : Nat),(List.replicate c l).flatten.length = c * l.length ∧ (i < c * l.length → (List.replicate c l).flatten[i]? = l[i % l.length]?)
 | 0,i => by simp
 | c + 1,i => by
  obtain ⟨h1,h2⟩ := zfy l hl c (i - l.length)
  refine ⟨by simp,fun hi => ?_⟩
  rw [List.replicate_succ,List.flatten_cons]
  by_cases h : i < l.length
  ·rw [List.getElem?_append_left h,Nat.mod_eq_of_lt h]
  ·have hi' : i < c * l.length + l.length := by rw [Nat.succ_mul] at hi; exact hi
   rw [List.getElem?_append_right (by omega),h2 (by omega),Nat.mod_eq_sub_mod (show i ≥ l.length by omega)]

theorem zjG {ρ : Ren} (z : Array Value) (hz : ∀ v ∈ z.toList,VRel ρ v v) (c : Nat) : LRel ρ (List.replicate c z.toList).flatten (madeCells z (c * z.size)).toList := by
 by_cases h0 : 0 < z.toList.length
 ·refine ⟨by rw [(zfy z.toList h0 c 0).1]; simp [madeCells],fun i v w hv hw => ?_⟩
  have hi : i < c * z.toList.length := by
   rcases Nat.lt_or_ge i (c * z.toList.length) with h | h
   ·exact h
   ·rw [List.getElem?_eq_none (by rw [(zfy z.toList h0 c 0).1]; exact h)] at hv; simp at hv
  rw [(zfy z.toList h0 c i).2 hi] at hv
  have hi' : i < c * z.size := by simpa using hi
  have hm : i % z.size < z.size := Nat.mod_lt _ (by simpa using h0)
  have e2 : (madeCells z (c * z.size)).toList[i]? = some z[i % z.size] := by
   simp [madeCells,hi',hm]
  have e1 : z.toList[i % z.toList.length]? = some z[i % z.size] := by
   simp [hm]
  rw [e1] at hv
  rw [e2] at hw
  obtain rfl := Option.some.inj hv
  obtain rfl := Option.some.inj hw
  exact hz _ (by simp)
 ·have : z = #[] := by
   apply Array.eq_empty_of_size_eq_zero; simp at h0; simp [h0]
  subst this
  refine ⟨by simp [madeCells],fun i v w hv hw => ?_⟩
  simp at hv

theorem zqd (K : EnvOK E) (t : TypeId) (l c : Operand) : zdA E (zgf t l c) (.makeSlice t l c) := by
 intro ev eval ρ h w o n h' ho hev hw hok
 unfold zgf zik at hok
 split at hok
 ·rename_i elem b1 b2 b3 ln cn ht hl hc
  split at hok
  ·rename_i d size bytes z hel
   split at hok
   ·simp at hok
   ·rename_i hg
    simp only [Bool.or_eq_true,decide_eq_true_eq,not_or,Nat.not_lt] at hg
    obtain ⟨rfl,rfl⟩ := zas hok
    obtain ⟨kl,hle⟩ := zeb hev hl
    obtain ⟨kc,hce⟩ := zeb hev hc
    obtain ⟨i,hi,hs,hby,hz⟩ := K.info hel
    simp only at hs hby hz
    rw [zkE ho,hle,hce]
    have hbb : (i.bytes : Int) * (Int.ofNat cn) ≤ 281474976710656 := by
     rw [hby]
     show (bytes : Int) * (cn : Int) ≤ 281474976710656
     rw [← Int.natCast_mul]
     have := hg.1.2
     omega
    have hcc : (Int.ofNat cn) ≤ 9223372036854775807 := by
     show (cn : Int) ≤ 9223372036854775807
     omega
    have hlc : Int.ofNat ln ≤ Int.ofNat cn := Int.ofNat_le.2 hg.1.1
    have hrun := run_make (P := E.P) w t elem i z (K.type _ _ ht).2.1 hi (hz _ rfl) kl kc (Int.ofNat ln) (Int.ofNat cn) (Int.natCast_nonneg _) hlc hbb hcc
    rw [zay _ _ _ _ _ hrun]
    have hzr := K.zeroRel hel (z := z) rfl ρ
    have hsz : z.cells.size = i.size := by rw [hs]; exact hzr.2.1
    have hm := zjG (ρ := ρ) z.cells (fun v hv => (hzr.2.2 v hv).1) cn
    rw [hsz] at hm
    have hlen := hm.len
    simp only [Array.length_toList] at hlen
    obtain ⟨h1,h2⟩ := zgM hw (List.replicate cn z.cells.toList).flatten (madeCells z.cells (cn * i.size)) elem false 0 w.drawn (by omega) (fun _ => by omega) (fun e => by simp at e)
     (fun j v hv => by obtain ⟨u,hu,hr⟩ := hm.some hv; exact ⟨u,by rw [← Array.getElem?_toList]; exact hu,hr⟩)
    refine ⟨_,_,_,.value (.slc (κ := 0) ?_ (by simp [upd])),h1,h2,rfl⟩
    have := hg.2
    unfold openCap
    omega
  ·simp at hok
 ·simp at hok

end Go.Sim

namespace Go.Sim
variable {E : Env}

section
variable {ρ : Operand → Value} {o : Oper}
theorem zsd {t : TypeId} {ps : Array (Nat × Operand)} (ho : o.op = .build t ps) : execOp ρ o = (do let v ← Instr.build t (ps.map fun (i,x) => (i,ρ x)); pure (.value v)) := by unfold execOp; rw [ho]
theorem zkb {t : TypeId} {l : Nat} {ps : Array (Nat × Operand)} (ho : o.op = .buildSlice t l ps) : execOp ρ o = (do let v ← Instr.buildSlice t l (ps.map fun (i,x) => (i,ρ x)); pure (.value v)) := by unfold execOp; rw [ho]
end

theorem zsf (off : Nat) : ∀ (l : List Value) (k : Nat) (cs : Array Value),off + k + l.length ≤ cs.size →
  ((l.zipIdx k).foldl (fun cs (c,j) => cs.setIfInBounds (off + j) c) cs).toList = cs.toList.take (off + k) ++ l ++ cs.toList.drop (off + k + l.length)
 | [],k,cs,_ => by simp
 | v :: l,k,cs,h => by
  simp only [List.length_cons] at h
  rw [List.zipIdx_cons,List.foldl_cons,zsf off l (k + 1) _ (by simp; omega)]
  refine List.ext_getElem? fun i => ?_
  have hs : cs.toList.length = cs.size := by simp
  simp only [List.append_assoc,List.length_cons,Array.toList_setIfInBounds]
  simp only [List.getElem?_append,List.length_take,List.length_set,List.getElem?_take,List.getElem?_drop,List.getElem?_set,List.length_cons]
  have e1 : min (off + (k + 1)) cs.toList.length = off + k + 1 := by omega
  have e2 : min (off + k) cs.toList.length = off + k := by omega
  rw [e1,e2]
  by_cases h1 : i < off + k
  ·rw [if_pos (by omega),if_pos (by omega),if_pos h1,if_pos h1,if_neg (by omega)]
  ·by_cases h2 : i = off + k
   ·subst h2
    rw [if_pos (by omega),if_pos (by omega),if_pos rfl,if_pos (by omega),if_neg (by omega),if_pos (by omega)]
    simp
   ·rw [if_neg (by omega),if_neg h1]
    by_cases h3 : i - (off + k) < l.length + 1
    ·rw [if_pos (by omega),if_pos h3]
     have : i - (off + k) = (i - (off + k + 1)) + 1 := by omega
     rw [this,List.getElem?_cons_succ]
    ·rw [if_neg (by omega),if_neg h3,if_neg (by omega)]
     congr 1
     omega

theorem zhG {ρ : Ren} (place : Nat → Option (Nat × Nat)) (n : Nat) : ∀ (ps qs : List (Nat × Value)) (cs : List Value) (ds : Array Value) (out : List Value),
  ps.length = qs.length → (∀ (i : Nat) (p q : Nat × Value),ps[i]? = some p → qs[i]? = some q → p.1 = q.1 ∧ VRel ρ p.2 q.2) → cs.length = n → LRel ρ cs ds.toList →
  zfZ place n cs ps = some out → ∃ eo,Instr.fill place ds qs = some eo ∧ LRel ρ out eo.toList
 | [],[],cs,ds,out,_,_,_,hl,hf => by
  simp only [zfZ,Option.some.injEq] at hf
  subst hf
  exact ⟨ds,rfl,hl⟩
 | [],_ :: _,_,_,_,h,_,_,_,_ => by simp at h
 | _ :: _,[],_,_,_,h,_,_,_,_ => by simp at h
 | (i,v) :: ps,(j,u) :: qs,cs,ds,out,hlen,hg,hn,hl,hf => by
  obtain ⟨hij,hvu⟩ := hg 0 _ _ rfl rfl
  simp only at hij hvu
  subst hij
  have hg' : ∀ (k : Nat) (p q : Nat × Value),ps[k]? = some p → qs[k]? = some q → p.1 = q.1 ∧ VRel ρ p.2 q.2 := fun k p q hp hq => hg (k + 1) p q (by simpa using hp) (by simpa using hq)
  have hlen' : ps.length = qs.length := by simpa using hlen
  simp only [zfZ] at hf
  split at hf
  ·simp at hf
  ·rename_i off size hp
   cases hc : (Nat.beq v.cells.toList.length size && Nat.ble (off + size) n) with
   | false => rw [hc] at hf; simp at hf
   | true =>
    rw [hc,cond_true] at hf
    simp only [Bool.and_eq_true,zaD,decide_eq_true_eq] at hc
    have h1 := hc.1
    have h2 := zdo hc.2
    have hcl := hvu.cells
    have hl1 := hcl.len
    have hl2 := hl.len
    have hds : ds.size = n := by simp at hl2; omega
    have hus : u.cells.size = size := by simp at hl1 h1; omega
    have hnew : ∀ ds',ds' = u.cells.zipIdx.foldl (fun cs (c,j) => cs.setIfInBounds (off + j) c) ds → ds'.toList = ds.toList.take off ++ u.cells.toList ++ ds.toList.drop (off + size) := by
     rintro ds' rfl
     rw [← Array.foldl_toList,Array.toList_zipIdx,zsf off u.cells.toList 0 ds (by simp; omega)]
     simp [hus]
    have hres : LRel ρ (cs.take off ++ v.cells.toList ++ cs.drop (off + size)) (u.cells.zipIdx.foldl (fun cs (c,j) => cs.setIfInBounds (off + j) c) ds).toList := by
     rw [hnew _ rfl]
     exact ((hl.take off).append hcl).append (hl.drop (off + size))
    have hf' : zfZ place n (cs.take off ++ v.cells.toList ++ cs.drop (off + size)) ps = some out := by
     cases hb : (Nat.beq off 0 && Nat.beq size n) with
     | false => rw [hb,cond_false] at hf; exact hf
     | true =>
      rw [hb,cond_true] at hf
      simp only [Bool.and_eq_true,zaD,decide_eq_true_eq] at hb
      obtain ⟨rfl,rfl⟩ := hb
      rw [List.take_zero,List.drop_eq_nil_of_le (by omega)]
      simpa using hf
    obtain ⟨eo,he,hr⟩ := zhG place n ps qs _ _ out hlen' hg' (by simp at h1; simp; omega) hres hf'
    refine ⟨eo,?_,hr⟩
    simp only [Instr.fill,hp]
    rw [if_neg (by rw [hus,hds]; simp; omega)]
    exact he

theorem zfB {ρ : Ren} {ev : Ev} {eval : Operand → Value} (hev : zcb ρ ev eval) : ∀ (xs : List (Nat × Operand)) (ps : List (Nat × Value)),zaI ev xs = some ps →
  ps.length = (xs.map fun (i,x) => (i,eval x)).length ∧ ∀ (i : Nat) (p q : Nat × Value),ps[i]? = some p → (xs.map fun (i,x) => (i,eval x))[i]? = some q → p.1 = q.1 ∧ VRel ρ p.2 q.2
 | [],ps,h => by simp [zaI] at h; subst h; simp
 | (i,x) :: r,ps,h => by
  simp only [zaI] at h
  cases hx : ev x with
  | none => rw [hx] at h; simp at h
  | some v =>
   rw [hx] at h
   cases hr : zaI ev r with
   | none => rw [hr] at h; simp at h
   | some l =>
    rw [hr] at h
    simp only [Option.some.injEq] at h
    subst h
    obtain ⟨h1,h2⟩ := zfB hev r l hr
    refine ⟨by simp only [List.length_cons,List.map_cons,h1],fun k p q hp hq => ?_⟩
    cases k with
    | zero => simp at hp hq; subst hp hq; exact ⟨rfl,hev x v hx⟩
    | succ k => exact h2 k p q (by simpa using hp) (by simpa using hq)

end Go.Sim

namespace Go.Sim
variable {E : Env}

theorem zlW (K : EnvOK E) : ∀ (fs : List Field) (ps : List (Nat × Nat)),zgl E fs = some ps → fs.mapM (fun f => (E.P.info? f.type).map fun i => (f.offset,i.size)) = some ps
 | [],ps,h => by simp [zgl] at h; subst h; rfl
 | f :: r,ps,h => by
  simp only [zgl] at h
  split at h
  ·simp at h
  ·rename_i ti ht
   split at h
   ·simp at h
   ·rename_i l hl
    simp only [Option.some.injEq] at h
    subst h
    obtain ⟨i,h1,h2,_⟩ := K.info ht
    simp [List.mapM_cons,h1,h2,zlW K r l hl]

theorem zfV {eval : Operand → Value} (ps : Array (Nat × Operand)) : (ps.map fun (i,x) => (i,eval x)).toList = ps.toList.map fun (i,x) => (i,eval x) := by rw [Array.toList_map]

theorem zpo (K : EnvOK E) (t : TypeId) (ps : Array (Nat × Operand)) : zdu E (zbi t ps) (.build t ps) := by
 intro ev eval ρ h w o n h' ho hev hw hok
 unfold zbi zfw at hok
 split at hok
 ·rename_i fields b1 b2 z parts ht hp
  obtain ⟨g1,g2⟩ := zfB hev _ _ hp
  split at hok
  ·rename_i places hpl
   split at hok
   ·rename_i cs hf
    obtain ⟨rfl,rfl⟩ := zas hok
    have hz := K.zeroRel ht (z := z) rfl ρ
    obtain ⟨eo,he,hr⟩ := zhG (ρ := ρ) (places[·]?) z.cells.size parts _ z.cells.toList z.cells cs g1 g2 (by simp) ⟨rfl,fun i v w hv hw => by rw [hv] at hw; obtain rfl := Option.some.inj hw; exact (hz.2.2 v (List.mem_of_getElem? hv)).1⟩ hf
    obtain ⟨i,h1,_,_,h4⟩ := K.info ht
    have h4 := h4 z rfl
    have hb : E.P.built t (ps.map fun (i,x) => (i,eval x)).toList = some eo := by
     unfold Program.built
     rw [h1,(K.type _ _ ht).2.1]
     simp only [h4,zlW K _ _ hpl,zfV]
     simpa using he
    rw [zsd ho,zay _ _ _ _ _ (run_build w t _ eo hb)]
    exact .val (.agg' (by simpa using hr))
   ·simp at hok
  ·simp at hok
 ·rename_i ln elem b1 b2 z parts ht hp
  obtain ⟨g1,g2⟩ := zfB hev _ _ hp
  split at hok
  ·rename_i ei hei
   split at hok
   ·rename_i cs hf
    obtain ⟨rfl,rfl⟩ := zas hok
    have hz := K.zeroRel ht (z := z) rfl ρ
    obtain ⟨eo,he,hr⟩ := zhG (ρ := ρ) (fun i => some (i * ei.size,ei.size)) z.cells.size parts _ z.cells.toList z.cells cs g1 g2 (by simp) ⟨rfl,fun i v w hv hw => by rw [hv] at hw; obtain rfl := Option.some.inj hw; exact (hz.2.2 v (List.mem_of_getElem? hv)).1⟩ hf
    obtain ⟨i,h1,_,_,h4⟩ := K.info ht
    have h4 := h4 z rfl
    obtain ⟨i',h1',h2',_⟩ := K.info hei
    have hb : E.P.built t (ps.map fun (i,x) => (i,eval x)).toList = some eo := by
     unfold Program.built
     rw [h1,(K.type _ _ ht).2.1]
     simp only [h4,h1',h2',zfV]
     exact he
    rw [zsd ho,zay _ _ _ _ _ (run_build w t _ eo hb)]
    exact .val (.agg' (by simpa using hr))
   ·simp at hok
  ·simp at hok
 ·simp at hok

theorem zoS (K : EnvOK E) (t : TypeId) (len : Nat) (ps : Array (Nat × Operand)) : zdA E (zci t len ps) (.buildSlice t len ps) := by
 intro ev eval ρ h w o n h' ho hev hw hok
 unfold zci zfi at hok
 split at hok
 ·rename_i elem b1 b2 b3 parts ht hp
  obtain ⟨g1,g2⟩ := zfB hev _ _ hp
  split at hok
  ·rename_i d size bytes z hel
   split at hok
   ·simp at hok
   ·rename_i hlong
    simp only [Bool.or_eq_true,decide_eq_true_eq,not_or] at hlong
    split at hok
    ·rename_i cs hf
     obtain ⟨rfl,rfl⟩ := zas hok
     have hz := K.zeroRel hel (z := z) rfl ρ
     have hsz : z.cells.size = size := hz.2.1
     have hm := zjG (ρ := ρ) z.cells (fun v hv => (hz.2.2 v hv).1) len
     rw [hsz] at hm
     have hl0 : (List.replicate len z.cells.toList).flatten.length = len * size := by rw [hm.len]; simp [madeCells]
     obtain ⟨eo,he,hr⟩ := zhG (ρ := ρ) (fun i => some (i * size,size)) (len * size) parts _ _ _ cs g1 g2 hl0 hm hf
     rw [zkb ho]
     have hrun : (Instr.buildSlice t len (ps.map fun (i,x) => (i,eval x))).run E.P w = .ok (.slice (some ⟨w.heap.size,0,none⟩) len len) { w with heap := w.heap.push (.cells eo elem),drawn := w.drawn } := by
      unfold Instr.buildSlice
      have hs : (Go.sizeOf elem).run E.P w = .ok size w := K.sizeOf hel w
      simp only [Sem.run_bind,K.und ht w,Result.andThen_ok,hs,if_neg hlong.1]
      by_cases h0 : len * size = 0
      ·rw [h0] at he
       simp only [h0,if_true,Sem.run_pure,Result.andThen_ok]
       have e0 : madeCells z.cells 0 = #[] := by simp [madeCells,Array.range_zero']
       rw [e0] at he
       rw [zfV]
       simp [he,newRow,Array.range_zero']
      ·simp only [h0,if_false,Sem.run_bind,K.zero hel rfl w,Sem.run_pure,Result.andThen_ok]
       rw [zfV]
       unfold madeCells at he
       simp [he,newRow]
     rw [zay _ _ _ _ _ hrun]
     have hlen := hr.len
     simp only [Array.length_toList] at hlen
     obtain ⟨h1,h2⟩ := zgM hw cs eo elem false 0 w.drawn (by omega) (fun _ => by omega) (fun e => by simp at e)
      (fun j v hv => by obtain ⟨u,hu,hr⟩ := hr.some hv; exact ⟨u,by rw [← Array.getElem?_toList]; exact hu,hr⟩)
     refine ⟨_,_,_,.value (.slc (κ := 0) ?_ (by simp [upd])),h1,h2,rfl⟩
     have := hlong.2
     unfold openCap
     omega
    ·simp at hok
  ·simp at hok
 ·simp at hok

end Go.Sim

namespace Go.Sim
variable {E : Env}

theorem zmk {P : Program} (op : BinOp) {t : TypeId} (x y : Operand) (a b : Array Value) (h : P.eqGuardType P.depth t = false) (w : World) :
  (eqGuard op t x y (.agg a) (.agg b)).run P w = .ok () w := by
 unfold eqGuard
 cases op <;> simp [h]

theorem zdl {ρ : Ren} {ev : Ev} {eval : Operand → Value} (hev : zcb ρ ev eval) {h : SHeap} {w : World} (hw : WRel E ρ h w) {o : Oper} {n : SNext} {h' : SHeap} {op : BinOp} {t u : TypeId} {x y : Operand}
  (ho : o.op = .binOp op t x y u) (hok : zbJ E.P ev o h = .ok (n,h')) : zeR ρ h w n h' ((execOp eval o).run E.P w) := by
 refine zef hev o hok fun e1 e2 he => ?_
 rw [zmu ho,zmu ho,he x (by rw [ho]; simp [Op.operands]),he y (by rw [ho]; simp [Op.operands])]

theorem zcX {ρ : Ren} {eval : Operand → Value} {h : SHeap} {w : World} (hw : WRel E ρ h w) {o : Oper} {op : BinOp} {t u : TypeId} {x y : Operand} (ho : o.op = .binOp op t x y u) {v : Value}
  (hg : (eqGuard op t x y (eval x) (eval y)).run E.P w = .ok () w) (hb : (binOp op t (eval x) (eval y)).run E.P w = .ok v w) (hv : VRel ρ v v) : zeR ρ h w (.value v) h ((execOp eval o).run E.P w) := by
 rw [zmu ho]
 have : (do eqGuard op t x y (eval x) (eval y); binOp op t (eval x) (eval y)).run E.P w = .ok v w := by
  rw [Sem.run_bind,hg]
  exact hb
 rw [zay _ _ _ _ _ this]
 exact .val hv

theorem zlF {ρ : Ren} {a : Option Addr} {u : Value} (h : VRel ρ (.pointer a) u) : ∃ b,u = .pointer b ∧ b.isNone = a.isNone := by
 cases h with
 | ptrNil => exact ⟨_,rfl,rfl⟩
 | ptr => exact ⟨_,rfl,rfl⟩
theorem zlD {ρ : Ren} {a : Option Nat} {u : Value} (h : VRel ρ (.map a) u) : ∃ b,u = .map b ∧ b.isNone = a.isNone := by
 cases h with
 | mapNil => exact ⟨_,rfl,rfl⟩
 | map => exact ⟨_,rfl,rfl⟩
theorem zlx {ρ : Ren} {a : Option Addr} {l c : Nat} {u : Value} (h : VRel ρ (.slice a l c) u) (hc : a.isNone = true → c < openCap) : ∃ b l' c',u = .slice b l' c' ∧ b.isNone = a.isNone := by
 cases h with
 | slcNil => exact ⟨_,_,_,rfl,rfl⟩
 | slc => exact ⟨_,_,_,rfl,rfl⟩
 | slcOpen => exact ⟨_,_,_,rfl,rfl⟩
 | slcLoose => exact ⟨_,_,_,rfl,rfl⟩
 | slcNone => exact absurd (hc rfl) (by decide)

theorem zyL {ti : Option TI} (h : zqo ti = true) : ∃ i,ti = some i ∧ i.size ≠ 0 := by
 unfold zqo at h
 split at h
 ·rename_i i
  refine ⟨i,rfl,fun e => ?_⟩
  rw [e] at h
  simp at h
 ·simp at h

structure EqOK (E : Env) (t : TypeId) (u v : Value) (r : Bool) (w : World) : Prop where
 eq : (Op.equal t u v).run E.P w = .ok r w
 eql : binOp .eql t u v = (do pure (.bool (← Op.equal t u v)))
 neq : binOp .neq t u v = (do pure (.bool (!(← Op.equal t u v))))
 guard : ∀ op x y,(eqGuard op t x y u v).run E.P w = .ok () w

theorem znu (P : Program) (r o q : Nat) (w : World) : (sameAddr ⟨r,o,none⟩ ⟨r,q,none⟩).run P w = .ok (Nat.beq o q) w := by
 unfold sameAddr
 simp only [beq_self_eq_true,if_true,Sem.run_pure]
 congr 1
 rw [Bool.eq_iff_iff]
 simp

theorem zxz (K : EnvOK E) {ρ : Ren} {t : TypeId} {ti : TI} (ht : E.T t = some ti) {d : TypeDesc} (hd : ti.desc = d) {a b u v : Value} {r : Bool} (h : zuH E d a b = some r) (ha : VRel ρ a u) (hb : VRel ρ b v) (w : World) :
  EqOK E t u v r w := by
 have hu := K.und ht w
 rw [hd] at hu
 unfold zuH at h
 split at h
 · -- pointer nil,pointer
  obtain ⟨p,rfl,hp⟩ := zlF ha
  obtain ⟨q,rfl,hq⟩ := zlF hb
  simp at hp
  subst hp
  simp only [Option.some.injEq] at h
  refine ⟨?_,rfl,rfl,fun op x y => by cases op <;> rfl⟩
  unfold Op.equal Op.maxDepth Op.equalIn
  simp only [Sem.run_bind,hu,Result.andThen_ok]
  rw [← h,← hq]
  rfl
 ·obtain ⟨p,rfl,hp⟩ := zlF ha
  obtain ⟨q,rfl,hq⟩ := zlF hb
  cases p with
  | none => simp at hp
  | some p =>
   simp at hq
   subst hq
   simp only [Option.some.injEq] at h
   refine ⟨?_,rfl,rfl,fun op x y => by cases op <;> rfl⟩
   unfold Op.equal Op.maxDepth Op.equalIn
   simp only [Sem.run_bind,hu,Result.andThen_ok]
   rw [← h]
   rfl
 ·rename_i e a b
  cases hc : (Nat.beq a.block b.block && zqo (E.T e)) with
  | false => rw [hc] at h; simp at h
  | true =>
   rw [hc,cond_true,Option.some.injEq] at h
   simp only [Bool.and_eq_true,zaD,decide_eq_true_eq] at hc
   obtain ⟨i,hi,hs⟩ := zyL hc.2
   obtain ⟨p,κ,h1,h2,rfl⟩ := ha.ptr_inv
   obtain ⟨q,κ',h3,h4,rfl⟩ := hb.ptr_inv
   rw [hc.1,h3] at h1
   obtain ⟨rfl,rfl⟩ : q = p ∧ κ' = κ := by simpa using h1
   refine ⟨?_,rfl,rfl,fun op x y => by cases op <;> rfl⟩
   unfold Op.equal Op.maxDepth Op.equalIn
   simp only [Sem.run_bind,hu,Result.andThen_ok,K.sizeOf hi w,hs,ne_eq,not_false_eq_true,if_true,znu]
   rw [h]
 ·rename_i e l c b l' c'
  split at h
  ·simp at h
  ·rename_i hc
   split at h
   ·simp at h
   ·rename_i hn
    obtain ⟨p,_,_,rfl,hp⟩ := zlx ha (fun _ => by omega)
    obtain ⟨q,_,_,rfl,hq⟩ := zlx hb (fun e => by simp only [e,Bool.true_and,decide_eq_true_eq] at hn; omega)
    simp at hp
    subst hp
    simp only [Option.some.injEq] at h
    refine ⟨?_,rfl,rfl,fun op x y => by cases op <;> rfl⟩
    unfold Op.equal Op.maxDepth Op.equalIn
    simp only [Sem.run_bind,hu,Result.andThen_ok]
    rw [← h,← hq]
    rfl
 ·rename_i e a l c l' c'
  split at h
  ·simp at h
  ·rename_i hc
   obtain ⟨p,_,_,rfl,hp⟩ := zlx ha (fun e => by simp at e)
   obtain ⟨q,_,_,rfl,hq⟩ := zlx hb (fun _ => by omega)
   cases p with
   | none => simp at hp
   | some p =>
    simp at hq
    subst hq
    simp only [Option.some.injEq] at h
    refine ⟨?_,rfl,rfl,fun op x y => by cases op <;> rfl⟩
    unfold Op.equal Op.maxDepth Op.equalIn
    simp only [Sem.run_bind,hu,Result.andThen_ok]
    rw [← h]
    rfl
 ·obtain ⟨p,rfl,hp⟩ := zlD ha
  obtain ⟨q,rfl,hq⟩ := zlD hb
  simp at hp
  subst hp
  simp only [Option.some.injEq] at h
  refine ⟨?_,rfl,rfl,fun op x y => by cases op <;> rfl⟩
  unfold Op.equal Op.maxDepth Op.equalIn
  simp only [Sem.run_bind,hu,Result.andThen_ok]
  rw [← h,← hq]
  rfl
 ·obtain ⟨p,rfl,hp⟩ := zlD ha
  obtain ⟨q,rfl,hq⟩ := zlD hb
  cases p with
  | none => simp at hp
  | some p =>
   simp at hq
   subst hq
   simp only [Option.some.injEq] at h
   refine ⟨?_,rfl,rfl,fun op x y => by cases op <;> rfl⟩
   unfold Op.equal Op.maxDepth Op.equalIn
   simp only [Sem.run_bind,hu,Result.andThen_ok]
   rw [← h]
   rfl
 all_goals first
  | (simp at h; done)
  | (cases ha; cases hb; simp only [Option.some.injEq] at h; refine ⟨?_,rfl,rfl,fun op x y => by cases op <;> rfl⟩; unfold Op.equal Op.maxDepth Op.equalIn; simp only [Sem.run_bind,hu,Result.andThen_ok]; rw [← h]; rfl)


theorem zth (P : Program) {r q o o' : Nat} {cs ds : Array Value} {e f : TypeId} {w : World} (hr : w.heap[r]? = some (.cells cs e (0,0))) (hq : w.heap[q]? = some (.cells ds f (0,0))) (hne : r ≠ q) :
  (sameAddr ⟨r,o,none⟩ ⟨q,o',none⟩).run P w = .ok false w := by
 have f1 : ∀ i,w.frozen? ⟨r,i,none⟩ = false := fun i => by unfold World.frozen?; simp [hr]
 have f2 : ∀ i,w.frozen? ⟨q,i,none⟩ = false := fun i => by unfold World.frozen?; simp [hq]
 have s1 : w.shape? r = some (e,cs.size) := by unfold World.shape?; rw [hr]
 have s2 : w.shape? q = some (f,ds.size) := by unfold World.shape?; rw [hq]
 unfold sameAddr
 simp [hne,frozen,Sem.run,f1,f2,noView,viewAt,mayBeOne,stringish,shape,s1,s2]

theorem zvy (K : EnvOK E) {ρ : Ren} {hh : SHeap} {w : World} (hw : WRel E ρ hh w) {t ta tb : TypeId} {ti : TI} (ht : E.T t = some ti) {ms : Array (String × TypeId)} (hd : ti.desc = .interface ms) {a b u v : Value} {r : Bool} (h : zoe E hh ta tb a b = some r)
  (ha : VRel ρ (.iface ta a) u) (hb : VRel ρ (.iface tb b) v) : EqOK E t u v r w := by
 have hu := K.und ht w
 rw [hd] at hu
 obtain ⟨a',rfl,ha2⟩ := VRel.iface_inv ha
 obtain ⟨b',rfl,hb2⟩ := VRel.iface_inv hb
 unfold zoe at h
 cases hc : Nat.beq ta tb with
 | false =>
  rw [hc,cond_false,Option.some.injEq] at h
  subst h
  rw [zaD,decide_eq_false_iff_not] at hc
  refine ⟨?_,rfl,rfl,fun op x y => by cases op <;> rfl⟩
  unfold Op.equal Op.maxDepth Op.equalIn
  simp only [Sem.run_bind,hu,Result.andThen_ok,ne_eq,hc,not_false_eq_true,if_true,Sem.run_pure]
 | true =>
  rw [hc,cond_true] at h
  rw [zaD,decide_eq_true_eq] at hc
  subst hc
  split at h
  ·rename_i x y
   split at h
   ·rename_i e vx vy hQ hx hy
    rw [Option.some.injEq] at h
    obtain ⟨k1,⟨i,k2,k3⟩,⟨j,k4,k5⟩⟩ := K.held _ _ hQ
    obtain ⟨p,κ,h1,rfl⟩ := ha2.chan_inv
    obtain ⟨q,κ',h3,rfl⟩ := hb2.chan_inv
    obtain ⟨p',κ1,e1,u1,f1,_,c1,_⟩ := hw.live _ _ hx
    obtain ⟨q',κ2,e2,u2,f2,_,c2,_⟩ := hw.live _ _ hy
    rw [h1] at e1
    rw [h3] at e2
    obtain ⟨rfl,rfl⟩ : p = p' ∧ κ = κ1 := by simpa using e1
    obtain ⟨rfl,rfl⟩ : q = q' ∧ κ' = κ2 := by simpa using e2
    have hsame : (sameAddr ⟨p,κ,none⟩ ⟨q,κ',none⟩).run E.P w = .ok r w := by
     by_cases hpq : p = q
     ·subst hpq
      rw [znu,← h]
      by_cases hk : κ = κ'
      ·have := hw.inj _ _ _ _ _ _ _ hx hy h1 h3 (.inr hk)
       subst this
       rw [Nat.beq_refl,hk]
       simp [zaD]
      ·have hxy : x ≠ y := fun e => by
        rw [e,h3] at h1
        simp only [Option.some.injEq,Prod.mk.injEq] at h1
        exact hk h1.2.symm
       have e : Nat.beq x y = false := by rw [zaD,decide_eq_false_iff_not]; exact hxy
       have e' : Nat.beq κ κ' = false := by rw [zaD,decide_eq_false_iff_not]; exact hk
       rw [e,e']
     ·have hxy : x ≠ y := fun e => by
       rw [e,h3] at h1
       simp only [Option.some.injEq,Prod.mk.injEq] at h1
       exact hpq h1.1.symm
      rw [zth E.P c1 c2 hpq,← h]
      have e : Nat.beq x y = false := by rw [zaD,decide_eq_false_iff_not]; exact hxy
      rw [e]
    refine ⟨?_,rfl,rfl,fun op x y => by cases op <;> rfl⟩
    unfold Op.equal Op.maxDepth Op.equalIn
    simp only [Sem.run_bind,hu,Result.andThen_ok,ne_eq,not_true_eq_false,if_false]
    have hti : (typeInfo ta).run E.P w = .ok i w := by simp [typeInfo,k2]
    simp only [hti,Result.andThen_ok,k3,Bool.not_true,Bool.false_eq_true,if_false]
    unfold Op.equalIn
    have hsz : (Go.sizeOf e).run E.P w = .ok j.size w := by simp [Go.sizeOf,typeInfo,k4]
    simp only [Sem.run_bind,run_underlying k1,Result.andThen_ok,hsz,k5,ne_eq,not_false_eq_true,if_true,hsame]
   ·simp at h
  ·simp at h

end Go.Sim

namespace Go.Sim
variable {E : Env}

theorem zhp (p : ByteArray) : p.size = p.data.toList.length := by rw [Array.length_toList]; rfl
theorem zvS {p q : ByteArray} (h : p.data.toList.length + q.data.toList.length < 1000000000000) : p.size + q.size ≤ 9223372036854775807 := by
 rw [zhp p,zhp q]; omega

theorem zyQ (x y : ByteArray) : x ++ y = ⟨(x.data.toList ++ y.data.toList).toArray⟩ := by
 have := ByteArray.mk_append_mk x.data.toList y.data.toList
 simpa using this

theorem zlo (P : Program) (op : BinOp) (t : TypeId) (x y : Operand) (a : ByteArray) (v : Value) (w : World) : (eqGuard op t x y (.string a) v).run P w = .ok () w := by
 cases op <;> rfl

theorem znm (P : Program) (op : BinOp) (t : TypeId) (x y : Operand) (a : Bool) (v : Value) (w : World) : (eqGuard op t x y (.bool a) v).run P w = .ok () w := by
 cases op <;> rfl

theorem zsZ {ρ : Ren} {c : CK} {a b u v : Value} {r : Bool} (h : zdJ c a b = some r) (ha : VRel ρ a u) (hb : VRel ρ b v) : u = a ∧ v = b := by
 unfold zdJ at h
 split at h
 ·exact ⟨ha.int_inv,hb.int_inv⟩
 ·exact ⟨ha.bool_inv,hb.bool_inv⟩
 ·exact ⟨ha.str_inv,hb.str_inv⟩
 ·simp at h

theorem zkU {ρ : Ren} : ∀ (ks : List CK) (l m l' m' : List Value) (r : Bool),zbT ks l m = some r → LRel ρ l l' → LRel ρ m m' → l' = l ∧ m' = m
 | [],[],[],l',m',r,_,hl,hm => by
  have h1 := hl.len; have h2 := hm.len
  simp at h1 h2
  exact ⟨List.eq_nil_of_length_eq_zero h1.symm,List.eq_nil_of_length_eq_zero h2.symm⟩
 | c :: q,a :: l,b :: m,l',m',r,h,hl,hm => by
  simp only [zbT] at h
  split at h
  ·simp at h
  ·rename_i t ht
   split at h
   ·simp at h
   ·rename_i s hs
    cases l' with
    | nil => have := hl.len; simp at this
    | cons a' l' => cases m' with
     | nil => have := hm.len; simp at this
     | cons b' m' =>
      obtain ⟨e1,e2⟩ := zsZ ht (hl.get 0 a a' rfl rfl) (hm.get 0 b b' rfl rfl)
      obtain ⟨e3,e4⟩ := zkU q l m l' m' s hs ⟨by have := hl.len; simpa using this,fun i v w hv hw => hl.get (i + 1) v w (by simpa using hv) (by simpa using hw)⟩
       ⟨by have := hm.len; simpa using this,fun i v w hv hw => hm.get (i + 1) v w (by simpa using hv) (by simpa using hw)⟩
      exact ⟨by rw [e1,e3],by rw [e2,e4]⟩
 | [],[],_ :: _,_,_,_,h,_,_ => by simp [zbT] at h
 | [],_ :: _,_,_,_,_,h,_,_ => by simp [zbT] at h
 | _ :: _,[],_,_,_,_,h,_,_ => by simp [zbT] at h
 | _ :: _,_ :: _,[],_,_,_,h,_,_ => by simp [zbT] at h

theorem zwt (K : EnvOK E) {ρ : Ren} {ev : Ev} {eval : Operand → Value} (hev : zcb ρ ev eval) {h : SHeap} {w : World} (hw : WRel E ρ h w) {o : Oper} {n : SNext} {h' : SHeap} {op : BinOp} {t u : TypeId} {x y : Operand}
  (ho : o.op = .binOp op t x y u) {a b : Value} (ha : ev x = some a) (hb : ev y = some b) (neg : Bool) (hop : op = bif neg then .neq else .eql)
  (hok : znk E ev o h t a b neg = .ok (n,h')) : zeR ρ h w n h' ((execOp eval o).run E.P w) := by
 have hra := hev x a ha
 have hrb := hev y b hb
 unfold znk at hok
 split at hok
 ·rename_i xs ys
  split at hok
  ·rename_i ks hks
   unfold zli at hok
   split at hok
   ·rename_i r hr
    obtain ⟨rfl,rfl⟩ := zas hok
    obtain ⟨xs',e1,h1⟩ := hra.agg_inv
    obtain ⟨ys',e2,h2⟩ := hrb.agg_inv
    obtain ⟨e3,e4⟩ := zkU ks _ _ _ _ r hr h1 h2
    have e3 : xs' = xs := by cases xs'; cases xs; simpa using e3
    have e4 : ys' = ys := by cases ys'; cases ys; simpa using e4
    subst e3 e4
    obtain ⟨hg,he⟩ := K.eqT t ks hks
    have he := he xs' ys' r hr w
    cases neg
    ·rw [cond_false] at hop; subst hop
     refine zcX hw ho (by rw [e1,e2]; exact zmk _ _ _ _ _ hg _) ?_ (.bool _)
     rw [e1,e2]
     show (do pure (Value.bool (← Op.equal t (.agg xs') (.agg ys'))) : Sem Value).run E.P w = _
     simp only [Sem.run_bind,he,Result.andThen_ok,Sem.run_pure,cond_false]
    ·rw [cond_true] at hop; subst hop
     refine zcX hw ho (by rw [e1,e2]; exact zmk _ _ _ _ _ hg _) ?_ (.bool _)
     rw [e1,e2]
     show (do pure (Value.bool (!(← Op.equal t (.agg xs') (.agg ys')))) : Sem Value).run E.P w = _
     simp only [Sem.run_bind,he,Result.andThen_ok,Sem.run_pure,cond_true]
   ·exact zdl hev hw ho hok
  ·exact zdl hev hw ho hok
 ·rename_i p q
  split at hok
  ·rename_i b1 b2 b3 ht
   obtain ⟨rfl,rfl⟩ := zas hok
   have e1 := hra.bool_inv
   have e2 := hrb.bool_inv
   have he : (Op.equal t (.bool p) (.bool q)).run E.P w = .ok (p == q) w := by
    unfold Op.equal Op.maxDepth Op.equalIn
    simp only [Sem.run_bind,K.und ht w,Result.andThen_ok]
    rfl
   cases neg
   ·rw [cond_false] at hop; subst hop
    refine zcX hw ho (by rw [e1,e2]; exact znm _ _ _ _ _ _ _ _) ?_ (.bool _)
    rw [e1,e2]
    show (do pure (Value.bool (← Op.equal t (.bool p) (.bool q))) : Sem Value).run E.P w = _
    simp only [Sem.run_bind,he,Result.andThen_ok,Sem.run_pure,cond_false]
   ·rw [cond_true] at hop; subst hop
    refine zcX hw ho (by rw [e1,e2]; exact znm _ _ _ _ _ _ _ _) ?_ (.bool _)
    rw [e1,e2]
    show (do pure (Value.bool (!(← Op.equal t (.bool p) (.bool q)))) : Sem Value).run E.P w = _
    simp only [Sem.run_bind,he,Result.andThen_ok,Sem.run_pure,cond_true]
    rfl
  ·exact zdl hev hw ho hok
 ·rename_i p q
  obtain ⟨rfl,rfl⟩ := zas hok
  have e1 := hra.str_inv
  have e2 := hrb.str_inv
  cases neg
  ·rw [cond_false] at hop; subst hop
   refine zcX hw ho (by rw [e1,e2]; exact zlo _ _ _ _ _ _ _ _) ?_ (.bool _)
   rw [e1,e2]
   simp [binOp,Op.stringOp,ByteArray.toList_eq]
  ·rw [cond_true] at hop; subst hop
   refine zcX hw ho (by rw [e1,e2]; exact zlo _ _ _ _ _ _ _ _) ?_ (.bool _)
   rw [e1,e2]
   simp [binOp,Op.stringOp,ByteArray.toList_eq]
 ·rename_i ta p tb q
  split at hok
  ·rename_i ms b1 b2 b3 ht
   unfold zkN at hok
   split at hok
   ·rename_i r hr
    obtain ⟨rfl,rfl⟩ := zas hok
    have hE := zvy K hw ht rfl hr hra hrb
    cases neg
    ·rw [cond_false] at hop; subst hop
     refine zcX hw ho (hE.guard _ _ _) ?_ (.bool _)
     rw [hE.eql,Sem.run_bind,hE.eq]
     rfl
    ·rw [cond_true] at hop; subst hop
     refine zcX hw ho (hE.guard _ _ _) ?_ (.bool _)
     rw [hE.neq,Sem.run_bind,hE.eq]
     rfl
   ·exact zdl hev hw ho hok
  ·exact zdl hev hw ho hok
 ·split at hok
  ·rename_i ti ht
   split at hok
   ·rename_i r hr
    obtain ⟨rfl,rfl⟩ := zas hok
    have hE := zxz K ht rfl hr hra hrb w
    cases neg
    ·rw [cond_false] at hop; subst hop
     refine zcX hw ho (hE.guard _ _ _) ?_ (.bool _)
     rw [hE.eql,Sem.run_bind,hE.eq]
     rfl
    ·rw [cond_true] at hop; subst hop
     refine zcX hw ho (hE.guard _ _ _) ?_ (.bool _)
     rw [hE.neq,Sem.run_bind,hE.eq]
     rfl
   ·exact zdl hev hw ho hok
  ·exact zdl hev hw ho hok

theorem ztO (K : EnvOK E) (op : BinOp) (t u : TypeId) (x y : Operand) : zdu E (zax op t x y) (.binOp op t x y u) := by
 intro ev eval ρ h w o n h' ho hev hw hok
 unfold zax zem at hok
 split at hok
 ·rename_i k a k' b hx hy
  have e1 := (hev x _ hx).int_inv
  have e2 := (hev y _ hy).int_inv
  cases hs : zon op with
  | true =>
   rw [hs,cond_true] at hok
   unfold zlu at hok
   split at hok
   ·rename_i v hv
    obtain ⟨rfl,rfl⟩ := zas hok
    obtain ⟨g1,g2⟩ := zsP E.P (l := k') hv t w
    exact zcX hw ho (by rw [e1,e2]; exact zmf _ _ _ _ _ _ _ _ _ _) (by rw [e1,e2]; exact g1) (g2 ρ)
   ·exact zdl hev hw ho hok
  | false =>
   rw [hs,cond_false] at hok
   split at hok
   ·rename_i hk
    subst hk
    unfold zlu at hok
    split at hok
    ·rename_i v hv
     obtain ⟨rfl,rfl⟩ := zas hok
     obtain ⟨g1,g2⟩ := zwB E.P hv t w
     exact zcX hw ho (by rw [e1,e2]; exact zmf _ _ _ _ _ _ _ _ _ _) (by rw [e1,e2]; exact g1) (g2 ρ)
    ·exact zdl hev hw ho hok
   ·exact zdl hev hw ho hok
 ·rename_i a b hno hx hy
  split at hok
  ·exact zwt K hev hw ho hx hy false rfl hok
  ·exact zwt K hev hw ho hx hy true rfl hok
  ·unfold zmY at hok
   split at hok
   ·rename_i p q
    cases hb : Nat.blt (p.data.toList.length + q.data.toList.length) 1000000000000 with
    | false => rw [hb] at hok; simp at hok
    | true =>
     rw [hb,cond_true] at hok
     have hb := zaH hb
     obtain ⟨rfl,rfl⟩ := zas hok
     have e1 := (hev x _ hx).str_inv
     have e2 := (hev y _ hy).str_inv
     refine zcX hw ho (by rw [e1,e2]; exact zlo _ _ _ _ _ _ _ _) ?_ (.string _)
     rw [e1,e2]
     have hs : p.size + q.size ≤ 9223372036854775807 := zvS hb
     rw [← zyQ]
     show (Op.stringOp .add p q).run E.P w = _
     exact run_string_add_sum _ _ _ hs
   ·exact zdl hev hw ho hok
  ·exact zdl hev hw ho hok
 ·simp at hok

end Go.Sim

namespace Go.Sim
variable {E : Env}

def zeJ (b : Option Nat) (v : Option Value) : Prop := match b,v with
 | none,none => True
 | some n,some (.int _ (.ofNat m)) => m = n
 | _,_ => False

theorem zeg {ρ : Ren} {ev : Ev} {eval : Operand → Value} (hev : zcb ρ ev eval) {x : Option Operand} {b : Option Nat} (h : zeu (x.map ev) = some b) : zeJ b (x.map eval) := by
 cases x with
 | none => simp [zeu] at h; subst h; trivial
 | some x =>
  simp only [Option.map_some,zeu] at h
  split at h
  ·rename_i e; simp at e
  ·simp at h
  ·rename_i v hv
   split at h
   ·rename_i n hn
    obtain ⟨k,rfl⟩ := zqC hn
    simp only [Option.some.injEq] at h hv
    subst h
    have := (hev x _ hv).int_inv
    simp only [Option.map_some,zeJ,this]
   ·simp at h

theorem zdw (P : Program) (k : IntKind) (n y : Nat) (c : BoundsCode) (h : n ≤ y) (w : World) : (Instr.sliceBound (.int k (.ofNat n)) y c).run P w = .ok n w := by
 unfold Instr.sliceBound
 have : (0 : Int) ≤ Int.ofNat n ∧ Int.ofNat n ≤ (y : Int) := ⟨Int.natCast_nonneg n,Int.ofNat_le.2 h⟩
 simp only [asIntOf,Sem.run_bind,Sem.run_pure,Result.andThen_ok,this,and_self,if_true]
 rfl

theorem zeJ.none_inv {v : Option Value} (h : zeJ none v) : v = none := by
 cases v with
 | none => rfl
 | some v => simp [zeJ] at h
theorem zeJ.some_inv {n : Nat} {v : Option Value} (h : zeJ (some n) v) : ∃ k,v = some (.int k (.ofNat n)) := by
 cases v with
 | none => simp [zeJ] at h
 | some v =>
  cases v with
  | int k m => cases m with
   | ofNat m => simp only [zeJ] at h; subst h; exact ⟨k,rfl⟩
   | negSucc m => simp [zeJ] at h
  | _ => simp [zeJ] at h

theorem zuz (P : Program) (isS : Bool) (len cap : Nat) {lo hi mx : Option Value} {bl : Option Nat} {m hh : Nat} (hl : zeJ bl lo) (hh_ : zeJ (some hh) hi) (hm : zeJ (some m) mx) (w : World)
  (h1 : m ≤ cap) (h2 : hh ≤ m) (h3 : bl.getD 0 ≤ hh) : (Instr.sliceBounds isS len cap lo hi mx).run P w = .ok (bl.getD 0,hh,m) w := by
 obtain ⟨k1,rfl⟩ := hh_.some_inv
 obtain ⟨k2,rfl⟩ := hm.some_inv
 unfold Instr.sliceBounds
 cases bl with
 | none =>
  rw [hl.none_inv]
  simp only [Sem.run_bind,zdw P k2 m cap _ h1,Result.andThen_ok,zdw P k1 hh m _ h2,Sem.run_pure,Option.getD_none]
 | some l =>
  obtain ⟨k3,rfl⟩ := hl.some_inv
  simp only [Option.getD_some] at h3 ⊢
  simp only [Sem.run_bind,zdw P k2 m cap _ h1,Result.andThen_ok,zdw P k1 hh m _ h2,Sem.run_pure,zdw P k3 l hh _ h3]

theorem zgC (P : Program) (isS : Bool) (len cap : Nat) {lo hi : Option Value} {bl bh : Option Nat} (hl : zeJ bl lo) (hh : zeJ bh hi) (w : World)
  (h2 : bh.getD len ≤ cap) (h3 : bl.getD 0 ≤ bh.getD len) : (Instr.sliceBounds isS len cap lo hi none).run P w = .ok (bl.getD 0,bh.getD len,cap) w := by
 unfold Instr.sliceBounds
 cases bh with
 | none =>
  rw [hh.none_inv]
  simp only [Option.getD_none] at h2 h3 ⊢
  cases bl with
  | none =>
   rw [hl.none_inv]
   simp only [Sem.run_bind,Result.andThen_ok,Sem.run_pure,Option.getD_none]
  | some l =>
   obtain ⟨k3,rfl⟩ := hl.some_inv
   simp only [Option.getD_some] at h3 ⊢
   simp only [Sem.run_bind,Result.andThen_ok,Sem.run_pure,zdw P k3 l len _ h3]
 | some g =>
  obtain ⟨k1,rfl⟩ := hh.some_inv
  simp only [Option.getD_some] at h2 h3 ⊢
  cases bl with
  | none =>
   rw [hl.none_inv]
   simp only [Sem.run_bind,zdw P k1 g cap _ h2,Result.andThen_ok,Sem.run_pure,Option.getD_none]
  | some l =>
   obtain ⟨k3,rfl⟩ := hl.some_inv
   simp only [Option.getD_some] at h3 ⊢
   simp only [Sem.run_bind,zdw P k1 g cap _ h2,Result.andThen_ok,Sem.run_pure,zdw P k3 l g _ h3]

end Go.Sim

namespace Go.Sim
variable {E : Env}

theorem zdc (r o n : Nat) : Addr.add ⟨r,o,none⟩ n = ⟨r,o + n,none⟩ := by unfold Addr.add; split <;> simp_all
theorem zen (r o n : Nat) : zbN ⟨r,o,none⟩ n = ⟨r,o + n,none⟩ := by unfold zbN; split <;> simp_all

theorem zjA {ρ : Ren} {a ra : Option Addr} {len cap cap' : Nat} {elem : TypeId} {bl bh bm : Option Nat} {v : Value} {ei : TI} (he : E.T elem = some ei)
  (hs : VRel ρ (.slice a len cap) (.slice ra len cap')) (hok : zfq E a len cap elem bl bh bm = .ok v) {lo hi mx : Option Value} (hl : zeJ bl lo) (hh : zeJ bh hi) (hm : zeJ bm mx) (isS : Bool) (w : World) :
  ∃ l g m,(Instr.sliceBounds isS len cap' lo hi mx).run E.P w = .ok (l,g,m) w ∧ VRel ρ v (.slice (if m = l then ra else ra.map (·.add (l * ei.size))) (g - l) (m - l)) := by
 unfold zfq at hok
 rw [he] at hok
 simp only at hok
 have lens : openCap ≤ cap → len ≤ cap' := by
  intro hc
  cases hs with
  | slcNil h => omega
  | slc h => omega
  | slcOpen _ h => exact h
  | slcLoose _ h => exact h
  | slcNone => omega
 have capeq : cap < openCap → cap' = cap := by
  intro hc
  cases hs with
  | slcNil h => rfl
  | slc h => rfl
  | slcOpen _ h => omega
  | slcLoose _ h => unfold looseCap openCap at hc; omega
  | slcNone => unfold looseCap openCap at hc; omega
 split at hok
 ·rename_i m
  split at hok
  ·simp at hok
  ·rename_i g
   split at hok
   ·simp at hok
   ·rename_i hc
    simp only [Bool.or_eq_true,Bool.and_eq_true,decide_eq_true_eq,not_or,not_and,Nat.not_lt,Bool.not_eq_true] at hc
    obtain ⟨⟨⟨⟨c1,c2⟩,c3⟩,c4⟩,c5⟩ := hc
    have hmc : m ≤ cap' := by
     by_cases h : openCap ≤ cap
     ·have := lens h; have := (c5 h).1; omega
     ·have := capeq (by omega); omega
    refine ⟨bl.getD 0,g,m,zuz E.P isS len cap' hl hh hm w hmc (by omega) (by omega),?_⟩
    have hsm : m - bl.getD 0 < openCap := by omega
    split at hok
    ·rename_i e
     rw [if_pos e]
     injection hok with hok
     subst hok
     cases hs with
     | slcNil h => exact .slcNil hsm
     | slc h hb => exact .slc hsm hb
     | slcOpen hb h => exact .slc hsm hb
     | slcLoose hb h => exact .slc hsm hb
     | slcNone => 
      have := (c5 (show openCap ≤ looseCap by decide)).2
      simp at this
    ·rename_i e
     rw [if_neg e]
     injection hok with hok
     subst hok
     cases hs with
     | slcNil h => exact .slcNil hsm
     | slc h hb => simp only [Option.map_some,zen,zdc]; exact .slc hsm hb
     | slcOpen hb h => simp only [Option.map_some,zen,zdc]; exact .slc hsm hb
     | slcLoose hb h => simp only [Option.map_some,zen,zdc]; exact .slc hsm hb
     | slcNone =>
      have := (c5 (show openCap ≤ looseCap by decide)).2
      simp at this
 ·have hmn := hm.none_inv
  subst hmn
  split at hok
  ·rename_i hopen
   have hlen := lens hopen
   split at hok
   ·simp at hok
   ·rename_i hc
    simp only [Bool.or_eq_true,decide_eq_true_eq,not_or] at hc
    refine ⟨bl.getD 0,bh.getD len,cap',zgC E.P isS len cap' hl hh w (by omega) (by omega),?_⟩
    split at hok
    ·rename_i e
     injection hok with hok
     subst hok
     rw [e]
     have : (if cap' = 0 then ra else ra.map (·.add (0 * ei.size))) = ra := by
      split
      ·rfl
      ·cases ra <;> simp [Addr.add]
     rw [this]
     simp only [Nat.sub_zero]
     cases hs with
     | slcNil h => omega
     | slc h hb => omega
     | slcOpen hb h => exact .slcOpen hb (by omega)
     | slcLoose hb h => exact .slcLoose hb (by omega)
     | slcNone => 
      have : bh.getD 0 = 0 := by omega
      rw [this]
      exact .slcNone _ _
    ·rename_i e
     split at hok
     ·rename_i e2
      injection hok with hok
      subst hok
      rw [if_neg (by omega)]
      cases hs with
      | slcNil h => omega
      | slc h hb => omega
      | slcOpen hb h => simp only [Option.map_some,zen,zdc]; exact .slcLoose hb (by omega)
      | slcLoose hb h => simp only [Option.map_some,zen,zdc]; exact .slcLoose hb (by omega)
      | slcNone => omega
     ·rename_i e2
      injection hok with hok
      subst hok
      have : bh.getD len - bl.getD 0 = 0 := by omega
      rw [this]
      exact .slcNone _ _
  ·rename_i hopen
   have hce := capeq (by omega)
   subst hce
   split at hok
   ·simp at hok
   ·rename_i hc
    simp only [Bool.or_eq_true,decide_eq_true_eq,not_or] at hc
    refine ⟨bl.getD 0,bh.getD len,cap',zgC E.P isS len cap' hl hh w (by omega) (by omega),?_⟩
    split at hok
    ·rename_i e
     rw [if_pos e]
     injection hok with hok
     subst hok
     cases hs with
     | slcNil h => exact .slcNil (by omega)
     | slc h hb => exact .slc (by omega) hb
     | slcOpen hb h => omega
     | slcLoose hb h => exact absurd (show openCap ≤ looseCap by decide) hopen
     | slcNone => exact absurd (show openCap ≤ looseCap by decide) hopen
    ·rename_i e
     rw [if_neg e]
     injection hok with hok
     subst hok
     cases hs with
     | slcNil h => exact .slcNil (by omega)
     | slc h hb => simp only [Option.map_some,zen,zdc]; exact .slc (by omega) hb
     | slcOpen hb h => omega
     | slcLoose hb h => exact absurd (show openCap ≤ looseCap by decide) hopen
     | slcNone => exact absurd (show openCap ≤ looseCap by decide) hopen

end Go.Sim

namespace Go.Sim
variable {E : Env}

theorem zrG {x : Option Operand} {ev : Ev} (h : x.map ev = none) : x = none := by cases x <;> simp_all

theorem zsC (s : ByteArray) (l g : Nat) : s.extract l g = ⟨((s.data.toList.drop l).take (g - l)).toArray⟩ := by
 apply ByteArray.ext
 apply Array.ext'
 simp [ByteArray.data_extract,List.take_drop]

theorem zCD (K : EnvOK E) {ρ : Ren} {h : SHeap} {w : World} (hw : WRel E ρ h w) {t : TypeId} {v u rv : Value} {lo hi mx : Option Operand} {ev : Ev} {eval : Operand → Value} (hev : zcb ρ ev eval) (hv : VRel ρ v rv)
  (hu : upS E h t v (lo.map ev) (hi.map ev) (mx.map ev) = some u) : ∃ ru,VRel ρ u ru ∧ (Instr.sliceAt t rv (lo.map eval) (hi.map eval) (mx.map eval)).run E.P w = .ok ru w := by
 unfold upS at hu
 split at hu
 ·rename_i b len c hh hl hg hm
  have rl := zeg hev hl
  have rh := zeg hev hg
  have hmn : mx = none := by cases mx with | none => rfl | some m => simp at hm
  subst hmn
  cases hc : Nat.beq c openCap with
  | false => rw [hc] at hu; simp at hu
  | true =>
   rw [hc,cond_true] at hu
   obtain rfl := Nat.eq_of_beq_eq_true hc
   split at hu
   ·rename_i elem b1 b2 b3 cs n el ro ht hb
    split at hu
    ·rename_i ei hel
     cases hcd : (Nat.blt 0 ei.size && Nat.beq el elem && Nat.ble (hh * ei.size) n) with
     | false => rw [hcd] at hu; simp at hu
     | true =>
      rw [hcd,cond_true] at hu
      simp only [Bool.and_eq_true] at hcd
      obtain ⟨⟨c1,c2⟩,c3⟩ := hcd
      have c1 := zaH c1
      obtain rfl := Nat.eq_of_beq_eq_true c2
      have c3 := Nat.le_of_ble_eq_true c3
      injection hu with hu
      subst hu
      obtain ⟨r,κ,hbl,m,hm2⟩ := hw.live _ _ hb
      obtain ⟨ti,k1,k2⟩ := hm2.room rfl
      rw [hel] at k1
      obtain rfl := Option.some.inj k1
      have hle : hh ≤ κ := by
       have := hm2.le
       rw [k2] at this
       exact Nat.le_of_mul_le_mul_right (Nat.le_trans c3 this) c1
      have hrv : rv = .slice (some ⟨r,0,none⟩) len κ := by
       cases hv with
       | slc h => omega
       | slcOpen h _ => rw [hbl] at h; obtain ⟨rfl,rfl⟩ : r = _ ∧ κ = _ := (by simpa using h); rfl
      subst hrv
      have hrun := zgC E.P true len κ rl rh w (by simpa using hle) (by simp)
      refine ⟨.slice (some ⟨r,0,none⟩) hh κ,.slcOpen hbl hle,?_⟩
      unfold Instr.sliceAt
      simp only [Sem.run_bind,K.und ht w,Result.andThen_ok]
      unfold Instr.slice
      simp only [Sem.run_bind,K.und ht w,Result.andThen_ok,Sem.run_pure,Option.map_none,hrun,K.sizeOf hel w]
      simp [Addr.add]
    ·simp at hu
   ·simp at hu
 ·simp at hu

theorem zpv (K : EnvOK E) (t : TypeId) (x : Operand) (lo hi mx : Option Operand) : zdu E (zeo t x lo hi mx) (.slice t x lo hi mx) := by
 intro ev eval ρ h w o n h' ho hev hw hok
 unfold zeo zho at hok
 split at hok
 ·rename_i s hx
  have he := (hev x _ hx).str_inv
  split at hok
  ·rename_i b1 b2 b3 l g ht hl hg hm
   have hmn := zrG hm
   subst hmn
   split at hok
   cases hc : (Nat.ble (l.getD 0) (g.getD s.data.toList.length) && Nat.ble (g.getD s.data.toList.length) s.data.toList.length) with
   | false => rw [hc] at hok; simp at hok
   | true =>
    rw [hc,cond_true] at hok
    simp only [Bool.and_eq_true] at hc
    have h1 := zdo hc.1
    have h2 := zdo hc.2
    obtain ⟨rfl,rfl⟩ := zas hok
    rw [zhL ho,he]
    rw [← zhp] at h1 h2
    have hrun := zgC E.P false s.size s.size (zeg hev hl) (zeg hev hg) w h2 h1
    have : (Instr.sliceAt t (.string s) (lo.map eval) (hi.map eval) ((none : Option Operand).map eval)).run E.P w = .ok (.string (s.extract (l.getD 0) (g.getD s.size))) w := by
     unfold Instr.sliceAt
     simp only [Sem.run_bind,K.und ht w,Result.andThen_ok]
     unfold Instr.slice
     simp only [Option.map_none,Option.isSome_none,Bool.false_eq_true,if_false,Sem.run_bind,K.und ht w,Result.andThen_ok,Sem.run_pure,hrun]
    rw [zay _ _ _ _ _ this,zsC,zhp]
    exact .val (.string _)
  ·refine zef hev o hok fun e1 e2 he => ?_
   have hm : ∀ y : Option Operand,(∀ z,y = some z → z ∈ o.op.operands.toList) → y.map e1 = y.map e2 := by
    intro y hy
    cases y with
    | none => rfl
    | some z => simp only [Option.map_some,he z (hy z rfl)]
   rw [zhL ho,zhL ho,he x (by rw [ho]; simp [Op.operands]),hm lo (by rintro z rfl; rw [ho]; simp [Op.operands]),hm hi (by rintro z rfl; rw [ho]; simp [Op.operands]),hm mx (by rintro z rfl; rw [ho]; simp [Op.operands])]
 ·rename_i v hns hx
  split at hok
  ·rename_i u hu
   obtain ⟨rfl,rfl⟩ := zas hok
   unfold zrn at hu
   split at hu
   ·rename_i bl bh bm hl hh hm
    have rl := zeg hev hl
    have rh := zeg hev hh
    have rm := zeg hev hm
    have hvr := hev x _ hx
    rw [zhL ho]
    split at hu
    ·rename_i k elem b1 b2 b3 a ht
     cases hb : Nat.blt k openCap with
     | false => rw [hb] at hu; simp at hu
     | true =>
      rw [hb,cond_true] at hu
      obtain ⟨r,κ,hbl,hsp,he⟩ := hvr.ptr_inv
      obtain ⟨b,of,sp⟩ := a
      simp only at hsp hbl he
      subst hsp
      cases hel : E.T elem with
      | none => unfold zfq at hu; rw [hel] at hu; simp at hu
      | some ei =>
       obtain ⟨l,g,m,hrun,hres⟩ := zjA (w := w) (isS := false) hel (.slc (l := k) (zaH hb) hbl) hu rl rh rm
       have : (Instr.sliceAt t (eval x) (lo.map eval) (hi.map eval) (mx.map eval)).run E.P w = .ok (.slice (if m = l then some ⟨r,of,none⟩ else (some (⟨r,of,none⟩ : Addr)).map (·.add (l * ei.size))) (g - l) (m - l)) w := by
        unfold Instr.sliceAt
        simp only [Sem.run_bind,K.und ht w,Result.andThen_ok,he,Instr.sureAddr,Sem.run_pure,hrun,K.sizeOf hel w]
        split <;> rfl
       rw [zay _ _ _ _ _ this]
       exact .val hres
    ·rename_i elem b1 b2 b3 a len cap ht
     have : ∃ ra cap',eval x = .slice ra len cap' := by
      revert hvr; generalize eval x = e; intro hvr
      cases hvr <;> exact ⟨_,_,rfl⟩
     obtain ⟨ra,cap',he⟩ := this
     rw [he] at hvr
     cases hel : E.T elem with
     | none => unfold zfq at hu; rw [hel] at hu; simp at hu
     | some ei =>
      obtain ⟨l,g,m,hrun,hres⟩ := zjA (w := w) (isS := true) hel hvr hu rl rh rm
      have : (Instr.sliceAt t (eval x) (lo.map eval) (hi.map eval) (mx.map eval)).run E.P w = .ok (.slice (if m = l then ra else ra.map (·.add (l * ei.size))) (g - l) (m - l)) w := by
       unfold Instr.sliceAt
       simp only [Sem.run_bind,K.und ht w,Result.andThen_ok,he]
       unfold Instr.slice
       simp only [Sem.run_bind,K.und ht w,Result.andThen_ok,Sem.run_pure,hrun,K.sizeOf hel w]
      rw [zay _ _ _ _ _ this]
      exact .val hres
    ·rename_i arr b1 b2 b3 a ht
     split at hu
     ·rename_i k elem c1 c2 c3 hta
      cases hb : Nat.blt k openCap with
      | false => rw [hb] at hu; simp at hu
      | true =>
       rw [hb,cond_true] at hu
       obtain ⟨r,κ,hbl,hsp,he⟩ := hvr.ptr_inv
       obtain ⟨b,of,sp⟩ := a
       simp only at hsp hbl he
       subst hsp
       cases hel : E.T elem with
       | none => unfold zfq at hu; rw [hel] at hu; simp at hu
       | some ei =>
        obtain ⟨l,g,m,hrun,hres⟩ := zjA (w := w) (isS := false) hel (.slc (l := k) (zaH hb) hbl) hu rl rh rm
        have : (Instr.sliceAt t (eval x) (lo.map eval) (hi.map eval) (mx.map eval)).run E.P w = .ok (.slice (if m = l then some ⟨r,of,none⟩ else (some (⟨r,of,none⟩ : Addr)).map (·.add (l * ei.size))) (g - l) (m - l)) w := by
         unfold Instr.sliceAt
         simp only [Sem.run_bind,K.und ht w,Result.andThen_ok,he]
         unfold Instr.slice
         simp only [Sem.run_bind,K.und ht w,Result.andThen_ok,asAddr,Sem.run_pure,K.und hta w,hrun,K.sizeOf hel w]
         split <;> rfl
        rw [zay _ _ _ _ _ this]
        exact .val hres
     ·simp at hu
    ·simp at hu
   ·simp at hu
  ·split at hok
   ·rename_i u hu
    obtain ⟨rfl,rfl⟩ := zas hok
    obtain ⟨ru,hr,hrun⟩ := zCD K hw hev (hev x _ hx) hu
    rw [zhL ho,zay _ _ _ _ _ hrun]
    exact .val hr
   ·simp at hok
 ·simp at hok

end Go.Sim

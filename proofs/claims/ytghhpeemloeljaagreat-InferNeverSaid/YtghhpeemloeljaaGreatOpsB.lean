/- The simulator's operations, each held against the model's: new slices, values built of parts. The simulator's operations, each held against the model's: values built of parts. The simulator's operations, each held against the model's: structs, arrays and slices built of parts. The simulator's operations, each held against the model's: operators with two operands. Numbers that hang on two unknown ones: what the simulator does with them is right. The simulator's operations, each held against the model's: operators with two operands, put together. The simulator's operations, each held against the model's: slicing. The simulator's operations, each held against the model's: slicing, put together. The simulator's operations, each held against the model's: the operation 'slice'. -/
import Derived.Test.YtghhpeemloeljaaGreatOpsA
import Derived.Laws.MakeOwn
import Derived.Laws.Tables
import Derived.Laws.Strings
import Derived.Laws.Concat
set_option linter.unusedVariables false
set_option linter.unusedSimpArgs false
namespace Go.Sim
variable {E:Env}
theorem zfZ {α:Type} (l:List α) (hl:0<l.length):∀ (c i:Nat),(List.replicate c l).flatten.length=c*l.length∧(i<c*l.length→(List.replicate c l).flatten[i]? = l[i%l.length]?)
 | 0,i=>by simp
 | c+1,i=>by
  obtain ⟨h1,h2⟩:=zfZ l hl c (i-l.length)
  refine ⟨by simp,fun hi => ?_⟩
  rw [List.replicate_succ,List.flatten_cons]
  by_cases h:i<l.length
  ·rw [List.getElem?_append_left h,Nat.mod_eq_of_lt h]
  ·have hi':i<c*l.length+l.length:=by rw [Nat.succ_mul] at hi; exact hi
   rw [List.getElem?_append_right (by omega),h2 (by omega),Nat.mod_eq_sub_mod (show i≥l.length by omega)]
theorem zkN {ρ:Ren} (z:Array Value) (hz:∀ v∈z.toList,VRel ρ v v) (c:Nat):LRel ρ (List.replicate c z.toList).flatten (madeCells z (c*z.size)).toList:=by
 by_cases h0:0<z.toList.length
 ·refine ⟨by rw [(zfZ z.toList h0 c 0).1]; simp [madeCells],fun i v w hv hw => ?_⟩
  have hi:i<c*z.toList.length:=by
   rcases Nat.lt_or_ge i (c*z.toList.length) with h | h
   ·exact h
   ·rw [List.getElem?_eq_none (by rw [(zfZ z.toList h0 c 0).1]; exact h)] at hv; simp at hv
  rw [(zfZ z.toList h0 c i).2 hi] at hv
  have hi':i<c*z.size:=by simpa using hi
  have hm:i%z.size<z.size:=Nat.mod_lt _ (by simpa using h0)
  have e2:(madeCells z (c*z.size)).toList[i]? = some z[i%z.size]:=by
   simp [madeCells,hi',hm]
  have e1:z.toList[i%z.toList.length]? = some z[i%z.size]:=by
   simp [hm]
  rw [e1] at hv
  rw [e2] at hw
  obtain rfl:=Option.some.inj hv
  obtain rfl:=Option.some.inj hw
  exact hz _ (by simp)
 ·have:z = #[]:=by
   apply Array.eq_empty_of_size_eq_zero; simp at h0; simp [h0]
  subst this
  refine ⟨by simp [madeCells],fun i v w hv hw => ?_⟩
  simp at hv
theorem zrS (K:EnvOK E) (t:TypeId) (l c:Operand):zdN E (zhe t l c) (.makeSlice t l c):=by
 intro ev eval ρ h w o n h' ho hev hw hok
 unfold zhe zjF at hok
 split at hok
 ·rename_i elem b1 b2 b3 ln cn ht hl hc
  split at hok
  ·rename_i d size bytes z hel
   split at hok
   ·simp at hok
   ·rename_i hg
    simp only [Bool.or_eq_true,decide_eq_true_eq,not_or,Nat.not_lt] at hg
    obtain ⟨rfl,rfl⟩:=zaq hok
    obtain ⟨kl,hle⟩:=zeD hev hl
    obtain ⟨kc,hce⟩:=zeD hev hc
    obtain ⟨i,hi,hs,hby,hz⟩:=K.info hel
    simp only at hs hby hz
    rw [zme ho,hle,hce]
    have hbb:(i.bytes:Int)*(Int.ofNat cn)≤281474976710656:=by
     rw [hby]
     show (bytes:Int)*(cn:Int)≤281474976710656
     rw [← Int.natCast_mul]
     have:=hg.1.2
     omega
    have hcc:(Int.ofNat cn)≤9223372036854775807:=by
     show (cn:Int)≤9223372036854775807
     omega
    have hlc:Int.ofNat ln≤Int.ofNat cn:=Int.ofNat_le.2 hg.1.1
    have hrun:=run_make (P:=E.P) w t elem i z (K.type _ _ ht).2.1 hi (hz _ rfl) kl kc (Int.ofNat ln) (Int.ofNat cn) (Int.natCast_nonneg _) hlc hbb hcc
    rw [zaw _ _ _ _ _ hrun]
    have hzr:=K.zeroRel hel (z:=z) rfl ρ
    have hsz:z.cells.size=i.size:=by rw [hs]; exact hzr.2.1
    have hm:=zkN (ρ:=ρ) z.cells (fun v hv=>(hzr.2.2 v hv).1) cn
    rw [hsz] at hm
    have hlen:=hm.len
    simp only [Array.length_toList] at hlen
    obtain ⟨h1,h2⟩:=zhT hw (List.replicate cn z.cells.toList).flatten (madeCells z.cells (cn*i.size)) elem false 0 w.drawn (by omega) (fun _=>by omega) (fun e=>by simp at e)
     (fun j v hv=>by obtain ⟨u,hu,hr⟩:=hm.some hv; exact ⟨u,by rw [← Array.getElem?_toList]; exact hu,hr⟩)
    refine ⟨_,_,_,.value (.slc (κ:=0) ?_ (by simp [upd])),h1,h2,rfl⟩
    have:=hg.2
    unfold openCap
    omega
  ·simp at hok
 ·simp at hok
end Go.Sim
namespace Go.Sim
variable {E:Env}
section
variable {ρ:Operand→Value} {o:Oper}
theorem ztr {t:TypeId} {ps:Array (Nat×Operand)} (ho:o.op=.build t ps):execOp ρ o=(do let v ← Instr.build t (ps.map fun (i,x)=>(i,ρ x)); pure (.value v)):=by unfold execOp; rw [ho]
theorem zlq {t:TypeId} {l:Nat} {ps:Array (Nat×Operand)} (ho:o.op=.buildSlice t l ps):execOp ρ o=(do let v ← Instr.buildSlice t l (ps.map fun (i,x)=>(i,ρ x)); pure (.value v)):=by unfold execOp; rw [ho]
end
theorem zsE (off:Nat):∀ (l:List Value) (k:Nat) (cs:Array Value),off+k+l.length≤cs.size →
  ((l.zipIdx k).foldl (fun cs (c,j)=>cs.setIfInBounds (off+j) c) cs).toList=cs.toList.take (off+k)++l++cs.toList.drop (off+k+l.length)
 | [],k,cs,_=>by simp
 | v::l,k,cs,h=>by
  simp only [List.length_cons] at h
  rw [List.zipIdx_cons,List.foldl_cons,zsE off l (k+1) _ (by simp; omega)]
  refine List.ext_getElem? fun i => ?_
  have hs:cs.toList.length=cs.size:=by simp
  simp only [List.append_assoc,List.length_cons,Array.toList_setIfInBounds]
  simp only [List.getElem?_append,List.length_take,List.length_set,List.getElem?_take,List.getElem?_drop,List.getElem?_set,List.length_cons]
  have e1:min (off+(k+1)) cs.toList.length=off+k+1:=by omega
  have e2:min (off+k) cs.toList.length=off+k:=by omega
  rw [e1,e2]
  by_cases h1:i<off+k
  ·rw [if_pos (by omega),if_pos (by omega),if_pos h1,if_pos h1,if_neg (by omega)]
  ·by_cases h2:i=off+k
   ·subst h2
    rw [if_pos (by omega),if_pos (by omega),if_pos rfl,if_pos (by omega),if_neg (by omega),if_pos (by omega)]
    simp
   ·rw [if_neg (by omega),if_neg h1]
    by_cases h3:i-(off+k)<l.length+1
    ·rw [if_pos (by omega),if_pos h3]
     have:i-(off+k)=(i-(off+k+1))+1:=by omega
     rw [this,List.getElem?_cons_succ]
    ·rw [if_neg (by omega),if_neg h3,if_neg (by omega)]
     congr 1
     omega
theorem ziU {ρ:Ren} (place:Nat→Option (Nat×Nat)) (n:Nat):∀ (ps qs:List (Nat×Value)) (cs:List Value) (ds:Array Value) (out:List Value),
  ps.length=qs.length→(∀ (i:Nat) (p q:Nat×Value),ps[i]? = some p→qs[i]? = some q→p.1=q.1∧VRel ρ p.2 q.2)→cs.length=n→LRel ρ cs ds.toList →
  zgW place n cs ps=some out→∃ eo,Instr.fill place ds qs=some eo∧LRel ρ out eo.toList
 | [],[],cs,ds,out,_,_,_,hl,hf=>by
  simp only [zgW,Option.some.injEq] at hf
  subst hf
  exact ⟨ds,rfl,hl⟩
 | [],_::_,_,_,_,h,_,_,_,_=>by simp at h
 | _::_,[],_,_,_,h,_,_,_,_=>by simp at h
 | (i,v)::ps,(j,u)::qs,cs,ds,out,hlen,hg,hn,hl,hf=>by
  obtain ⟨hij,hvu⟩:=hg 0 _ _ rfl rfl
  simp only at hij hvu
  subst hij
  have hg':∀ (k:Nat) (p q:Nat×Value),ps[k]? = some p→qs[k]? = some q→p.1=q.1∧VRel ρ p.2 q.2:=fun k p q hp hq=>hg (k+1) p q (by simpa using hp) (by simpa using hq)
  have hlen':ps.length=qs.length:=by simpa using hlen
  simp only [zgW] at hf
  split at hf
  ·simp at hf
  ·rename_i off size hp
   cases hc:(Nat.beq v.cells.toList.length size&&Nat.ble (off+size) n) with
   | false=>rw [hc] at hf; simp at hf
   | true=>
    rw [hc,cond_true] at hf
    simp only [Bool.and_eq_true,zaF,decide_eq_true_eq] at hc
    have h1:=hc.1
    have h2:=zdA hc.2
    have hcl:=hvu.cells
    have hl1:=hcl.len
    have hl2:=hl.len
    have hds:ds.size=n:=by simp at hl2; omega
    have hus:u.cells.size=size:=by simp at hl1 h1; omega
    have hnew:∀ ds',ds'=u.cells.zipIdx.foldl (fun cs (c,j)=>cs.setIfInBounds (off+j) c) ds→ds'.toList=ds.toList.take off++u.cells.toList++ds.toList.drop (off+size):=by
     rintro ds' rfl
     rw [← Array.foldl_toList,Array.toList_zipIdx,zsE off u.cells.toList 0 ds (by simp; omega)]
     simp [hus]
    have hres:LRel ρ (cs.take off++v.cells.toList++cs.drop (off+size)) (u.cells.zipIdx.foldl (fun cs (c,j)=>cs.setIfInBounds (off+j) c) ds).toList:=by
     rw [hnew _ rfl]
     exact ((hl.take off).append hcl).append (hl.drop (off+size))
    have hf':zgW place n (cs.take off++v.cells.toList++cs.drop (off+size)) ps=some out:=by
     cases hb:(Nat.beq off 0&&Nat.beq size n) with
     | false=>rw [hb,cond_false] at hf; exact hf
     | true=>
      rw [hb,cond_true] at hf
      simp only [Bool.and_eq_true,zaF,decide_eq_true_eq] at hb
      obtain ⟨rfl,rfl⟩:=hb
      rw [List.take_zero,List.drop_eq_nil_of_le (by omega)]
      simpa using hf
    obtain ⟨eo,he,hr⟩:=ziU place n ps qs _ _ out hlen' hg' (by simp at h1; simp; omega) hres hf'
    refine ⟨eo,?_,hr⟩
    simp only [Instr.fill,hp]
    rw [if_neg (by rw [hus,hds]; simp; omega)]
    exact he
theorem zgn {ρ:Ren} {ev:Ev} {eval:Operand→Value} (hev:zcE ρ ev eval):∀ (xs:List (Nat×Operand)) (ps:List (Nat×Value)),zaN ev xs=some ps →
  ps.length=(xs.map fun (i,x)=>(i,eval x)).length∧∀ (i:Nat) (p q:Nat×Value),ps[i]? = some p→(xs.map fun (i,x)=>(i,eval x))[i]? = some q→p.1=q.1∧VRel ρ p.2 q.2
 | [],ps,h=>by simp [zaN] at h; subst h; simp
 | (i,x)::r,ps,h=>by
  simp only [zaN] at h
  cases hx:ev x with
  | none=>rw [hx] at h; simp at h
  | some v=>
   rw [hx] at h
   cases hr:zaN ev r with
   | none=>rw [hr] at h; simp at h
   | some l=>
    rw [hr] at h
    simp only [Option.some.injEq] at h
    subst h
    obtain ⟨h1,h2⟩:=zgn hev r l hr
    refine ⟨by simp only [List.length_cons,List.map_cons,h1],fun k p q hp hq => ?_⟩
    cases k with
    | zero=>simp at hp hq; subst hp hq; exact ⟨rfl,hev x v hx⟩
    | succ k=>exact h2 k p q (by simpa using hp) (by simpa using hq)
end Go.Sim
namespace Go.Sim
variable {E:Env}
theorem znB (K:EnvOK E):∀ (fs:List Field) (ps:List (Nat×Nat)),zhm E fs=some ps→fs.mapM (fun f=>(E.P.info? f.type).map fun i=>(f.offset,i.size))=some ps
 | [],ps,h=>by simp [zhm] at h; subst h; rfl
 | f::r,ps,h=>by
  simp only [zhm] at h
  split at h
  ·simp at h
  ·rename_i ti ht
   split at h
   ·simp at h
   ·rename_i l hl
    simp only [Option.some.injEq] at h
    subst h
    obtain ⟨i,h1,h2,_⟩:=K.info ht
    simp [List.mapM_cons,h1,h2,znB K r l hl]
theorem zgK {eval:Operand→Value} (ps:Array (Nat×Operand)):(ps.map fun (i,x)=>(i,eval x)).toList=ps.toList.map fun (i,x)=>(i,eval x):=by rw [Array.toList_map]
theorem zrH (K:EnvOK E) (t:TypeId) (ps:Array (Nat×Operand)):zdJ E (zbC t ps) (.build t ps):=by
 intro ev eval ρ h w o n h' ho hev hw hok
 unfold zbC zfw at hok
 split at hok
 ·rename_i fields b1 b2 z parts ht hp
  obtain ⟨g1,g2⟩:=zgn hev _ _ hp
  split at hok
  ·rename_i places hpl
   split at hok
   ·rename_i cs hf
    obtain ⟨rfl,rfl⟩:=zaq hok
    have hz:=K.zeroRel ht (z:=z) rfl ρ
    obtain ⟨eo,he,hr⟩:=ziU (ρ:=ρ) (places[·]?) z.cells.size parts _ z.cells.toList z.cells cs g1 g2 (by simp) ⟨rfl,fun i v w hv hw=>by rw [hv] at hw; obtain rfl:=Option.some.inj hw; exact (hz.2.2 v (List.mem_of_getElem? hv)).1⟩ hf
    obtain ⟨i,h1,_,_,h4⟩:=K.info ht
    have h4:=h4 z rfl
    have hb:E.P.built t (ps.map fun (i,x)=>(i,eval x)).toList=some eo:=by
     unfold Program.built
     rw [h1,(K.type _ _ ht).2.1]
     simp only [h4,znB K _ _ hpl,zgK]
     simpa using he
    rw [ztr ho,zaw _ _ _ _ _ (run_build w t _ eo hb)]
    exact .val (.agg' (by simpa using hr))
   ·simp at hok
  ·simp at hok
 ·rename_i ln elem b1 b2 z parts ht hp
  obtain ⟨g1,g2⟩:=zgn hev _ _ hp
  split at hok
  ·rename_i ei hei
   split at hok
   ·rename_i cs hf
    obtain ⟨rfl,rfl⟩:=zaq hok
    have hz:=K.zeroRel ht (z:=z) rfl ρ
    obtain ⟨eo,he,hr⟩:=ziU (ρ:=ρ) (fun i=>some (i*ei.size,ei.size)) z.cells.size parts _ z.cells.toList z.cells cs g1 g2 (by simp) ⟨rfl,fun i v w hv hw=>by rw [hv] at hw; obtain rfl:=Option.some.inj hw; exact (hz.2.2 v (List.mem_of_getElem? hv)).1⟩ hf
    obtain ⟨i,h1,_,_,h4⟩:=K.info ht
    have h4:=h4 z rfl
    obtain ⟨i',h1',h2',_⟩:=K.info hei
    have hb:E.P.built t (ps.map fun (i,x)=>(i,eval x)).toList=some eo:=by
     unfold Program.built
     rw [h1,(K.type _ _ ht).2.1]
     simp only [h4,h1',h2',zgK]
     exact he
    rw [ztr ho,zaw _ _ _ _ _ (run_build w t _ eo hb)]
    exact .val (.agg' (by simpa using hr))
   ·simp at hok
  ·simp at hok
 ·simp at hok
theorem zqO (K:EnvOK E) (t:TypeId) (len:Nat) (ps:Array (Nat×Operand)):zdN E (zcG t len ps) (.buildSlice t len ps):=by
 intro ev eval ρ h w o n h' ho hev hw hok
 unfold zcG zfN at hok
 split at hok
 ·rename_i elem b1 b2 b3 parts ht hp
  obtain ⟨g1,g2⟩:=zgn hev _ _ hp
  split at hok
  ·rename_i d size bytes z hel
   split at hok
   ·simp at hok
   ·rename_i hlong
    simp only [Bool.or_eq_true,decide_eq_true_eq,not_or] at hlong
    split at hok
    ·rename_i cs hf
     obtain ⟨rfl,rfl⟩:=zaq hok
     have hz:=K.zeroRel hel (z:=z) rfl ρ
     have hsz:z.cells.size=size:=hz.2.1
     have hm:=zkN (ρ:=ρ) z.cells (fun v hv=>(hz.2.2 v hv).1) len
     rw [hsz] at hm
     have hl0:(List.replicate len z.cells.toList).flatten.length=len*size:=by rw [hm.len]; simp [madeCells]
     obtain ⟨eo,he,hr⟩:=ziU (ρ:=ρ) (fun i=>some (i*size,size)) (len*size) parts _ _ _ cs g1 g2 hl0 hm hf
     rw [zlq ho]
     have hrun:(Instr.buildSlice t len (ps.map fun (i,x)=>(i,eval x))).run E.P w=.ok (.slice (some ⟨w.heap.size,0,none⟩) len len) { w with heap:=w.heap.push (.cells eo elem),drawn:=w.drawn }:=by
      unfold Instr.buildSlice
      have hs:(Go.sizeOf elem).run E.P w=.ok size w:=K.sizeOf hel w
      simp only [Sem.run_bind,K.und ht w,Result.andThen_ok,hs,if_neg hlong.1]
      by_cases h0:len*size=0
      ·rw [h0] at he
       simp only [h0,if_true,Sem.run_pure,Result.andThen_ok]
       have e0:madeCells z.cells 0 = #[]:=by simp [madeCells,Array.range_zero']
       rw [e0] at he
       rw [zgK]
       simp [he,newRow,Array.range_zero']
      ·simp only [h0,if_false,Sem.run_bind,K.zero hel rfl w,Sem.run_pure,Result.andThen_ok]
       rw [zgK]
       unfold madeCells at he
       simp [he,newRow]
     rw [zaw _ _ _ _ _ hrun]
     have hlen:=hr.len
     simp only [Array.length_toList] at hlen
     obtain ⟨h1,h2⟩:=zhT hw cs eo elem false 0 w.drawn (by omega) (fun _=>by omega) (fun e=>by simp at e)
      (fun j v hv=>by obtain ⟨u,hu,hr⟩:=hr.some hv; exact ⟨u,by rw [← Array.getElem?_toList]; exact hu,hr⟩)
     refine ⟨_,_,_,.value (.slc (κ:=0) ?_ (by simp [upd])),h1,h2,rfl⟩
     have:=hlong.2
     unfold openCap
     omega
    ·simp at hok
  ·simp at hok
 ·simp at hok
end Go.Sim
namespace Go.Sim
variable {E:Env}
theorem znv {P:Program} (op:BinOp) {t:TypeId} (x y:Operand) (a b:Array Value) (h:P.eqGuardType P.depth t=false) (w:World) :
  (eqGuard op t x y (.agg a) (.agg b)).run P w=.ok () w:=by
 unfold eqGuard
 cases op<;>simp [h]
theorem zdw {ρ:Ren} {ev:Ev} {eval:Operand→Value} (hev:zcE ρ ev eval) {h:SHeap} {w:World} (hw:WRel E ρ h w) {o:Oper} {n:SNext} {h':SHeap} {op:BinOp} {t u:TypeId} {x y:Operand}
  (ho:o.op=.binOp op t x y u) (hok:zbZ E.P ev o h=.ok (n,h')):zfh ρ h w n h' ((execOp eval o).run E.P w):=by
 refine zeA hev o hok fun e1 e2 he => ?_
 rw [zkx ho,zkx ho,he x (by rw [ho]; simp [Op.operands]),he y (by rw [ho]; simp [Op.operands])]
theorem zdn {ρ:Ren} {eval:Operand→Value} {h:SHeap} {w:World} (hw:WRel E ρ h w) {o:Oper} {op:BinOp} {t u:TypeId} {x y:Operand} (ho:o.op=.binOp op t x y u) {v:Value}
  (hg:(eqGuard op t x y (eval x) (eval y)).run E.P w=.ok () w) (hb:(binOp op t (eval x) (eval y)).run E.P w=.ok v w) (hv:VRel ρ v v):zfh ρ h w (.value v) h ((execOp eval o).run E.P w):=by
 rw [zkx ho]
 have:(do eqGuard op t x y (eval x) (eval y); binOp op t (eval x) (eval y)).run E.P w=.ok v w:=by
  rw [Sem.run_bind,hg]
  exact hb
 rw [zaw _ _ _ _ _ this]
 exact .val hv
theorem znf {ρ:Ren} {a:Option Addr} {u:Value} (h:VRel ρ (.pointer a) u):∃ b,u=.pointer b∧b.isNone=a.isNone:=by
 cases h with
 | ptrNil=>exact ⟨_,rfl,rfl⟩
 | ptr=>exact ⟨_,rfl,rfl⟩
theorem zmK {ρ:Ren} {a:Option Nat} {u:Value} (h:VRel ρ (.map a) u):∃ b,u=.map b∧b.isNone=a.isNone:=by
 cases h with
 | mapNil=>exact ⟨_,rfl,rfl⟩
 | map=>exact ⟨_,rfl,rfl⟩
theorem zmI {ρ:Ren} {a:Option Addr} {l c:Nat} {u:Value} (h:VRel ρ (.slice a l c) u) (hc:a.isNone=true→c<openCap):∃ b l' c',u=.slice b l' c'∧b.isNone=a.isNone:=by
 cases h with
 | slcNil=>exact ⟨_,_,_,rfl,rfl⟩
 | slc=>exact ⟨_,_,_,rfl,rfl⟩
 | slcOpen=>exact ⟨_,_,_,rfl,rfl⟩
 | slcLoose=>exact ⟨_,_,_,rfl,rfl⟩
 | slcNone=>exact absurd (hc rfl) (by decide)
theorem zAk {ti:Option TI} (h:zsg ti=true):∃ i,ti=some i∧i.size≠0:=by
 unfold zsg at h
 split at h
 ·rename_i i
  refine ⟨i,rfl,fun e => ?_⟩
  rw [e] at h
  simp at h
 ·simp at h
structure EqOK (E:Env) (t:TypeId) (u v:Value) (r:Bool) (w:World):Prop where
 eq:(Op.equal t u v).run E.P w=.ok r w
 eql:binOp .eql t u v=(do pure (.bool (← Op.equal t u v)))
 neq:binOp .neq t u v=(do pure (.bool (!(← Op.equal t u v))))
 guard:∀ op x y,(eqGuard op t x y u v).run E.P w=.ok () w
theorem zot (P:Program) (r o q:Nat) (w:World):(sameAddr ⟨r,o,none⟩ ⟨r,q,none⟩).run P w=.ok (Nat.beq o q) w:=by
 unfold sameAddr
 simp only [beq_self_eq_true,if_true,Sem.run_pure]
 congr 1
 rw [Bool.eq_iff_iff]
 simp
theorem zCI (K:EnvOK E) {ρ:Ren} {t:TypeId} {ti:TI} (ht:E.T t=some ti) {d:TypeDesc} (hd:ti.desc=d) {a b u v:Value} {r:Bool} (h:zwx E d a b=some r) (ha:VRel ρ a u) (hb:VRel ρ b v) (w:World) :
  EqOK E t u v r w:=by
 have hu:=K.und ht w
 rw [hd] at hu
 unfold zwx at h
 split at h
 · -- pointer nil,pointer
  obtain ⟨p,rfl,hp⟩:=znf ha
  obtain ⟨q,rfl,hq⟩:=znf hb
  simp at hp
  subst hp
  simp only [Option.some.injEq] at h
  refine ⟨?_,rfl,rfl,fun op x y=>by cases op<;>rfl⟩
  unfold Op.equal Op.maxDepth Op.equalIn
  simp only [Sem.run_bind,hu,Result.andThen_ok]
  rw [← h,← hq]
  rfl
 ·obtain ⟨p,rfl,hp⟩:=znf ha
  obtain ⟨q,rfl,hq⟩:=znf hb
  cases p with
  | none=>simp at hp
  | some p=>
   simp at hq
   subst hq
   simp only [Option.some.injEq] at h
   refine ⟨?_,rfl,rfl,fun op x y=>by cases op<;>rfl⟩
   unfold Op.equal Op.maxDepth Op.equalIn
   simp only [Sem.run_bind,hu,Result.andThen_ok]
   rw [← h]
   rfl
 ·rename_i e a b
  cases hc:(Nat.beq a.block b.block&&zsg (E.T e)) with
  | false=>rw [hc] at h; simp at h
  | true=>
   rw [hc,cond_true,Option.some.injEq] at h
   simp only [Bool.and_eq_true,zaF,decide_eq_true_eq] at hc
   obtain ⟨i,hi,hs⟩:=zAk hc.2
   obtain ⟨p,κ,h1,h2,rfl⟩:=ha.ptr_inv
   obtain ⟨q,κ',h3,h4,rfl⟩:=hb.ptr_inv
   rw [hc.1,h3] at h1
   obtain ⟨rfl,rfl⟩:q=p∧κ'=κ:=by simpa using h1
   refine ⟨?_,rfl,rfl,fun op x y=>by cases op<;>rfl⟩
   unfold Op.equal Op.maxDepth Op.equalIn
   simp only [Sem.run_bind,hu,Result.andThen_ok,K.sizeOf hi w,hs,ne_eq,not_false_eq_true,if_true,zot]
   rw [h]
 ·rename_i e l c b l' c'
  split at h
  ·simp at h
  ·rename_i hc
   split at h
   ·simp at h
   ·rename_i hn
    obtain ⟨p,_,_,rfl,hp⟩:=zmI ha (fun _=>by omega)
    obtain ⟨q,_,_,rfl,hq⟩:=zmI hb (fun e=>by simp only [e,Bool.true_and,decide_eq_true_eq] at hn; omega)
    simp at hp
    subst hp
    simp only [Option.some.injEq] at h
    refine ⟨?_,rfl,rfl,fun op x y=>by cases op<;>rfl⟩
    unfold Op.equal Op.maxDepth Op.equalIn
    simp only [Sem.run_bind,hu,Result.andThen_ok]
    rw [← h,← hq]
    rfl
 ·rename_i e a l c l' c'
  split at h
  ·simp at h
  ·rename_i hc
   obtain ⟨p,_,_,rfl,hp⟩:=zmI ha (fun e=>by simp at e)
   obtain ⟨q,_,_,rfl,hq⟩:=zmI hb (fun _=>by omega)
   cases p with
   | none=>simp at hp
   | some p=>
    simp at hq
    subst hq
    simp only [Option.some.injEq] at h
    refine ⟨?_,rfl,rfl,fun op x y=>by cases op<;>rfl⟩
    unfold Op.equal Op.maxDepth Op.equalIn
    simp only [Sem.run_bind,hu,Result.andThen_ok]
    rw [← h]
    rfl
 ·obtain ⟨p,rfl,hp⟩:=zmK ha
  obtain ⟨q,rfl,hq⟩:=zmK hb
  simp at hp
  subst hp
  simp only [Option.some.injEq] at h
  refine ⟨?_,rfl,rfl,fun op x y=>by cases op<;>rfl⟩
  unfold Op.equal Op.maxDepth Op.equalIn
  simp only [Sem.run_bind,hu,Result.andThen_ok]
  rw [← h,← hq]
  rfl
 ·obtain ⟨p,rfl,hp⟩:=zmK ha
  obtain ⟨q,rfl,hq⟩:=zmK hb
  cases p with
  | none=>simp at hp
  | some p=>
   simp at hq
   subst hq
   simp only [Option.some.injEq] at h
   refine ⟨?_,rfl,rfl,fun op x y=>by cases op<;>rfl⟩
   unfold Op.equal Op.maxDepth Op.equalIn
   simp only [Sem.run_bind,hu,Result.andThen_ok]
   rw [← h]
   rfl
 all_goals first
  | (simp at h; done)
  | (cases ha; cases hb; simp only [Option.some.injEq] at h; refine ⟨?_,rfl,rfl,fun op x y=>by cases op<;>rfl⟩; unfold Op.equal Op.maxDepth Op.equalIn; simp only [Sem.run_bind,hu,Result.andThen_ok]; rw [← h]; rfl)
theorem zuQ (P:Program) {r q o o':Nat} {cs ds:Array Value} {e f:TypeId} {w:World} (hr:w.heap[r]? = some (.cells cs e (0,0))) (hq:w.heap[q]? = some (.cells ds f (0,0))) (hne:r≠q) :
  (sameAddr ⟨r,o,none⟩ ⟨q,o',none⟩).run P w=.ok false w:=by
 have f1:∀ i,w.frozen? ⟨r,i,none⟩=false:=fun i=>by unfold World.frozen?; simp [hr]
 have f2:∀ i,w.frozen? ⟨q,i,none⟩=false:=fun i=>by unfold World.frozen?; simp [hq]
 have s1:w.shape? r=some (e,cs.size):=by unfold World.shape?; rw [hr]
 have s2:w.shape? q=some (f,ds.size):=by unfold World.shape?; rw [hq]
 unfold sameAddr
 simp [hne,frozen,Sem.run,f1,f2,noView,viewAt,mayBeOne,stringish,shape,s1,s2]
theorem zxk (K:EnvOK E) {ρ:Ren} {hh:SHeap} {w:World} (hw:WRel E ρ hh w) {t ta tb:TypeId} {ti:TI} (ht:E.T t=some ti) {ms:Array (String×TypeId)} (hd:ti.desc=.interface ms) {a b u v:Value} {r:Bool} (h:zqs E hh ta tb a b=some r)
  (ha:VRel ρ (.iface ta a) u) (hb:VRel ρ (.iface tb b) v):EqOK E t u v r w:=by
 have hu:=K.und ht w
 rw [hd] at hu
 obtain ⟨a',rfl,ha2⟩:=VRel.iface_inv ha
 obtain ⟨b',rfl,hb2⟩:=VRel.iface_inv hb
 unfold zqs at h
 cases hc:Nat.beq ta tb with
 | false=>
  rw [hc,cond_false,Option.some.injEq] at h
  subst h
  rw [zaF,decide_eq_false_iff_not] at hc
  refine ⟨?_,rfl,rfl,fun op x y=>by cases op<;>rfl⟩
  unfold Op.equal Op.maxDepth Op.equalIn
  simp only [Sem.run_bind,hu,Result.andThen_ok,ne_eq,hc,not_false_eq_true,if_true,Sem.run_pure]
 | true=>
  rw [hc,cond_true] at h
  rw [zaF,decide_eq_true_eq] at hc
  subst hc
  split at h
  ·rename_i x y
   split at h
   ·rename_i e vx vy hQ hx hy
    rw [Option.some.injEq] at h
    obtain ⟨k1,⟨i,k2,k3⟩,⟨j,k4,k5⟩⟩:=K.held _ _ hQ
    obtain ⟨p,κ,h1,rfl⟩:=ha2.chan_inv
    obtain ⟨q,κ',h3,rfl⟩:=hb2.chan_inv
    obtain ⟨p',κ1,e1,u1,f1,_,c1,_⟩:=hw.live _ _ hx
    obtain ⟨q',κ2,e2,u2,f2,_,c2,_⟩:=hw.live _ _ hy
    rw [h1] at e1
    rw [h3] at e2
    obtain ⟨rfl,rfl⟩:p=p'∧κ=κ1:=by simpa using e1
    obtain ⟨rfl,rfl⟩:q=q'∧κ'=κ2:=by simpa using e2
    have hsame:(sameAddr ⟨p,κ,none⟩ ⟨q,κ',none⟩).run E.P w=.ok r w:=by
     by_cases hpq:p=q
     ·subst hpq
      rw [zot,← h]
      by_cases hk:κ=κ'
      ·have:=hw.inj _ _ _ _ _ _ _ hx hy h1 h3 (.inr hk)
       subst this
       rw [Nat.beq_refl,hk]
       simp [zaF]
      ·have hxy:x≠y:=fun e=>by
        rw [e,h3] at h1
        simp only [Option.some.injEq,Prod.mk.injEq] at h1
        exact hk h1.2.symm
       have e:Nat.beq x y=false:=by rw [zaF,decide_eq_false_iff_not]; exact hxy
       have e':Nat.beq κ κ'=false:=by rw [zaF,decide_eq_false_iff_not]; exact hk
       rw [e,e']
     ·have hxy:x≠y:=fun e=>by
       rw [e,h3] at h1
       simp only [Option.some.injEq,Prod.mk.injEq] at h1
       exact hpq h1.1.symm
      rw [zuQ E.P c1 c2 hpq,← h]
      have e:Nat.beq x y=false:=by rw [zaF,decide_eq_false_iff_not]; exact hxy
      rw [e]
    refine ⟨?_,rfl,rfl,fun op x y=>by cases op<;>rfl⟩
    unfold Op.equal Op.maxDepth Op.equalIn
    simp only [Sem.run_bind,hu,Result.andThen_ok,ne_eq,not_true_eq_false,if_false]
    have hti:(typeInfo ta).run E.P w=.ok i w:=by simp [typeInfo,k2]
    simp only [hti,Result.andThen_ok,k3,Bool.not_true,Bool.false_eq_true,if_false]
    unfold Op.equalIn
    have hsz:(Go.sizeOf e).run E.P w=.ok j.size w:=by simp [Go.sizeOf,typeInfo,k4]
    simp only [Sem.run_bind,run_underlying k1,Result.andThen_ok,hsz,k5,ne_eq,not_false_eq_true,if_true,hsame]
   ·simp at h
  ·simp at h
end Go.Sim
namespace Go.Sim
theorem VRel.sym_inv {ρ:Ren} {re im:Nat} {w:Value} (h:VRel ρ (.complex .f64 re im) w):∃ κ,ρ 0=some (0,κ)∧zbH κ=true∧w=.int (zdy re im).k ((zdy re im).ev κ):=by
 cases h with | sym h0 hb=>exact ⟨_,h0,hb,rfl⟩
theorem VRel.arg_inv {ρ:Ren} {t s:Nat} {w:Value} (h:VRel ρ (.complex .f32 t s) w):∃ κ k m,ρ 0=some (0,κ)∧zbH κ=true∧zts κ t s k m∧w=.int k m:=by
 cases h with | arg h0 hb ha=>exact ⟨_,_,_,h0,hb,ha,rfl⟩
theorem zvR {b:Int} {n lo hi:Nat} (h1:lo≤n) (h2:n≤hi):ztM b lo hi≤b*Int.ofNat n∧b*Int.ofNat n≤zur b lo hi:=by
 cases b with
 | ofNat m=>
  have e1:=Nat.mul_le_mul_left m h1
  have e2:=Nat.mul_le_mul_left m h2
  have e:Int.ofNat m*Int.ofNat n=Int.ofNat (m*n):=rfl
  simp only [ztM,zur,e]
  exact ⟨Int.ofNat_le.2 e1,Int.ofNat_le.2 e2⟩
 | negSucc m=>
  have e1:=Nat.mul_le_mul_left (m+1) h1
  have e2:=Nat.mul_le_mul_left (m+1) h2
  have e:Int.negSucc m*Int.ofNat n = -Int.ofNat ((m+1)*n):=by
   rw [Int.negSucc_eq,Int.neg_mul]; rfl
  simp only [ztM,zur,e]
  constructor
  ·exact Int.neg_le_neg (Int.ofNat_le.2 e2)
  ·exact Int.neg_le_neg (Int.ofNat_le.2 e1)
theorem SyF.rng (f:SyF) {κ:Nat} (h:zbH κ=true):f.lo≤f.ev κ∧f.ev κ≤f.hi:=by
 simp only [zbH,Bool.and_eq_true] at h
 obtain ⟨⟨h1,h2⟩,h3⟩:=h
 have h1:=Nat.le_of_ble_eq_true h1
 have h2:=Nat.le_of_ble_eq_true h2
 have h3:=Nat.le_of_ble_eq_true h3
 obtain ⟨a1,a2⟩:=zvR (b:=f.b) (Nat.zero_le (κ%128)) h1
 obtain ⟨b1,b2⟩:=zvR (b:=f.c) h2 h3
 unfold SyF.lo SyF.hi SyF.ev
 constructor<;>omega
theorem zrv {k:IntKind} {lo hi n:Int} (h:zhC k lo hi=true) (h1:lo≤n) (h2:n≤hi):k.wrap n=n:=by
 unfold zhC at h
 split at h
 ·simp only [Bool.and_eq_true,decide_eq_true_eq] at h
  show (if (true&&decide (n%18446744073709551616≥9223372036854775808))=true then n%18446744073709551616-18446744073709551616 else n%18446744073709551616)=n
  rw [Bool.true_and]
  split
  ·rename_i q; have q:=of_decide_eq_true q; omega
  ·rename_i q; have q:¬ (n%18446744073709551616≥9223372036854775808):=fun e=>q (decide_eq_true e); omega
 ·simp only [Bool.and_eq_true,decide_eq_true_eq] at h
  show (if (false&&decide (n%256≥128))=true then n%256-256 else n%256)=n
  rw [Bool.false_and]
  simp only [Bool.false_eq_true,if_false]
  omega
 ·simp at h
theorem zqm {b m:Int} {n:Nat} (h:zlS b m=some n):Int.ofNat n=b+m ∧ -m<b∧b<m:=by
 unfold zlS at h
 cases q:(decide (-m<b)&&decide (b<m)) with
 | false=>rw [q] at h; simp at h
 | true=>
  rw [q,cond_true] at h
  simp only [Bool.and_eq_true,decide_eq_true_eq] at q
  split at h
  ·rename_i n' e
   obtain rfl:=Option.some.inj h
   exact ⟨e.symm,q⟩
  ·simp at h
theorem zzS {k:IntKind} {n:Nat} (h:zrT k=some n):n<2∧zDa n=k:=by
 cases k<;>simp [zrT] at h<;>subst h<;>exact ⟨by decide,rfl⟩
theorem SyF.val_sym {f:SyF} {k a b c:Nat} (hk:zrT f.k=some k) (ha:zlS f.a 1180591620717411303424=some a) (hbb:zlS f.b 549755813888=some b) (hcc:zlS f.c 549755813888=some c):zdy (a*2+k) (b+c*1099511627776)=f:=by
 obtain ⟨k1,k2⟩:=zzS hk
 obtain ⟨a1,a2,a3⟩:=zqm ha
 obtain ⟨b1,b2,b3⟩:=zqm hbb
 obtain ⟨c1,c2,c3⟩:=zqm hcc
 unfold zdy
 have e1:(a*2+k)%2=k:=by omega
 have e2:(a*2+k)/2=a:=by omega
 have lb:b<1099511627776:=by simp only [Int.ofNat_eq_natCast] at b1; omega
 have e3:(b+c*1099511627776)%1099511627776=b:=by omega
 have e4:(b+c*1099511627776)/1099511627776=c:=by omega
 rw [e1,e2,e3,e4,k2,Int.subNatNat_eq_coe,Int.subNatNat_eq_coe,Int.subNatNat_eq_coe]
 have q1:(a:Int)-((1180591620717411303424:Nat):Int)=f.a:=by have:(a:Int)=Int.ofNat a:=rfl; rw [this,a1]; omega
 have q2:(b:Int)-((549755813888:Nat):Int)=f.b:=by have:(b:Int)=Int.ofNat b:=rfl; rw [this,b1]; omega
 have q3:(c:Int)-((549755813888:Nat):Int)=f.c:=by have:(c:Int)=Int.ofNat c:=rfl; rw [this,c1]; omega
 rw [q1,q2,q3]
theorem SyF.val_ok {f:SyF} {v:Value} (h:f.val=some v) {ρ:Ren} {κ:Nat} (h0:ρ 0=some (0,κ)) (hb:zbH κ=true):VRel ρ v (.int f.k (f.ev κ))∧f.k.wrap (f.ev κ)=f.ev κ:=by
 unfold SyF.val at h
 obtain ⟨r1,r2⟩:=f.rng hb
 cases hf:zhC f.k f.lo f.hi with
 | false=>rw [hf] at h; simp at h
 | true=>
  rw [hf,cond_true] at h
  refine ⟨?_,zrv hf r1 r2⟩
  cases hc:(f.b==0&&f.c==0) with
  | true=>
   rw [hc,cond_true] at h
   obtain rfl:=Option.some.inj h
   simp only [Bool.and_eq_true,beq_iff_eq] at hc
   have e:f.ev κ=f.a:=by unfold SyF.ev; rw [hc.1,hc.2]; simp
   rw [e]
   exact .int _ _
  | false=>
   rw [hc,cond_false] at h
   split at h
   ·rename_i k a b c hk ha hbb hcc
    simp only [zaD] at h
    obtain rfl:=Option.some.inj h
    have e:=SyF.val_sym hk ha hbb hcc
    have:=VRel.sym (re:=a*2+k) (im:=b+c*1099511627776) h0 hb
    rw [e] at this
    exact this
   ·simp at h
theorem SyF.val_fits {f:SyF} {v:Value} (h:f.val=some v):zhC f.k f.lo f.hi=true:=by
 unfold SyF.val at h
 cases hf:zhC f.k f.lo f.hi with
 | false=>rw [hf] at h; simp at h
 | true=>rfl
theorem ziH {ρ:Ren} {κ:Nat} (h0:ρ 0=some (0,κ)) {v w:Value} {f:SyF} (h:zeX v=some f) (hr:VRel ρ v w):w=.int f.k (f.ev κ):=by
 unfold zeX at h
 split at h
 ·rename_i k n
  obtain rfl:=Option.some.inj h
  rw [hr.int_inv]
  simp [SyF.ev]
 ·rename_i re im
  obtain rfl:=Option.some.inj h
  obtain ⟨κ',k1,_,k2⟩:=hr.sym_inv
  rw [h0] at k1
  obtain rfl:κ=κ':=by simpa using k1
  exact k2
 ·simp at h
theorem zhs {ρ:Ren} {v w:Value} (h:zey v=true) (hr:VRel ρ v w):∃ κ,ρ 0=some (0,κ)∧zbH κ=true:=by
 unfold zey at h
 split at h
 ·rename_i k a b
  cases k with
  | f64=>obtain ⟨κ,a,b,_⟩:=hr.sym_inv; exact ⟨κ,a,b⟩
  | f32=>obtain ⟨κ,k,m,a,b,_⟩:=hr.arg_inv; exact ⟨κ,a,b⟩
 ·simp at h
theorem zzC (f g:SyF) (κ:Nat):(f.sub g).ev κ=f.ev κ-g.ev κ:=by
 unfold SyF.sub SyF.ev
 simp only [Int.sub_mul]
 omega
theorem zLk {f:SyF} {b:Bool} (h:f.neg? = some b) {κ:Nat} (hb:zbH κ=true):b=decide (f.ev κ<0):=by
 obtain ⟨r1,r2⟩:=f.rng hb
 unfold SyF.neg? at h
 cases q:decide (f.hi<0) with
 | true=>rw [q,cond_true] at h; obtain rfl:=Option.some.inj h; have:=of_decide_eq_true q; exact (decide_eq_true (by omega)).symm
 | false=>
  rw [q,cond_false] at h
  cases q':decide (0≤f.lo) with
  | true=>rw [q',cond_true] at h; obtain rfl:=Option.some.inj h; have:=of_decide_eq_true q'; exact (decide_eq_false (by omega)).symm
  | false=>rw [q'] at h; simp at h
theorem zij {f g:SyF} {b:Bool} (h:f.lt g=some b) {κ:Nat} (hb:zbH κ=true):b=decide (f.ev κ<g.ev κ):=by
 rw [zLk h hb,zzC]
 rcases Int.lt_or_le (f.ev κ) (g.ev κ) with q | q
 ·rw [decide_eq_true q,decide_eq_true (by omega)]
 ·rw [decide_eq_false (by omega),decide_eq_false (by omega)]
theorem zzG (k:IntKind) (f g:SyF) (κ:Nat):SyF.ev ⟨k,f.a+g.a,f.b+g.b,f.c+g.c⟩ κ=f.ev κ+g.ev κ:=by
 unfold SyF.ev
 simp only [Int.add_mul]
 omega
theorem zuE (k:IntKind) (f:SyF) (m:Int) (κ:Nat):SyF.ev ⟨k,f.a*m,f.b*m,f.c*m⟩ κ=f.ev κ*m:=by
 unfold SyF.ev
 simp only [Int.add_mul]
 rw [Int.mul_right_comm f.b m,Int.mul_right_comm f.c m]
theorem zkn {f:SyF} (h:zgt f=true) (κ:Nat):f.ev κ=f.a:=by
 unfold zgt at h
 simp only [Bool.and_eq_true,beq_iff_eq] at h
 unfold SyF.ev; rw [h.1,h.2]; simp
theorem zpP {a:Int} {m:Nat} {q:Int} (h:ztl a m=some q):a=q*Int.ofNat m:=by
 unfold ztl at h
 cases e:(a%Int.ofNat m==0) with
 | false=>rw [e] at h; simp at h
 | true=>
  rw [e,cond_true] at h
  obtain rfl:=Option.some.inj h
  exact (Int.ediv_mul_cancel (Int.dvd_of_emod_eq_zero (by simpa using e))).symm
theorem zlk {o:Option Bool} {v:Value} (h:zne o=some v):∃ b,o=some b∧v=.bool b:=by
 cases o with
 | none=>simp [zne] at h
 | some b=>exact ⟨b,rfl,(Option.some.inj h).symm⟩
theorem zvv {o:Option Bool} {b:Bool} (h:zux o=some b):o=some (!b):=by
 cases o with
 | none=>simp [zux] at h
 | some c=>simp only [zux,Option.some.injEq] at h; subst h; cases c<;>rfl
theorem zfs {f g:SyF} {o:Option Value} {v:Value} (h:zgY f g o=some v):f.k=g.k∧o=some v:=by
 unfold zgY at h
 cases q:decide (f.k=g.k) with
 | false=>rw [q] at h; simp at h
 | true=>rw [q,cond_true] at h; exact ⟨of_decide_eq_true q,h⟩
theorem zzA (P:Program) {op:BinOp} {f g:SyF} {v:Value} (h:zlK op f g=some v) {ρ:Ren} {κ:Nat} (h0:ρ 0=some (0,κ)) (hb:zbH κ=true) (t:TypeId) (w:World) :
  ∃ u,(binOp op t (.int f.k (f.ev κ)) (.int g.k (g.ev κ))).run P w=.ok u w∧VRel ρ v u:=by
 obtain ⟨fr1,fr2⟩:=f.rng hb
 obtain ⟨gr1,gr2⟩:=g.rng hb
 cases op
 case add=>
  obtain ⟨hk,h⟩:=zfs h
  obtain ⟨q1,q2⟩:=SyF.val_ok h h0 hb
  rw [zzG] at q1 q2
  refine ⟨_,(by rw [← hk]; exact (zcD P (k:=f.k) (x:=f.ev κ) (y:=g.ev κ) (op:=.add) rfl t w).1),?_⟩
  rw [zdC,q2]; exact q1
 case sub=>
  obtain ⟨hk,h⟩:=zfs h
  obtain ⟨q1,q2⟩:=SyF.val_ok h h0 hb
  rw [zzC] at q1 q2
  refine ⟨_,(by rw [← hk]; exact (zcD P (k:=f.k) (x:=f.ev κ) (y:=g.ev κ) (op:=.sub) rfl t w).1),?_⟩
  rw [zdC]; exact (by rw [show f.k.wrap (f.ev κ-g.ev κ)=f.ev κ-g.ev κ from q2]; exact q1)
 case mul=>
  obtain ⟨hk,h⟩:=zfs h
  cases q:zgt f with
  | false=>rw [q] at h; simp at h
  | true=>
   rw [q,cond_true] at h
   obtain ⟨q1,q2⟩:=SyF.val_ok h h0 hb
   have hf:=zkn q κ
   rw [zuE,← hf] at q1 q2
   rw [Int.mul_comm (g.ev κ) (f.ev κ)] at q1 q2
   refine ⟨_,(by rw [hk]; exact (zcD P (k:=g.k) (x:=f.ev κ) (y:=g.ev κ) (op:=.mul) rfl t w).1),?_⟩
   rw [zdC,show g.k.wrap (f.ev κ*g.ev κ)=f.ev κ*g.ev κ from q2]; exact q1
 case lss=>
  obtain ⟨hk,h⟩:=zfs h
  obtain ⟨b,h1,rfl⟩:=zlk h
  refine ⟨_,(by rw [← hk]; exact (zcD P (k:=f.k) (x:=f.ev κ) (y:=g.ev κ) (op:=.lss) rfl t w).1),?_⟩
  rw [zij h1 hb]; exact .bool _
 case gtr=>
  obtain ⟨hk,h⟩:=zfs h
  obtain ⟨b,h1,rfl⟩:=zlk h
  refine ⟨_,(by rw [← hk]; exact (zcD P (k:=f.k) (x:=f.ev κ) (y:=g.ev κ) (op:=.gtr) rfl t w).1),?_⟩
  rw [zij h1 hb]; exact .bool _
 case geq=>
  obtain ⟨hk,h⟩:=zfs h
  obtain ⟨b,h1,rfl⟩:=zlk h
  have h1:=zij (zvv h1) hb
  refine ⟨_,(by rw [← hk]; exact (zcD P (k:=f.k) (x:=f.ev κ) (y:=g.ev κ) (op:=.geq) rfl t w).1),?_⟩
  have e:b=decide (f.ev κ≥g.ev κ):=by
   cases b with
   | true=>have:=of_decide_eq_false h1.symm; exact (decide_eq_true (by omega)).symm
   | false=>have:=of_decide_eq_true h1.symm; exact (decide_eq_false (by omega)).symm
  rw [e]; exact .bool _
 case leq=>
  obtain ⟨hk,h⟩:=zfs h
  obtain ⟨b,h1,rfl⟩:=zlk h
  have h1:=zij (zvv h1) hb
  refine ⟨_,(by rw [← hk]; exact (zcD P (k:=f.k) (x:=f.ev κ) (y:=g.ev κ) (op:=.leq) rfl t w).1),?_⟩
  have e:b=decide (f.ev κ≤g.ev κ):=by
   cases b with
   | true=>have:=of_decide_eq_false h1.symm; exact (decide_eq_true (by omega)).symm
   | false=>have:=of_decide_eq_true h1.symm; exact (decide_eq_false (by omega)).symm
  rw [e]; exact .bool _
 case and=>
  obtain ⟨hk,h⟩:=zfs h
  cases q:(zgt g&&g.a==255&&decide (0≤f.lo)&&decide (f.hi≤255)) with
  | false=>rw [q] at h; simp at h
  | true=>
   rw [q,cond_true] at h
   simp only [Bool.and_eq_true,decide_eq_true_eq,beq_iff_eq] at q
   obtain ⟨⟨⟨q1,q2⟩,q3⟩,q4⟩:=q
   obtain ⟨v1,v2⟩:=SyF.val_ok h h0 hb
   have hg:g.ev κ=Int.ofNat 255:=(zkn q1 κ).trans q2
   obtain ⟨n,hn⟩:∃ n,f.ev κ=Int.ofNat n:=⟨(f.ev κ).toNat,by simp only [Int.ofNat_eq_natCast]; omega⟩
   have hn':n≤255:=by rw [hn] at fr2; simp only [Int.ofNat_eq_natCast] at fr2; omega
   have hl:Nat.land n 255=n:=by
    have:=Nat.and_two_pow_sub_one_eq_mod n 8
    show n &&& 255=n
    rw [show (255:Nat)=2^8-1 from rfl,this]; omega
   have hkk:f.k=.i64∨f.k=.u8:=by
    have:=SyF.val_fits h
    unfold zhC at this
    split at this
    ·left; assumption
    ·right; assumption
    ·simp at this
   refine ⟨.int f.k (Int.ofNat n),?_,by rw [← hn]; exact v1⟩
   have hb':zcv .and f.k (Int.ofNat n) (Int.ofNat 255)=some (.int f.k (Int.ofNat n)):=by
    rcases hkk with e | e
    ·rw [e]
     show zcs .i64 (Nat.land n 255) n 255=_
     rw [hl]; unfold zcs
     simp only [zaI (show n<2147483648 by omega)]; rfl
    ·rw [e]
     show zcs .u8 (Nat.land n 255) n 255=_
     rw [hl]; unfold zcs
     simp only [zaI (show n<256 by omega)]; rfl
   rw [← hk,hg,hn]
   exact (zcD P hb' t w).1
 case or=>
  obtain ⟨hk,h⟩:=zfs h
  have kk:∀ {e:SyF} {x:Value},e.val=some x→e.k=.i64∨e.k=.u8:=by
   intro e x h
   have:=SyF.val_fits h
   unfold zhC at this
   split at this
   ·left; assumption
   ·right; assumption
   ·simp at this
  have nat:∀ {e:SyF} {x:Value},e.val=some x→0≤e.lo→e.lo≤e.ev κ→e.ev κ≤e.hi→∃ n,e.ev κ=Int.ofNat n∧(e.k=.i64∧n<9223372036854775808∨e.k=.u8∧n<256):=by
   intro e x h h1 h2 h3
   refine ⟨(e.ev κ).toNat,by simp only [Int.ofNat_eq_natCast]; omega,?_⟩
   have:=SyF.val_fits h
   unfold zhC at this
   split at this
   ·simp only [Bool.and_eq_true,decide_eq_true_eq] at this; left; exact ⟨by assumption,by omega⟩
   ·simp only [Bool.and_eq_true,decide_eq_true_eq] at this; right; exact ⟨by assumption,by omega⟩
   ·simp at this
  cases q:(zgt f&&f.a==0&&decide (0≤g.lo)) with
  | true=>
   rw [q,cond_true] at h
   simp only [Bool.and_eq_true,decide_eq_true_eq,beq_iff_eq] at q
   obtain ⟨⟨q1,q2⟩,q3⟩:=q
   obtain ⟨v1,v2⟩:=SyF.val_ok h h0 hb
   have hf:f.ev κ=Int.ofNat 0:=(zkn q1 κ).trans q2
   obtain ⟨n,hn,hn'⟩:=nat h q3 gr1 gr2
   refine ⟨.int g.k (Int.ofNat n),?_,by rw [← hn]; exact v1⟩
   have hb':zcv .or g.k (Int.ofNat 0) (Int.ofNat n)=some (.int g.k (Int.ofNat n)):=by
    have hl:Nat.lor 0 n=n:=Nat.zero_or n
    rcases hn' with ⟨e,l⟩ | ⟨e,l⟩
    ·rw [e]
     show zcs .i64 (Nat.lor 0 n) 0 n=_
     rw [hl]; unfold zcs
     cases q:Nat.blt n 2147483648
     ·simp only [zaI l]; rfl
     ·rfl
    ·rw [e]
     show zcs .u8 (Nat.lor 0 n) 0 n=_
     rw [hl]; unfold zcs
     simp only [zaI l]; rfl
   rw [hk,hf,hn]
   exact (zcD P hb' t w).1
  | false=>
   rw [q,cond_false] at h
   cases q:(zgt g&&g.a==0&&decide (0≤f.lo)) with
   | false=>rw [q] at h; simp at h
   | true=>
    rw [q,cond_true] at h
    simp only [Bool.and_eq_true,decide_eq_true_eq,beq_iff_eq] at q
    obtain ⟨⟨q1,q2⟩,q3⟩:=q
    obtain ⟨v1,v2⟩:=SyF.val_ok h h0 hb
    have hg:g.ev κ=Int.ofNat 0:=(zkn q1 κ).trans q2
    obtain ⟨n,hn,hn'⟩:=nat h q3 fr1 fr2
    refine ⟨.int f.k (Int.ofNat n),?_,by rw [← hn]; exact v1⟩
    have hb':zcv .or f.k (Int.ofNat n) (Int.ofNat 0)=some (.int f.k (Int.ofNat n)):=by
     have hl:Nat.lor n 0=n:=Nat.or_zero n
     rcases hn' with ⟨e,l⟩ | ⟨e,l⟩
     ·rw [e]
      show zcs .i64 (Nat.lor n 0) n 0=_
      rw [hl]; unfold zcs
      cases q:Nat.blt n 2147483648
      ·simp only [zaI l]; rfl
      ·rfl
     ·rw [e]
      show zcs .u8 (Nat.lor n 0) n 0=_
      rw [hl]; unfold zcs
      simp only [zaI l]; rfl
    rw [← hk,hg,hn]
    exact (zcD P hb' t w).1
 case shr=>
  simp only [zlK] at h
  split at h
  ·rename_i n hc hn
   have hg:g.ev κ=Int.ofNat n:=(zkn hc κ).trans hn
   unfold zyL at h
   cases q:(Nat.ble n 62&&decide (f.k=.i64)&&decide (0≤f.lo)) with
   | false=>rw [q] at h; simp at h
   | true=>
    rw [q,cond_true] at h
    simp only [Bool.and_eq_true,decide_eq_true_eq] at q
    obtain ⟨⟨q1,q2⟩,q3⟩:=q
    have q1':=Nat.le_of_ble_eq_true q1
    obtain ⟨m,hm⟩:∃ m,f.ev κ=Int.ofNat m:=⟨(f.ev κ).toNat,by simp only [Int.ofNat_eq_natCast]; omega⟩
    have hs:zdE .shr f.k (Int.ofNat m) (Int.ofNat n)=some (.int .i64 (.ofNat (m/2^n))):=by
     rw [q2]; unfold zdE
     have e1:Nat.ble n 64=true:=by rw [Nat.ble_eq]; omega
     have e2:min n IntKind.i64.bits=n:=by show min n 64=n; omega
     simp only [e1,e2,cond_true]
    refine ⟨_,by rw [hg,hm]; exact (zhB P (l:=g.k) hs t w).1,?_⟩
    have hp:0<2^n:=Nat.two_pow_pos n
    cases q:decide (f.hi<Int.ofNat (2^n)) with
    | true=>
     rw [q,cond_true] at h
     obtain rfl:=Option.some.inj h
     have q:=of_decide_eq_true q
     have hlt:m<2^n:=by rw [hm] at fr2; exact Int.ofNat_lt.1 (Int.lt_of_le_of_lt fr2 q)
     rw [Nat.div_eq_of_lt hlt]
     exact .int _ _
    | false=>
     rw [q,cond_false] at h
     split at h
     ·rename_i a b c ha hbb hcc
      obtain ⟨v1,_⟩:=SyF.val_ok h h0 hb
      have e:f.ev κ=SyF.ev ⟨.i64,a,b,c⟩ κ*Int.ofNat (2^n):=by
       have:=zuE .i64 ⟨.i64,a,b,c⟩ (Int.ofNat (2^n)) κ
       rw [← this]
       unfold SyF.ev
       rw [zpP ha,zpP hbb,zpP hcc]
      have e2:SyF.ev ⟨.i64,a,b,c⟩ κ=Int.ofNat (m/2^n):=by
       rw [hm] at e
       have:Int.ofNat m/Int.ofNat (2^n)=SyF.ev ⟨.i64,a,b,c⟩ κ:=by
        rw [e]; exact Int.mul_ediv_cancel _ (by simp only [Int.ofNat_eq_natCast]; omega)
       rw [← this]; rfl
      rw [← e2]; exact v1
     ·simp at h
  ·simp at h
 case shl=>
  simp only [zlK] at h
  split at h
  ·rename_i n hc hn
   have hg:g.ev κ=Int.ofNat n:=(zkn hc κ).trans hn
   unfold zyI at h
   cases q:(Nat.ble n 62&&decide (f.k=.i64)&&decide (0≤f.lo)) with
   | false=>rw [q] at h; simp at h
   | true=>
    rw [q,cond_true] at h
    simp only [Bool.and_eq_true,decide_eq_true_eq] at q
    obtain ⟨⟨q1,q2⟩,q3⟩:=q
    have q1':=Nat.le_of_ble_eq_true q1
    obtain ⟨m,hm⟩:∃ m,f.ev κ=Int.ofNat m:=⟨(f.ev κ).toNat,by simp only [Int.ofNat_eq_natCast]; omega⟩
    have hs:zdE .shl f.k (Int.ofNat m) (Int.ofNat n)=some (.int .i64 (zaK .i64 (.ofNat (m*2^n)))):=by
     rw [q2]; unfold zdE
     have e1:Nat.ble n 64=true:=by rw [Nat.ble_eq]; omega
     have e2:min n IntKind.i64.bits=n:=by show min n 64=n; omega
     simp only [e1,e2,cond_true]
    refine ⟨_,by rw [hg,hm]; exact (zhB P (l:=g.k) hs t w).1,?_⟩
    obtain ⟨v1,v2⟩:=SyF.val_ok h h0 hb
    rw [zuE,hm] at v1 v2
    rw [zdC,show IntKind.i64.wrap (Int.ofNat (m*2^n))=Int.ofNat (m*2^n) from v2]
    exact v1
  ·simp at h
 all_goals simp [zlK] at h
theorem zxL (m:Int):(BitVec.ofInt 64 m &&& BitVec.ofInt 64 4611686018427387903).toNat<4611686018427387904:=by
 rw [BitVec.toNat_and]
 have:(BitVec.ofInt 64 4611686018427387903).toNat=2^62-1:=rfl
 rw [this,Nat.and_two_pow_sub_one_eq_mod]
 exact Nat.mod_lt _ (by decide)
theorem zBo (m:Int):zhD m=Int.ofNat ((BitVec.ofInt 64 m &&& BitVec.ofInt 64 4611686018427387903).toNat):=by
 unfold zhD
 exact zob (k:=.i64) (Nat.lt_of_lt_of_le (zxL m) (by decide))
theorem zjU (l:List Nat):fnv l<4294967296:=by
 have:∀ (l:List Nat) (s:Nat),s<4294967296→l.foldl (fun s c=>Nat.xor s c*16777619%4294967296) s<4294967296:=by
  intro l
  induction l with
  | nil=>intro s h; exact h
  | cons c l ih=>intro s _; exact ih _ (Nat.mod_lt _ (by decide))
 exact this l _ (by decide)
theorem zhQ {κ t s:Nat} {k:IntKind} {m:Int} (h:zts κ t s k m) (ht:10≤t):zeR (zft κ t) s k m:=by
 rcases h with ⟨h,_⟩ | ⟨_,h⟩
 ·omega
 ·exact h
theorem zLf {a b:Nat} (h:b<256):Nat.lor (a*256) b=a*256+b:=by
 have:=Nat.shiftLeft_add_eq_or_of_lt (i:=8) (b:=b) h a
 rw [Nat.shiftLeft_eq] at this
 exact this.symm
theorem zvr {a b r:Nat} (ha:a<9223372036854775808) (hb:b<9223372036854775808) (hr:Nat.lor a b=r):zcv .or .i64 (.ofNat a) (.ofNat b)=some (.int .i64 (.ofNat r)):=by
 show zcs .i64 (Nat.lor a b) a b=_
 rw [hr]; unfold zcs
 cases q:(Nat.blt a 2147483648&&Nat.blt b 2147483648)
 ·simp only [zaI ha,zaI hb]; rfl
 ·rfl
theorem zrn (P:Program) {op:BinOp} {a b a' b' v:Value} (h:zoM op a b=some v) {ρ:Ren} (ha:VRel ρ a a') (hb:VRel ρ b b') (t:TypeId) (w:World) :
  (∃ k x l y,a'=.int k x∧b'=.int l y)∧∃ u,(binOp op t a' b').run P w=.ok u w∧VRel ρ v u:=by
 unfold zoM at h
 split at h
 ·rename_i i s l m
  obtain ⟨κ,k,n,h0,hbx,hc,rfl⟩:=ha.arg_inv
  obtain rfl:=hb.int_inv
  have i64:zkI l=true→l=.i64:=fun h=>by cases l<;>first | rfl | cases h
  cases q:Nat.ble 10 i with
  | false=>rw [q] at h; simp at h
  | true=>
  rw [q,cond_true] at h
  have ht:=Nat.le_of_ble_eq_true q
  replace hc:=zhQ hc ht
  have hlt:=zjU ((zdD i).map (evN κ))
  replace hlt:zft κ i<4294967296:=hlt
  generalize hH:zft κ i=H at hc hlt
  have mk:∀ {r:Nat} {k:IntKind} {m:Int},zeR H r k m→VRel ρ (.complex .f32 i r) (.int k m):=fun e=>.arg h0 hbx (.inr ⟨ht,hH▸e⟩)
  refine ⟨⟨_,_,_,_,rfl,rfl⟩,?_⟩
  split at h
  ·rename_i r hr
   obtain rfl:=Option.some.inj h
   unfold zvo at hr
   split at hr
   · -- the rest
    cases q:(zkI l&&m==256&&Nat.blt s 4) with
    | false=>rw [q] at hr; simp at hr
    | true=>
     rw [q,cond_true] at hr
     obtain rfl:=Option.some.inj hr
     simp only [Bool.and_eq_true,beq_iff_eq] at q
     obtain ⟨⟨q0,rfl⟩,q2⟩:=q
     obtain rfl:=i64 q0
     have q2:=zaB q2
     obtain ⟨x,rfl,hx⟩:∃ x:Nat,n=.ofNat x∧k=.i64∧zeR H (s+5) .i64 (.ofNat (x%256)):=by
      rcases hc with ⟨rfl,hc⟩ | ⟨rfl,hc⟩ | ⟨rfl,hc,_⟩
      ·rcases hc with ⟨rfl,rfl⟩ | ⟨rfl,rfl⟩ | ⟨rfl,rfl⟩ | ⟨rfl,rfl⟩ | ⟨rfl,_⟩ | ⟨rfl,_⟩ | ⟨rfl,_⟩ | ⟨rfl,_⟩ | ⟨rfl,_⟩ | ⟨rfl,_⟩ | ⟨rfl,_⟩
       ·exact ⟨_,rfl,rfl,.inl ⟨rfl,by simp⟩⟩
       ·exact ⟨_,rfl,rfl,.inl ⟨rfl,by simp⟩⟩
       ·exact ⟨_,rfl,rfl,.inl ⟨rfl,by simp⟩⟩
       ·exact ⟨_,rfl,rfl,.inl ⟨rfl,by simp⟩⟩
       all_goals omega
      ·rcases hc with ⟨rfl,_⟩ | ⟨rfl,_⟩ | ⟨rfl,_⟩ | ⟨rfl,_⟩<;>omega
      ·omega
     obtain ⟨rfl,hx⟩:=hx
     exact ⟨_,(zcD P (k:=.i64) (x:=.ofNat x) (y:=256) (op:=.rem) rfl t w).1,mk hx⟩
   ·cases q:(zkI l&&m==256&&Nat.blt s 3) with
    | false=>rw [q] at hr; simp at hr
    | true=>
     rw [q,cond_true] at hr
     obtain rfl:=Option.some.inj hr
     simp only [Bool.and_eq_true,beq_iff_eq] at q
     obtain ⟨⟨q0,rfl⟩,q2⟩:=q
     obtain rfl:=i64 q0
     have q2:=zaB q2
     obtain ⟨x,rfl,hx⟩:∃ x:Nat,n=.ofNat x∧x<4294967296∧k=.i64∧zeR H (s+1) .i64 (.ofNat (x/256)):=by
      rcases hc with ⟨rfl,hc⟩ | ⟨rfl,hc⟩ | ⟨rfl,hc,_⟩
      ·rcases hc with ⟨rfl,rfl⟩ | ⟨rfl,rfl⟩ | ⟨rfl,rfl⟩ | ⟨rfl,rfl⟩ | ⟨rfl,_⟩ | ⟨rfl,_⟩ | ⟨rfl,_⟩ | ⟨rfl,_⟩ | ⟨rfl,_⟩ | ⟨rfl,_⟩ | ⟨rfl,_⟩
       ·exact ⟨_,rfl,by omega,rfl,.inl ⟨rfl,by simp⟩⟩
       ·exact ⟨_,rfl,by omega,rfl,.inl ⟨rfl,by simp; omega⟩⟩
       ·exact ⟨_,rfl,by omega,rfl,.inl ⟨rfl,by simp; omega⟩⟩
       all_goals omega
      ·rcases hc with ⟨rfl,_⟩ | ⟨rfl,_⟩ | ⟨rfl,_⟩ | ⟨rfl,_⟩<;>omega
      ·omega
     obtain ⟨hx0,rfl,hx⟩:=hx
     refine ⟨_,(zcD P (k:=.i64) (x:=.ofNat x) (y:=256) (op:=.quo) rfl t w).1,?_⟩
     have:zaK .i64 (.ofNat (x/(255+1)))=.ofNat (x/256):=by
      show (bif Nat.blt (x/256) 9223372036854775808 then _ else _)=_
      rw [zaI (by omega)]; rfl
     rw [this]; exact mk hx
   ·cases q:(m==8&&Nat.blt 0 s&&Nat.blt s 4) with
    | false=>rw [q] at hr; simp at hr
    | true=>
     rw [q,cond_true] at hr
     obtain rfl:=Option.some.inj hr
     simp only [Bool.and_eq_true,beq_iff_eq] at q
     obtain ⟨⟨rfl,q1⟩,q2⟩:=q
     have q1:=zaB q1
     have q2:=zaB q2
     obtain ⟨x,rfl,hx⟩:∃ x:Nat,n=.ofNat x∧x<16777216∧k=.i64∧zeR H (s+30) .i64 (.ofNat (x*256)):=by
      rcases hc with ⟨rfl,hc⟩ | ⟨rfl,hc⟩ | ⟨rfl,hc,_⟩
      ·rcases hc with ⟨rfl,rfl⟩ | ⟨rfl,rfl⟩ | ⟨rfl,rfl⟩ | ⟨rfl,rfl⟩ | ⟨rfl,_⟩ | ⟨rfl,_⟩ | ⟨rfl,_⟩ | ⟨rfl,_⟩ | ⟨rfl,_⟩ | ⟨rfl,_⟩ | ⟨rfl,_⟩
       ·omega
       ·exact ⟨_,rfl,by omega,rfl,.inl ⟨rfl,by simp⟩⟩
       ·exact ⟨_,rfl,by omega,rfl,.inl ⟨rfl,by simp⟩⟩
       ·exact ⟨_,rfl,by omega,rfl,.inl ⟨rfl,by simp⟩⟩
       all_goals omega
      ·rcases hc with ⟨rfl,_⟩ | ⟨rfl,_⟩ | ⟨rfl,_⟩ | ⟨rfl,_⟩<;>omega
      ·omega
     obtain ⟨hx0,rfl,hx⟩:=hx
     have hs:zdE .shl .i64 (.ofNat x) 8=some (.int .i64 (.ofNat (x*256))):=by
      show some (Value.int .i64 (zaK .i64 (.ofNat (x*256))))=_
      have:zaK .i64 (.ofNat (x*256))=.ofNat (x*256):=by
       show (bif Nat.blt (x*256) 9223372036854775808 then _ else _)=_
       rw [zaI (by omega)]; rfl
      rw [this]
     exact ⟨_,(zhB P (l:=l) hs t w).1,mk hx⟩
   ·cases hr
  ·split at h
   ·cases q:(zkI l&&m==256&&Nat.beq s 3) with
    | false=>rw [q] at h; simp at h
    | true=>
     rw [q,cond_true] at h
     obtain rfl:=Option.some.inj h
     simp only [Bool.and_eq_true,beq_iff_eq] at q
     obtain ⟨⟨q0,rfl⟩,q2⟩:=q
     obtain rfl:=i64 q0
     obtain rfl:=Nat.eq_of_beq_eq_true q2
     obtain ⟨x,rfl,hx,rfl⟩:∃ x:Nat,n=.ofNat x∧x<256∧k=.i64:=by
      rcases hc with ⟨rfl,hc⟩ | ⟨rfl,hc⟩ | ⟨rfl,hc,_⟩
      ·rcases hc with ⟨e,_⟩ | ⟨e,_⟩ | ⟨e,_⟩ | ⟨_,rfl⟩ | ⟨e,_⟩ | ⟨e,_⟩ | ⟨e,_⟩ | ⟨e,_⟩ | ⟨e,_⟩ | ⟨e,_⟩ | ⟨e,_⟩
       all_goals first
        | exact ⟨_,rfl,by omega,rfl⟩
        | omega
      ·rcases hc with ⟨e,_⟩ | ⟨e,_⟩ | ⟨e,_⟩ | ⟨e,_⟩<;>omega
      ·omega
     refine ⟨_,(zcD P (k:=.i64) (x:=.ofNat x) (y:=256) (op:=.quo) rfl t w).1,?_⟩
     have:x/(255+1)=0:=by omega
     rw [this]
     exact .int _ _
   ·cases h
 ·rename_i m i s
  obtain ⟨κ,k,n,h0,hbx,hc,rfl⟩:=hb.arg_inv
  obtain rfl:=ha.int_inv
  split at h
  ·cases q:(Nat.ble 10 i&&m==0&&Nat.beq s 8) with
   | false=>rw [q] at h; simp at h
   | true=>
    rw [q,cond_true] at h
    obtain rfl:=Option.some.inj h
    simp only [Bool.and_eq_true,beq_iff_eq] at q
    obtain ⟨⟨q1,rfl⟩,q2⟩:=q
    obtain rfl:=Nat.eq_of_beq_eq_true q2
    have ht:=Nat.le_of_ble_eq_true q1
    replace hc:=zhQ hc ht
    have hlt:zft κ i<4294967296:=zjU ((zdD i).map (evN κ))
    obtain ⟨rfl,rfl⟩:k=.i64∧n=.ofNat (zft κ i/16777216%256):=by
     rcases hc with ⟨rfl,hc⟩ | ⟨rfl,hc⟩ | ⟨rfl,hc,_⟩
     ·rcases hc with ⟨e,_⟩ | ⟨e,_⟩ | ⟨e,_⟩ | ⟨e,_⟩ | ⟨e,_⟩ | ⟨e,_⟩ | ⟨e,_⟩ | ⟨_,rfl⟩ | ⟨e,_⟩ | ⟨e,_⟩ | ⟨e,_⟩
      all_goals first
       | exact ⟨rfl,rfl⟩
       | omega
     ·rcases hc with ⟨e,_⟩ | ⟨e,_⟩ | ⟨e,_⟩ | ⟨e,_⟩<;>omega
     ·omega
    refine ⟨⟨_,_,_,_,rfl,rfl⟩,_,(zcD P (zvr (a:=0) (b:=zft κ i/16777216%256) (by omega) (by omega) (Nat.zero_or _)) t w).1,.arg h0 hbx (.inr ⟨ht,.inl ⟨rfl,?_⟩⟩)⟩
    right; right; right; left
    refine ⟨rfl,?_⟩
    rw [Nat.mod_eq_of_lt (by omega)]
  ·cases h
 ·rename_i i s j r
  obtain ⟨κ,k,n,h0,hbx,hc,rfl⟩:=ha.arg_inv
  obtain ⟨κ',k',n',h0',_,hc',rfl⟩:=hb.arg_inv
  rw [h0] at h0'
  obtain rfl:κ=κ':=by simpa using h0'
  cases q:(Nat.ble 10 i&&Nat.beq i j) with
  | false=>rw [q] at h; simp at h
  | true=>
  rw [q,cond_true] at h
  rw [Bool.and_eq_true] at q
  have ht:=Nat.le_of_ble_eq_true q.1
  obtain rfl:=Nat.eq_of_beq_eq_true q.2
  replace hc:=zhQ hc ht
  replace hc':=zhQ hc' ht
  have hlt:zft κ i<4294967296:=zjU ((zdD i).map (evN κ))
  generalize hH:zft κ i=H at hc hc' hlt
  have mk:∀ {r:Nat} {k:IntKind} {m:Int},zeR H r k m→VRel ρ (.complex .f32 i r) (.int k m):=fun e=>.arg h0 hbx (.inr ⟨ht,hH▸e⟩)
  refine ⟨⟨_,_,_,_,rfl,rfl⟩,?_⟩
  have at_:∀ {s:Nat} {k:IntKind} {n:Int},zeR H s k n→s≠40→¬ (10≤s∧s≤13)→k=.i64:=by
   intro s k n h h1 h2
   rcases h with ⟨rfl,_⟩ | ⟨rfl,h⟩ | ⟨rfl,e,_⟩
   ·rfl
   ·rcases h with ⟨e,_⟩ | ⟨e,_⟩ | ⟨e,_⟩ | ⟨e,_⟩<;>omega
   ·exact absurd e h1
  have v0:∀ {s:Nat} {n:Int},zeR H s .i64 n→n=if s=0 then .ofNat H else if s=5 then .ofNat (H%256) else if s=6 then .ofNat (H/256%256) else if s=7 then .ofNat (H/65536%256) else if s=31 then .ofNat (H/256*256) else if s=32 then .ofNat (H/65536*256) else if s=33 then .ofNat (H/16777216*256) else n:=by
   intro s n h
   rcases h with ⟨_,h⟩ | ⟨e,_⟩ | ⟨e,_⟩
   ·rcases h with ⟨rfl,rfl⟩ | ⟨rfl,rfl⟩ | ⟨rfl,rfl⟩ | ⟨rfl,rfl⟩ | ⟨rfl,rfl⟩ | ⟨rfl,rfl⟩ | ⟨rfl,rfl⟩ | ⟨rfl,rfl⟩ | ⟨rfl,rfl⟩ | ⟨rfl,rfl⟩ | ⟨rfl,rfl⟩<;>simp
   ·cases e
   ·cases e
  split at h
  ·split at h
   ·rename_i q hq
    obtain rfl:=Option.some.inj h
    unfold zyU at hq
    have go:∀ (s0 r0 q0 x y:Nat),s=s0→r=r0→q=q0→s0≠40→¬ (10≤s0∧s0≤13)→r0≠40→¬ (10≤r0∧r0≤13)→(zeR H s0 .i64 n→n=.ofNat (x*256))→(zeR H r0 .i64 n'→n'=.ofNat y)→y<256→x<16777216→zeR H q0 .i64 (.ofNat (x*256+y)) →
      ∃ u,(binOp .or t (.int k n) (.int k' n')).run P w=.ok u w∧VRel ρ (.complex .f32 i q) u:=by
     intro s0 r0 q0 x y e1 e2 e3 b1 b2 b3 b4 f1 f2 hy hx hq
     subst e1 e2 e3
     obtain rfl:=at_ hc b1 b2
     obtain rfl:=at_ hc' b3 b4
     rw [f1 hc,f2 hc']
     exact ⟨_,(zcD P (zvr (by omega) (by omega) (zLf hy)) t w).1,mk hq⟩
    cases q1:(Nat.beq s 33&&Nat.beq r 7) with
    | true=>
     rw [q1,cond_true] at hq
     rw [Bool.and_eq_true] at q1
     refine go 33 7 2 (H/16777216) (H/65536%256) (Nat.eq_of_beq_eq_true q1.1) (Nat.eq_of_beq_eq_true q1.2) (Option.some.inj hq).symm (by omega) (by omega) (by omega) (by omega) (fun e=>by simpa using v0 e) (fun e=>by simpa using v0 e) (by omega) (by omega) (.inl ⟨rfl,.inr (.inr (.inl ⟨rfl,?_⟩))⟩)
     congr 1; omega
    | false=>
     rw [q1,cond_false] at hq
     cases q2:(Nat.beq s 32&&Nat.beq r 6) with
     | true=>
      rw [q2,cond_true] at hq
      rw [Bool.and_eq_true] at q2
      refine go 32 6 1 (H/65536) (H/256%256) (Nat.eq_of_beq_eq_true q2.1) (Nat.eq_of_beq_eq_true q2.2) (Option.some.inj hq).symm (by omega) (by omega) (by omega) (by omega) (fun e=>by simpa using v0 e) (fun e=>by simpa using v0 e) (by omega) (by omega) (.inl ⟨rfl,.inr (.inl ⟨rfl,?_⟩)⟩)
      congr 1; omega
     | false=>
      rw [q2,cond_false] at hq
      cases q3:(Nat.beq s 31&&Nat.beq r 5) with
      | true=>
       rw [q3,cond_true] at hq
       rw [Bool.and_eq_true] at q3
       refine go 31 5 0 (H/256) (H%256) (Nat.eq_of_beq_eq_true q3.1) (Nat.eq_of_beq_eq_true q3.2) (Option.some.inj hq).symm (by omega) (by omega) (by omega) (by omega) (fun e=>by simpa using v0 e) (fun e=>by simpa using v0 e) (by omega) (by omega) (.inl ⟨rfl,.inl ⟨rfl,?_⟩⟩)
       congr 1; omega
      | false=>rw [q3] at hq; simp at hq
   ·cases h
  ·cases q1:(Nat.beq s 0&&Nat.beq r 0) with
   | false=>rw [q1] at h; simp at h
   | true=>
    rw [q1,cond_true] at h
    obtain rfl:=Option.some.inj h
    rw [Bool.and_eq_true] at q1
    obtain rfl:=Nat.eq_of_beq_eq_true q1.1
    obtain rfl:=Nat.eq_of_beq_eq_true q1.2
    obtain rfl:=at_ hc (by omega) (by omega)
    obtain rfl:=at_ hc' (by omega) (by omega)
    have e1:=v0 hc
    have e2:=v0 hc'
    simp only [if_true] at e1 e2
    refine ⟨_,(zcD P (k:=.i64) (x:=n) (y:=n') (op:=.neq) rfl t w).1,?_⟩
    rw [e1,e2]
    have:(Int.ofNat H != Int.ofNat H)=false:=by simp
    rw [this]; exact .bool _
  ·cases h
 ·cases h
theorem zBP (P:Program) {op:BinOp} {a b a' b' v:Value} (h:zwO op a b=some v) {ρ:Ren} (ha:VRel ρ a a') (hb:VRel ρ b b') (t:TypeId) (w:World) :
  (∃ k x l y,a'=.int k x∧b'=.int l y)∧∃ u,(binOp op t a' b').run P w=.ok u w∧VRel ρ v u:=by
 have inv:∀ {i s:Nat},VRel ρ (.complex .f32 i s) a'→i<10→∃ κ n,ρ 0=some (0,κ)∧zbH κ=true∧zDc κ i s n∧a'=.int .i64 n:=by
  intro i s ha hi
  obtain ⟨κ,k,n,h0,hbx,hc,rfl⟩:=ha.arg_inv
  rcases hc with ⟨_,rfl,hc⟩ | ⟨e,_⟩
  ·exact ⟨κ,n,h0,hbx,hc,rfl⟩
  ·omega
 unfold zwO at h
 split at h
 ·rename_i i s m
  obtain rfl:=hb.int_inv
  cases q:(Nat.blt i 10&&Nat.beq s 0&&m==4611686018427387903) with
  | false=>rw [q] at h; simp at h
  | true=>
   rw [q,cond_true] at h
   obtain rfl:=Option.some.inj h
   simp only [Bool.and_eq_true,beq_iff_eq] at q
   obtain ⟨⟨q0,q1⟩,rfl⟩:=q
   have q0:=zaB q0
   obtain rfl:=Nat.eq_of_beq_eq_true q1
   obtain ⟨κ,n,h0,hbx,harg,rfl⟩:=inv ha q0
   refine ⟨⟨_,_,_,_,rfl,rfl⟩,.int .i64 (zhD n),?_,?_⟩
   ·simp only [binOp,ne_eq,not_true_eq_false,if_false,Op.intBits,Sem.run_pure]
    rfl
   ·rcases harg with ⟨_,e⟩ | ⟨e,_⟩
    ·exact .arg h0 hbx (.inl ⟨q0,rfl,.inr ⟨rfl,by rw [zBo]; exact Int.natCast_nonneg _,e⟩⟩)
    ·cases e
 ·rename_i i s m
  cases q:(Nat.blt i 10&&Nat.beq s 1&&m==50) with
  | false=>rw [q,cond_false] at h; exact zrn P h ha hb t w
  | true=>
   obtain rfl:=hb.int_inv
   rw [q,cond_true] at h
   simp only [Bool.and_eq_true,beq_iff_eq] at q
   obtain ⟨⟨q0,q1⟩,rfl⟩:=q
   have q0:=zaB q0
   obtain rfl:=Nat.eq_of_beq_eq_true q1
   obtain ⟨κ,n,h0,hbx,harg,rfl⟩:=inv ha q0
   rcases harg with ⟨e,_⟩ | ⟨_,e1,e2⟩
   ·cases e
   ·obtain ⟨c,rfl⟩:∃ c,n=Int.ofNat c:=⟨n.toNat,by simp only [Int.ofNat_eq_natCast]; omega⟩
    have hr:zcv .rem .i64 (.ofNat c) 50=some (.int .i64 (.ofNat (c%50))):=rfl
    have e2:Int.ofNat (c%50)=zex κ i:=e2
    refine ⟨⟨_,_,_,_,rfl,rfl⟩,_,(zcD P hr t w).1,?_⟩
    rw [e2]
    unfold zzp at h
    split at h
    ·have:=(SyF.val_ok h h0 hbx).1
     have e:SyF.ev ⟨.i64,0,1,0⟩ κ=zex κ 0:=by simp [SyF.ev,zex]
     rw [e] at this
     exact this
    ·have:=(SyF.val_ok h h0 hbx).1
     have e:SyF.ev ⟨.i64,0,0,1⟩ κ=zex κ 1:=by simp [SyF.ev,zex]
     rw [e] at this
     exact this
    ·rename_i h1 h2
     obtain rfl:=Option.some.inj h
     have e:zex κ i=0:=by
      unfold zex
      split
      ·exact absurd rfl h1
      ·exact absurd rfl h2
      ·rfl
     rw [e]
     exact .int _ _
 ·exact zrn P h ha hb t w
theorem znr {k:IntKind} {v u:Value} {ρ:Ren} {v':Value} (h:znP k v=some u) (hr:VRel ρ v v'):∃ l n,v'=.int l n∧VRel ρ u (.int k (k.wrap n)):=by
 unfold znP at h
 split at h
 ·rename_i i s
  obtain ⟨κ,l,n,h0,hbx,hc,rfl⟩:=hr.arg_inv
  cases q:Nat.ble 10 i with
  | false=>rw [q] at h; simp at h
  | true=>
  rw [q,cond_true] at h
  have ht:=Nat.le_of_ble_eq_true q
  replace hc:=zhQ hc ht
  have hlt:zft κ i<4294967296:=zjU ((zdD i).map (evN κ))
  generalize hH:zft κ i=H at hc hlt
  have mk:∀ {r:Nat} {k:IntKind} {m:Int},zeR H r k m→VRel ρ (.complex .f32 i r) (.int k m):=fun e=>.arg h0 hbx (.inr ⟨ht,hH▸e⟩)
  refine ⟨_,_,rfl,?_⟩
  have w8:∀ x:Nat,IntKind.u8.wrap (.ofNat (x%256))=.ofNat (x%256):=fun x=>zlr (k:=.u8) rfl (show x%256<256 from Nat.mod_lt _ (by decide))
  have w64:∀ x:Nat,x<4294967296→IntKind.i64.wrap (.ofNat x)=.ofNat x:=fun x hx=>zob (k:=.i64) (Nat.lt_of_lt_of_le hx (by decide))
  split at h
  ·cases q:(Nat.ble 5 s&&Nat.ble s 8) with
   | false=>rw [q] at h; simp at h
   | true=>
    rw [q,cond_true] at h
    obtain rfl:=Option.some.inj h
    rw [Bool.and_eq_true] at q
    have q1:=Nat.le_of_ble_eq_true q.1
    have q2:=Nat.le_of_ble_eq_true q.2
    rcases hc with ⟨rfl,hc⟩ | ⟨rfl,hc⟩ | ⟨rfl,hc,_⟩
    ·rcases hc with ⟨e,_⟩ | ⟨e,_⟩ | ⟨e,_⟩ | ⟨e,_⟩ | ⟨rfl,rfl⟩ | ⟨rfl,rfl⟩ | ⟨rfl,rfl⟩ | ⟨rfl,rfl⟩ | ⟨e,_⟩ | ⟨e,_⟩ | ⟨e,_⟩
     ·omega
     ·omega
     ·omega
     ·omega
     ·rw [w8]; exact mk (.inr (.inl ⟨rfl,by simp⟩))
     ·rw [w8]; exact mk (.inr (.inl ⟨rfl,by simp⟩))
     ·rw [w8]; exact mk (.inr (.inl ⟨rfl,by simp⟩))
     ·rw [w8]; exact mk (.inr (.inl ⟨rfl,by simp⟩))
     all_goals omega
    ·rcases hc with ⟨e,_⟩ | ⟨e,_⟩ | ⟨e,_⟩ | ⟨e,_⟩<;>omega
    ·omega
  ·cases q:(Nat.ble 10 s&&Nat.ble s 13) with
   | true=>
    rw [q,cond_true] at h
    obtain rfl:=Option.some.inj h
    rw [Bool.and_eq_true] at q
    have q1:=Nat.le_of_ble_eq_true q.1
    have q2:=Nat.le_of_ble_eq_true q.2
    rcases hc with ⟨rfl,hc⟩ | ⟨rfl,hc⟩ | ⟨rfl,hc,_⟩
    ·rcases hc with ⟨e,_⟩ | ⟨e,_⟩ | ⟨e,_⟩ | ⟨e,_⟩ | ⟨e,_⟩ | ⟨e,_⟩ | ⟨e,_⟩ | ⟨e,_⟩ | ⟨e,_⟩ | ⟨e,_⟩ | ⟨e,_⟩<;>omega
    ·rcases hc with ⟨rfl,rfl⟩ | ⟨rfl,rfl⟩ | ⟨rfl,rfl⟩ | ⟨rfl,rfl⟩<;>rw [w64 _ (by omega)]
     ·exact mk (.inl ⟨rfl,by simp⟩)
     ·exact mk (.inl ⟨rfl,by simp⟩)
     ·exact mk (.inl ⟨rfl,by simp⟩)
     ·exact mk (.inl ⟨rfl,by simp⟩)
    ·omega
   | false=>
    rw [q,cond_false] at h
    cases q':Nat.beq s 40 with
    | false=>rw [q'] at h; simp at h
    | true=>
     rw [q',cond_true] at h
     obtain rfl:=Option.some.inj h
     obtain rfl:=Nat.eq_of_beq_eq_true q'
     rcases hc with ⟨rfl,hc⟩ | ⟨rfl,hc⟩ | ⟨rfl,_,rfl⟩
     ·rcases hc with ⟨e,_⟩ | ⟨e,_⟩ | ⟨e,_⟩ | ⟨e,_⟩ | ⟨e,_⟩ | ⟨e,_⟩ | ⟨e,_⟩ | ⟨e,_⟩ | ⟨e,_⟩ | ⟨e,_⟩ | ⟨e,_⟩<;>omega
     ·rcases hc with ⟨e,_⟩ | ⟨e,_⟩ | ⟨e,_⟩ | ⟨e,_⟩<;>omega
     ·rw [w64 _ hlt]; exact mk (.inl ⟨rfl,by simp⟩)
  ·cases h
 ·cases h
theorem zoS {E:Env} {ρ:Ren} {eval:Operand→Value} {h:SHeap} {w:World} {o:Oper} {op:BinOp} {t u:TypeId} {x y:Operand} (ho:o.op=.binOp op t x y u) {v v':Value}
  (hg:(eqGuard op t x y (eval x) (eval y)).run E.P w=.ok () w) (hb:(binOp op t (eval x) (eval y)).run E.P w=.ok v' w) (hv:VRel ρ v v'):zfh ρ h w (.value v) h ((execOp eval o).run E.P w):=by
 rw [zkx ho]
 have:(do eqGuard op t x y (eval x) (eval y); binOp op t (eval x) (eval y)).run E.P w=.ok v' w:=by
  rw [Sem.run_bind,hg]
  exact hb
 rw [zaw _ _ _ _ _ this]
 exact .val hv
end Go.Sim
namespace Go.Sim
variable {E:Env}
theorem ziF (p:ByteArray):p.size=p.data.toList.length:=by rw [Array.length_toList]; rfl
theorem zyi {p q:ByteArray} (h:p.data.toList.length+q.data.toList.length<1000000000000):p.size+q.size≤9223372036854775807:=by
 rw [ziF p,ziF q]; omega
theorem zBd (x y:ByteArray):x++y=⟨(x.data.toList++y.data.toList).toArray⟩:=by
 have:=ByteArray.mk_append_mk x.data.toList y.data.toList
 simpa using this
theorem zms (P:Program) (op:BinOp) (t:TypeId) (x y:Operand) (a:ByteArray) (v:Value) (w:World):(eqGuard op t x y (.string a) v).run P w=.ok () w:=by
 cases op<;>rfl
theorem zpk (P:Program) (op:BinOp) (t:TypeId) (x y:Operand) (a:Bool) (v:Value) (w:World):(eqGuard op t x y (.bool a) v).run P w=.ok () w:=by
 cases op<;>rfl
theorem zuS {ρ:Ren} {c:CK} {a b u v:Value} {r:Bool} (h:zdZ c a b=some r) (ha:VRel ρ a u) (hb:VRel ρ b v):u=a∧v=b:=by
 unfold zdZ at h
 split at h
 ·exact ⟨ha.int_inv,hb.int_inv⟩
 ·exact ⟨ha.bool_inv,hb.bool_inv⟩
 ·exact ⟨ha.str_inv,hb.str_inv⟩
 ·simp at h
theorem zmC {ρ:Ren}:∀ (ks:List CK) (l m l' m':List Value) (r:Bool),zcl ks l m=some r→LRel ρ l l'→LRel ρ m m'→l'=l∧m'=m
 | [],[],[],l',m',r,_,hl,hm=>by
  have h1:=hl.len; have h2:=hm.len
  simp at h1 h2
  exact ⟨List.eq_nil_of_length_eq_zero h1.symm,List.eq_nil_of_length_eq_zero h2.symm⟩
 | c::q,a::l,b::m,l',m',r,h,hl,hm=>by
  simp only [zcl] at h
  split at h
  ·simp at h
  ·rename_i t ht
   split at h
   ·simp at h
   ·rename_i s hs
    cases l' with
    | nil=>have:=hl.len; simp at this
    | cons a' l'=>cases m' with
     | nil=>have:=hm.len; simp at this
     | cons b' m'=>
      obtain ⟨e1,e2⟩:=zuS ht (hl.get 0 a a' rfl rfl) (hm.get 0 b b' rfl rfl)
      obtain ⟨e3,e4⟩:=zmC q l m l' m' s hs ⟨by have:=hl.len; simpa using this,fun i v w hv hw=>hl.get (i+1) v w (by simpa using hv) (by simpa using hw)⟩
       ⟨by have:=hm.len; simpa using this,fun i v w hv hw=>hm.get (i+1) v w (by simpa using hv) (by simpa using hw)⟩
      exact ⟨by rw [e1,e3],by rw [e2,e4]⟩
 | [],[],_::_,_,_,_,h,_,_=>by simp [zcl] at h
 | [],_::_,_,_,_,_,h,_,_=>by simp [zcl] at h
 | _::_,[],_,_,_,_,h,_,_=>by simp [zcl] at h
 | _::_,_::_,[],_,_,_,h,_,_=>by simp [zcl] at h
theorem zyG (K:EnvOK E) {ρ:Ren} {ev:Ev} {eval:Operand→Value} (hev:zcE ρ ev eval) {h:SHeap} {w:World} (hw:WRel E ρ h w) {o:Oper} {n:SNext} {h':SHeap} {op:BinOp} {t u:TypeId} {x y:Operand}
  (ho:o.op=.binOp op t x y u) {a b:Value} (ha:ev x=some a) (hb:ev y=some b) (neg:Bool) (hop:op=bif neg then .neq else .eql)
  (hok:zpv E ev o h t a b neg=.ok (n,h')):zfh ρ h w n h' ((execOp eval o).run E.P w):=by
 have hra:=hev x a ha
 have hrb:=hev y b hb
 unfold zpv at hok
 split at hok
 ·rename_i xs ys
  split at hok
  ·rename_i ks hks
   unfold zlW at hok
   split at hok
   ·rename_i r hr
    obtain ⟨rfl,rfl⟩:=zaq hok
    obtain ⟨xs',e1,h1⟩:=hra.agg_inv
    obtain ⟨ys',e2,h2⟩:=hrb.agg_inv
    obtain ⟨e3,e4⟩:=zmC ks _ _ _ _ r hr h1 h2
    have e3:xs'=xs:=by cases xs'; cases xs; simpa using e3
    have e4:ys'=ys:=by cases ys'; cases ys; simpa using e4
    subst e3 e4
    obtain ⟨hg,he⟩:=K.eqT t ks hks
    have he:=he xs' ys' r hr w
    cases neg
    ·rw [cond_false] at hop; subst hop
     refine zdn hw ho (by rw [e1,e2]; exact znv _ _ _ _ _ hg _) ?_ (.bool _)
     rw [e1,e2]
     show (do pure (Value.bool (← Op.equal t (.agg xs') (.agg ys'))):Sem Value).run E.P w=_
     simp only [Sem.run_bind,he,Result.andThen_ok,Sem.run_pure,cond_false]
    ·rw [cond_true] at hop; subst hop
     refine zdn hw ho (by rw [e1,e2]; exact znv _ _ _ _ _ hg _) ?_ (.bool _)
     rw [e1,e2]
     show (do pure (Value.bool (!(← Op.equal t (.agg xs') (.agg ys')))):Sem Value).run E.P w=_
     simp only [Sem.run_bind,he,Result.andThen_ok,Sem.run_pure,cond_true]
   ·exact zdw hev hw ho hok
  ·exact zdw hev hw ho hok
 ·rename_i p q
  split at hok
  ·rename_i b1 b2 b3 ht
   obtain ⟨rfl,rfl⟩:=zaq hok
   have e1:=hra.bool_inv
   have e2:=hrb.bool_inv
   have he:(Op.equal t (.bool p) (.bool q)).run E.P w=.ok (p==q) w:=by
    unfold Op.equal Op.maxDepth Op.equalIn
    simp only [Sem.run_bind,K.und ht w,Result.andThen_ok]
    rfl
   cases neg
   ·rw [cond_false] at hop; subst hop
    refine zdn hw ho (by rw [e1,e2]; exact zpk _ _ _ _ _ _ _ _) ?_ (.bool _)
    rw [e1,e2]
    show (do pure (Value.bool (← Op.equal t (.bool p) (.bool q))):Sem Value).run E.P w=_
    simp only [Sem.run_bind,he,Result.andThen_ok,Sem.run_pure,cond_false]
   ·rw [cond_true] at hop; subst hop
    refine zdn hw ho (by rw [e1,e2]; exact zpk _ _ _ _ _ _ _ _) ?_ (.bool _)
    rw [e1,e2]
    show (do pure (Value.bool (!(← Op.equal t (.bool p) (.bool q)))):Sem Value).run E.P w=_
    simp only [Sem.run_bind,he,Result.andThen_ok,Sem.run_pure,cond_true]
    rfl
  ·exact zdw hev hw ho hok
 ·rename_i p q
  obtain ⟨rfl,rfl⟩:=zaq hok
  have e1:=hra.str_inv
  have e2:=hrb.str_inv
  cases neg
  ·rw [cond_false] at hop; subst hop
   refine zdn hw ho (by rw [e1,e2]; exact zms _ _ _ _ _ _ _ _) ?_ (.bool _)
   rw [e1,e2]
   simp [binOp,Op.stringOp,ByteArray.toList_eq]
  ·rw [cond_true] at hop; subst hop
   refine zdn hw ho (by rw [e1,e2]; exact zms _ _ _ _ _ _ _ _) ?_ (.bool _)
   rw [e1,e2]
   simp [binOp,Op.stringOp,ByteArray.toList_eq]
 ·rename_i ta p tb q
  split at hok
  ·rename_i ms b1 b2 b3 ht
   unfold zlL at hok
   split at hok
   ·rename_i r hr
    obtain ⟨rfl,rfl⟩:=zaq hok
    have hE:=zxk K hw ht rfl hr hra hrb
    cases neg
    ·rw [cond_false] at hop; subst hop
     refine zdn hw ho (hE.guard _ _ _) ?_ (.bool _)
     rw [hE.eql,Sem.run_bind,hE.eq]
     rfl
    ·rw [cond_true] at hop; subst hop
     refine zdn hw ho (hE.guard _ _ _) ?_ (.bool _)
     rw [hE.neq,Sem.run_bind,hE.eq]
     rfl
   ·exact zdw hev hw ho hok
  ·exact zdw hev hw ho hok
 ·split at hok
  ·rename_i ti ht
   split at hok
   ·rename_i r hr
    obtain ⟨rfl,rfl⟩:=zaq hok
    have hE:=zCI K ht rfl hr hra hrb w
    cases neg
    ·rw [cond_false] at hop; subst hop
     refine zdn hw ho (hE.guard _ _ _) ?_ (.bool _)
     rw [hE.eql,Sem.run_bind,hE.eq]
     rfl
    ·rw [cond_true] at hop; subst hop
     refine zdn hw ho (hE.guard _ _ _) ?_ (.bool _)
     rw [hE.neq,Sem.run_bind,hE.eq]
     rfl
   ·exact zdw hev hw ho hok
  ·exact zdw hev hw ho hok
theorem zvx (K:EnvOK E) (op:BinOp) (t u:TypeId) (x y:Operand):zdJ E (zau op t x y) (.binOp op t x y u):=by
 intro ev eval ρ h w o n h' ho hev hw hok
 unfold zau zcZ at hok
 split at hok
 ·rename_i k a k' b hx hy
  have e1:=(hev x _ hx).int_inv
  have e2:=(hev y _ hy).int_inv
  cases hs:zqJ op with
  | true=>
   rw [hs,cond_true] at hok
   unfold zhH at hok
   split at hok
   ·rename_i v hv
    obtain ⟨rfl,rfl⟩:=zaq hok
    obtain ⟨g1,g2⟩:=zhB E.P (l:=k') hv t w
    exact zdn hw ho (by rw [e1,e2]; exact zhM _ _ _ _ _ _ _ _ _ _) (by rw [e1,e2]; exact g1) (g2 ρ)
   ·exact zdw hev hw ho hok
  | false=>
   rw [hs,cond_false] at hok
   split at hok
   ·rename_i hk
    subst hk
    unfold zhH at hok
    split at hok
    ·rename_i v hv
     obtain ⟨rfl,rfl⟩:=zaq hok
     obtain ⟨g1,g2⟩:=zcD E.P hv t w
     exact zdn hw ho (by rw [e1,e2]; exact zhM _ _ _ _ _ _ _ _ _ _) (by rw [e1,e2]; exact g1) (g2 ρ)
    ·exact zdw hev hw ho hok
   ·exact zdw hev hw ho hok
 ·rename_i a b hno hx hy
  cases hsy:(zey a||zey b) with
  | true=>
   rw [hsy,cond_true] at hok
   have hra:=hev x _ hx
   have hrb:=hev y _ hy
   obtain ⟨κ,h0,hb⟩:∃ κ,ρ 0=some (0,κ)∧zbH κ=true:=by
    rcases Bool.or_eq_true_iff.1 hsy with q | q
    ·exact zhs q hra
    ·exact zhs q hrb
   unfold zCV zDh at hok
   split at hok
   ·rename_i v hv
    obtain ⟨rfl,rfl⟩:=zaq hok
    split at hv
    ·rename_i f g hf hg
     have e1:=ziH h0 hf hra
     have e2:=ziH h0 hg hrb
     obtain ⟨u,g1,g2⟩:=zzA E.P hv h0 hb t w
     exact zoS ho (by rw [e1,e2]; exact zhM _ _ _ _ _ _ _ _ _ _) (by rw [e1,e2]; exact g1) g2
    ·obtain ⟨⟨k1,x1,k2,x2,e1,e2⟩,u,g1,g2⟩:=zBP E.P hv hra hrb t w
     exact zoS ho (by rw [e1,e2]; exact zhM _ _ _ _ _ _ _ _ _ _) g1 g2
   ·simp at hok
  | false=>
  rw [hsy,cond_false] at hok
  split at hok
  ·exact zyG K hev hw ho hx hy false rfl hok
  ·exact zyG K hev hw ho hx hy true rfl hok
  ·unfold zol at hok
   split at hok
   ·rename_i p q
    cases hb:Nat.blt (p.data.toList.length+q.data.toList.length) 1000000000000 with
    | false=>rw [hb] at hok; simp at hok
    | true=>
     rw [hb,cond_true] at hok
     have hb:=zaB hb
     obtain ⟨rfl,rfl⟩:=zaq hok
     have e1:=(hev x _ hx).str_inv
     have e2:=(hev y _ hy).str_inv
     refine zdn hw ho (by rw [e1,e2]; exact zms _ _ _ _ _ _ _ _) ?_ (.string _)
     rw [e1,e2]
     have hs:p.size+q.size≤9223372036854775807:=zyi hb
     rw [← zBd]
     show (Op.stringOp .add p q).run E.P w=_
     exact run_string_add_sum _ _ _ hs
   ·exact zdw hev hw ho hok
  ·exact zdw hev hw ho hok
 ·simp at hok
end Go.Sim
namespace Go.Sim
variable {E:Env}
def zfp (b:Option Nat) (v:Option Value):Prop:=match b,v with
 | none,none=>True
 | some n,some (.int _ (.ofNat m))=>m=n
 | _,_=>False
theorem zeI {ρ:Ren} {ev:Ev} {eval:Operand→Value} (hev:zcE ρ ev eval) {x:Option Operand} {b:Option Nat} (h:zeT (x.map ev)=some b):zfp b (x.map eval):=by
 cases x with
 | none=>simp [zeT] at h; subst h; trivial
 | some x=>
  simp only [Option.map_some,zeT] at h
  split at h
  ·rename_i e; simp at e
  ·simp at h
  ·rename_i v hv
   split at h
   ·rename_i n hn
    obtain ⟨k,rfl⟩:=ztm hn
    simp only [Option.some.injEq] at h hv
    subst h
    have:=(hev x _ hv).int_inv
    simp only [Option.map_some,zfp,this]
   ·simp at h
theorem zdL (P:Program) (k:IntKind) (n y:Nat) (c:BoundsCode) (h:n≤y) (w:World):(Instr.sliceBound (.int k (.ofNat n)) y c).run P w=.ok n w:=by
 unfold Instr.sliceBound
 have:(0:Int)≤Int.ofNat n∧Int.ofNat n≤(y:Int):=⟨Int.natCast_nonneg n,Int.ofNat_le.2 h⟩
 simp only [asIntOf,Sem.run_bind,Sem.run_pure,Result.andThen_ok,this,and_self,if_true]
 rfl
theorem zfp.none_inv {v:Option Value} (h:zfp none v):v=none:=by
 cases v with
 | none=>rfl
 | some v=>simp [zfp] at h
theorem zfp.some_inv {n:Nat} {v:Option Value} (h:zfp (some n) v):∃ k,v=some (.int k (.ofNat n)):=by
 cases v with
 | none=>simp [zfp] at h
 | some v=>
  cases v with
  | int k m=>cases m with
   | ofNat m=>simp only [zfp] at h; subst h; exact ⟨k,rfl⟩
   | negSucc m=>simp [zfp] at h
  | _=>simp [zfp] at h
theorem zwE (P:Program) (isS:Bool) (len cap:Nat) {lo hi mx:Option Value} {bl:Option Nat} {m hh:Nat} (hl:zfp bl lo) (hh_:zfp (some hh) hi) (hm:zfp (some m) mx) (w:World)
  (h1:m≤cap) (h2:hh≤m) (h3:bl.getD 0≤hh):(Instr.sliceBounds isS len cap lo hi mx).run P w=.ok (bl.getD 0,hh,m) w:=by
 obtain ⟨k1,rfl⟩:=hh_.some_inv
 obtain ⟨k2,rfl⟩:=hm.some_inv
 unfold Instr.sliceBounds
 cases bl with
 | none=>
  rw [hl.none_inv]
  simp only [Sem.run_bind,zdL P k2 m cap _ h1,Result.andThen_ok,zdL P k1 hh m _ h2,Sem.run_pure,Option.getD_none]
 | some l=>
  obtain ⟨k3,rfl⟩:=hl.some_inv
  simp only [Option.getD_some] at h3 ⊢
  simp only [Sem.run_bind,zdL P k2 m cap _ h1,Result.andThen_ok,zdL P k1 hh m _ h2,Sem.run_pure,zdL P k3 l hh _ h3]
theorem zhJ (P:Program) (isS:Bool) (len cap:Nat) {lo hi:Option Value} {bl bh:Option Nat} (hl:zfp bl lo) (hh:zfp bh hi) (w:World)
  (h2:bh.getD len≤cap) (h3:bl.getD 0≤bh.getD len):(Instr.sliceBounds isS len cap lo hi none).run P w=.ok (bl.getD 0,bh.getD len,cap) w:=by
 unfold Instr.sliceBounds
 cases bh with
 | none=>
  rw [hh.none_inv]
  simp only [Option.getD_none] at h2 h3 ⊢
  cases bl with
  | none=>
   rw [hl.none_inv]
   simp only [Sem.run_bind,Result.andThen_ok,Sem.run_pure,Option.getD_none]
  | some l=>
   obtain ⟨k3,rfl⟩:=hl.some_inv
   simp only [Option.getD_some] at h3 ⊢
   simp only [Sem.run_bind,Result.andThen_ok,Sem.run_pure,zdL P k3 l len _ h3]
 | some g=>
  obtain ⟨k1,rfl⟩:=hh.some_inv
  simp only [Option.getD_some] at h2 h3 ⊢
  cases bl with
  | none=>
   rw [hl.none_inv]
   simp only [Sem.run_bind,zdL P k1 g cap _ h2,Result.andThen_ok,Sem.run_pure,Option.getD_none]
  | some l=>
   obtain ⟨k3,rfl⟩:=hl.some_inv
   simp only [Option.getD_some] at h3 ⊢
   simp only [Sem.run_bind,zdL P k1 g cap _ h2,Result.andThen_ok,Sem.run_pure,zdL P k3 l g _ h3]
end Go.Sim
namespace Go.Sim
variable {E:Env}
theorem zdo (r o n:Nat):Addr.add ⟨r,o,none⟩ n=⟨r,o+n,none⟩:=by unfold Addr.add; split<;>simp_all
theorem zeW (r o n:Nat):zbe ⟨r,o,none⟩ n=⟨r,o+n,none⟩:=by unfold zbe; split<;>simp_all
theorem zkz {ρ:Ren} {a ra:Option Addr} {len cap cap':Nat} {elem:TypeId} {bl bh bm:Option Nat} {v:Value} {ei:TI} (he:E.T elem=some ei)
  (hs:VRel ρ (.slice a len cap) (.slice ra len cap')) (hok:zgi E a len cap elem bl bh bm=.ok v) {lo hi mx:Option Value} (hl:zfp bl lo) (hh:zfp bh hi) (hm:zfp bm mx) (isS:Bool) (w:World) :
  ∃ l g m,(Instr.sliceBounds isS len cap' lo hi mx).run E.P w=.ok (l,g,m) w∧VRel ρ v (.slice (if m=l then ra else ra.map (·.add (l*ei.size))) (g-l) (m-l)):=by
 unfold zgi at hok
 rw [he] at hok
 simp only at hok
 have lens:openCap≤cap→len≤cap':=by
  intro hc
  cases hs with
  | slcNil h=>omega
  | slc h=>omega
  | slcOpen _ h=>exact h
  | slcLoose _ h=>exact h
  | slcNone=>omega
 have capeq:cap<openCap→cap'=cap:=by
  intro hc
  cases hs with
  | slcNil h=>rfl
  | slc h=>rfl
  | slcOpen _ h=>omega
  | slcLoose _ h=>unfold looseCap openCap at hc; omega
  | slcNone=>unfold looseCap openCap at hc; omega
 split at hok
 ·rename_i m
  split at hok
  ·simp at hok
  ·rename_i g
   split at hok
   ·simp at hok
   ·rename_i hc
    simp only [Bool.or_eq_true,Bool.and_eq_true,decide_eq_true_eq,not_or,not_and,Nat.not_lt,Bool.not_eq_true] at hc
    obtain ⟨⟨⟨⟨c1,c2⟩,c3⟩,c4⟩,c5⟩:=hc
    have hmc:m≤cap':=by
     by_cases h:openCap≤cap
     ·have:=lens h; have:=(c5 h).1; omega
     ·have:=capeq (by omega); omega
    refine ⟨bl.getD 0,g,m,zwE E.P isS len cap' hl hh hm w hmc (by omega) (by omega),?_⟩
    have hsm:m-bl.getD 0<openCap:=by omega
    split at hok
    ·rename_i e
     rw [if_pos e]
     injection hok with hok
     subst hok
     cases hs with
     | slcNil h=>exact .slcNil hsm
     | slc h hb=>exact .slc hsm hb
     | slcOpen hb h=>exact .slc hsm hb
     | slcLoose hb h=>exact .slc hsm hb
     | slcNone => 
      have:=(c5 (show openCap≤looseCap by decide)).2
      simp at this
    ·rename_i e
     rw [if_neg e]
     injection hok with hok
     subst hok
     cases hs with
     | slcNil h=>exact .slcNil hsm
     | slc h hb=>simp only [Option.map_some,zeW,zdo]; exact .slc hsm hb
     | slcOpen hb h=>simp only [Option.map_some,zeW,zdo]; exact .slc hsm hb
     | slcLoose hb h=>simp only [Option.map_some,zeW,zdo]; exact .slc hsm hb
     | slcNone=>
      have:=(c5 (show openCap≤looseCap by decide)).2
      simp at this
 ·have hmn:=hm.none_inv
  subst hmn
  split at hok
  ·rename_i hopen
   have hlen:=lens hopen
   split at hok
   ·simp at hok
   ·rename_i hc
    simp only [Bool.or_eq_true,decide_eq_true_eq,not_or] at hc
    refine ⟨bl.getD 0,bh.getD len,cap',zhJ E.P isS len cap' hl hh w (by omega) (by omega),?_⟩
    split at hok
    ·rename_i e
     injection hok with hok
     subst hok
     rw [e]
     have:(if cap'=0 then ra else ra.map (·.add (0*ei.size)))=ra:=by
      split
      ·rfl
      ·cases ra<;>simp [Addr.add]
     rw [this]
     simp only [Nat.sub_zero]
     cases hs with
     | slcNil h=>omega
     | slc h hb=>omega
     | slcOpen hb h=>exact .slcOpen hb (by omega)
     | slcLoose hb h=>exact .slcLoose hb (by omega)
     | slcNone => 
      have:bh.getD 0=0:=by omega
      rw [this]
      exact .slcNone _ _
    ·rename_i e
     split at hok
     ·rename_i e2
      injection hok with hok
      subst hok
      rw [if_neg (by omega)]
      cases hs with
      | slcNil h=>omega
      | slc h hb=>omega
      | slcOpen hb h=>simp only [Option.map_some,zeW,zdo]; exact .slcLoose hb (by omega)
      | slcLoose hb h=>simp only [Option.map_some,zeW,zdo]; exact .slcLoose hb (by omega)
      | slcNone=>omega
     ·rename_i e2
      injection hok with hok
      subst hok
      have:bh.getD len-bl.getD 0=0:=by omega
      rw [this]
      exact .slcNone _ _
  ·rename_i hopen
   have hce:=capeq (by omega)
   subst hce
   split at hok
   ·simp at hok
   ·rename_i hc
    simp only [Bool.or_eq_true,decide_eq_true_eq,not_or] at hc
    refine ⟨bl.getD 0,bh.getD len,cap',zhJ E.P isS len cap' hl hh w (by omega) (by omega),?_⟩
    split at hok
    ·rename_i e
     rw [if_pos e]
     injection hok with hok
     subst hok
     cases hs with
     | slcNil h=>exact .slcNil (by omega)
     | slc h hb=>exact .slc (by omega) hb
     | slcOpen hb h=>omega
     | slcLoose hb h=>exact absurd (show openCap≤looseCap by decide) hopen
     | slcNone=>exact absurd (show openCap≤looseCap by decide) hopen
    ·rename_i e
     rw [if_neg e]
     injection hok with hok
     subst hok
     cases hs with
     | slcNil h=>exact .slcNil (by omega)
     | slc h hb=>simp only [Option.map_some,zeW,zdo]; exact .slc (by omega) hb
     | slcOpen hb h=>omega
     | slcLoose hb h=>exact absurd (show openCap≤looseCap by decide) hopen
     | slcNone=>exact absurd (show openCap≤looseCap by decide) hopen
end Go.Sim
namespace Go.Sim
variable {E:Env}
theorem ztR {x:Option Operand} {ev:Ev} (h:x.map ev=none):x=none:=by cases x<;>simp_all
theorem ztt (s:ByteArray) (l g:Nat):s.extract l g=⟨((s.data.toList.drop l).take (g-l)).toArray⟩:=by
 apply ByteArray.ext
 apply Array.ext'
 simp [ByteArray.data_extract,List.take_drop]
theorem zKZ (K:EnvOK E) {ρ:Ren} {h:SHeap} {w:World} (hw:WRel E ρ h w) {t:TypeId} {v u rv:Value} {lo hi mx:Option Operand} {ev:Ev} {eval:Operand→Value} (hev:zcE ρ ev eval) (hv:VRel ρ v rv)
  (hu:upS E h t v (lo.map ev) (hi.map ev) (mx.map ev)=some u):∃ ru,VRel ρ u ru∧(Instr.sliceAt t rv (lo.map eval) (hi.map eval) (mx.map eval)).run E.P w=.ok ru w:=by
 unfold upS at hu
 split at hu
 ·rename_i b len c hh hl hg hm
  have rl:=zeI hev hl
  have rh:=zeI hev hg
  have hmn:mx=none:=by cases mx with | none=>rfl | some m=>simp at hm
  subst hmn
  cases hc:Nat.beq c openCap with
  | false=>rw [hc] at hu; simp at hu
  | true=>
   rw [hc,cond_true] at hu
   obtain rfl:=Nat.eq_of_beq_eq_true hc
   split at hu
   ·rename_i elem b1 b2 b3 cs n el ro ht hb
    split at hu
    ·rename_i ei hel
     cases hcd:(Nat.blt 0 ei.size&&Nat.beq el elem&&Nat.ble (hh*ei.size) n) with
     | false=>rw [hcd] at hu; simp at hu
     | true=>
      rw [hcd,cond_true] at hu
      simp only [Bool.and_eq_true] at hcd
      obtain ⟨⟨c1,c2⟩,c3⟩:=hcd
      have c1:=zaB c1
      obtain rfl:=Nat.eq_of_beq_eq_true c2
      have c3:=Nat.le_of_ble_eq_true c3
      injection hu with hu
      subst hu
      obtain ⟨r,κ,hbl,m,hm2⟩:=hw.live _ _ hb
      obtain ⟨ti,k1,k2⟩:=hm2.room rfl
      rw [hel] at k1
      obtain rfl:=Option.some.inj k1
      have hle:hh≤κ:=by
       have:=hm2.le
       rw [k2] at this
       exact Nat.le_of_mul_le_mul_right (Nat.le_trans c3 this) c1
      have hrv:rv=.slice (some ⟨r,0,none⟩) len κ:=by
       cases hv with
       | slc h=>omega
       | slcOpen h _=>rw [hbl] at h; obtain ⟨rfl,rfl⟩:r=_∧κ=_:=(by simpa using h); rfl
      subst hrv
      have hrun:=zhJ E.P true len κ rl rh w (by simpa using hle) (by simp)
      refine ⟨.slice (some ⟨r,0,none⟩) hh κ,.slcOpen hbl hle,?_⟩
      unfold Instr.sliceAt
      simp only [Sem.run_bind,K.und ht w,Result.andThen_ok]
      unfold Instr.slice
      simp only [Sem.run_bind,K.und ht w,Result.andThen_ok,Sem.run_pure,Option.map_none,hrun,K.sizeOf hel w]
      simp [Addr.add]
    ·simp at hu
   ·simp at hu
 ·simp at hu
theorem zqW (K:EnvOK E) (t:TypeId) (x:Operand) (lo hi mx:Option Operand):zdJ E (zfc t x lo hi mx) (.slice t x lo hi mx):=by
 intro ev eval ρ h w o n h' ho hev hw hok
 unfold zfc ziG at hok
 split at hok
 ·rename_i s hx
  have he:=(hev x _ hx).str_inv
  split at hok
  ·rename_i b1 b2 b3 l g ht hl hg hm
   have hmn:=ztR hm
   subst hmn
   split at hok
   cases hc:(Nat.ble (l.getD 0) (g.getD s.data.toList.length)&&Nat.ble (g.getD s.data.toList.length) s.data.toList.length) with
   | false=>rw [hc] at hok; simp at hok
   | true=>
    rw [hc,cond_true] at hok
    simp only [Bool.and_eq_true] at hc
    have h1:=zdA hc.1
    have h2:=zdA hc.2
    obtain ⟨rfl,rfl⟩:=zaq hok
    rw [ziZ ho,he]
    rw [← ziF] at h1 h2
    have hrun:=zhJ E.P false s.size s.size (zeI hev hl) (zeI hev hg) w h2 h1
    have:(Instr.sliceAt t (.string s) (lo.map eval) (hi.map eval) ((none:Option Operand).map eval)).run E.P w=.ok (.string (s.extract (l.getD 0) (g.getD s.size))) w:=by
     unfold Instr.sliceAt
     simp only [Sem.run_bind,K.und ht w,Result.andThen_ok]
     unfold Instr.slice
     simp only [Option.map_none,Option.isSome_none,Bool.false_eq_true,if_false,Sem.run_bind,K.und ht w,Result.andThen_ok,Sem.run_pure,hrun]
    rw [zaw _ _ _ _ _ this,ztt,ziF]
    exact .val (.string _)
  ·refine zeA hev o hok fun e1 e2 he => ?_
   have hm:∀ y:Option Operand,(∀ z,y=some z→z∈o.op.operands.toList)→y.map e1=y.map e2:=by
    intro y hy
    cases y with
    | none=>rfl
    | some z=>simp only [Option.map_some,he z (hy z rfl)]
   rw [ziZ ho,ziZ ho,he x (by rw [ho]; simp [Op.operands]),hm lo (by rintro z rfl; rw [ho]; simp [Op.operands]),hm hi (by rintro z rfl; rw [ho]; simp [Op.operands]),hm mx (by rintro z rfl; rw [ho]; simp [Op.operands])]
 ·rename_i v hns hx
  split at hok
  ·rename_i u hu
   obtain ⟨rfl,rfl⟩:=zaq hok
   unfold ztj at hu
   split at hu
   ·rename_i bl bh bm hl hh hm
    have rl:=zeI hev hl
    have rh:=zeI hev hh
    have rm:=zeI hev hm
    have hvr:=hev x _ hx
    rw [ziZ ho]
    split at hu
    ·rename_i k elem b1 b2 b3 a ht
     cases hb:Nat.blt k openCap with
     | false=>rw [hb] at hu; simp at hu
     | true=>
      rw [hb,cond_true] at hu
      obtain ⟨r,κ,hbl,hsp,he⟩:=hvr.ptr_inv
      obtain ⟨b,of,sp⟩:=a
      simp only at hsp hbl he
      subst hsp
      cases hel:E.T elem with
      | none=>unfold zgi at hu; rw [hel] at hu; simp at hu
      | some ei=>
       obtain ⟨l,g,m,hrun,hres⟩:=zkz (w:=w) (isS:=false) hel (.slc (l:=k) (zaB hb) hbl) hu rl rh rm
       have:(Instr.sliceAt t (eval x) (lo.map eval) (hi.map eval) (mx.map eval)).run E.P w=.ok (.slice (if m=l then some ⟨r,of,none⟩ else (some (⟨r,of,none⟩:Addr)).map (·.add (l*ei.size))) (g-l) (m-l)) w:=by
        unfold Instr.sliceAt
        simp only [Sem.run_bind,K.und ht w,Result.andThen_ok,he,Instr.sureAddr,Sem.run_pure,hrun,K.sizeOf hel w]
        split<;>rfl
       rw [zaw _ _ _ _ _ this]
       exact .val hres
    ·rename_i elem b1 b2 b3 a len cap ht
     have:∃ ra cap',eval x=.slice ra len cap':=by
      revert hvr; generalize eval x=e; intro hvr
      cases hvr<;>exact ⟨_,_,rfl⟩
     obtain ⟨ra,cap',he⟩:=this
     rw [he] at hvr
     cases hel:E.T elem with
     | none=>unfold zgi at hu; rw [hel] at hu; simp at hu
     | some ei=>
      obtain ⟨l,g,m,hrun,hres⟩:=zkz (w:=w) (isS:=true) hel hvr hu rl rh rm
      have:(Instr.sliceAt t (eval x) (lo.map eval) (hi.map eval) (mx.map eval)).run E.P w=.ok (.slice (if m=l then ra else ra.map (·.add (l*ei.size))) (g-l) (m-l)) w:=by
       unfold Instr.sliceAt
       simp only [Sem.run_bind,K.und ht w,Result.andThen_ok,he]
       unfold Instr.slice
       simp only [Sem.run_bind,K.und ht w,Result.andThen_ok,Sem.run_pure,hrun,K.sizeOf hel w]
      rw [zaw _ _ _ _ _ this]
      exact .val hres
    ·rename_i arr b1 b2 b3 a ht
     split at hu
     ·rename_i k elem c1 c2 c3 hta
      cases hb:Nat.blt k openCap with
      | false=>rw [hb] at hu; simp at hu
      | true=>
       rw [hb,cond_true] at hu
       obtain ⟨r,κ,hbl,hsp,he⟩:=hvr.ptr_inv
       obtain ⟨b,of,sp⟩:=a
       simp only at hsp hbl he
       subst hsp
       cases hel:E.T elem with
       | none=>unfold zgi at hu; rw [hel] at hu; simp at hu
       | some ei=>
        obtain ⟨l,g,m,hrun,hres⟩:=zkz (w:=w) (isS:=false) hel (.slc (l:=k) (zaB hb) hbl) hu rl rh rm
        have:(Instr.sliceAt t (eval x) (lo.map eval) (hi.map eval) (mx.map eval)).run E.P w=.ok (.slice (if m=l then some ⟨r,of,none⟩ else (some (⟨r,of,none⟩:Addr)).map (·.add (l*ei.size))) (g-l) (m-l)) w:=by
         unfold Instr.sliceAt
         simp only [Sem.run_bind,K.und ht w,Result.andThen_ok,he]
         unfold Instr.slice
         simp only [Sem.run_bind,K.und ht w,Result.andThen_ok,asAddr,Sem.run_pure,K.und hta w,hrun,K.sizeOf hel w]
         split<;>rfl
        rw [zaw _ _ _ _ _ this]
        exact .val hres
     ·simp at hu
    ·simp at hu
   ·simp at hu
  ·split at hok
   ·rename_i u hu
    obtain ⟨rfl,rfl⟩:=zaq hok
    obtain ⟨ru,hr,hrun⟩:=zKZ K hw hev (hev x _ hx) hu
    rw [ziZ ho,zaw _ _ _ _ _ hrun]
    exact .val hr
   ·simp at hok
 ·simp at hok
end Go.Sim

/- The machine's steps on one goroutine, for frames of calls and of rounds. The simulator's frames stand for the machine's; one operation, and a list of them. The simulator's frames stand for the machine's: lists of operations, plain code. The machine's steps on one goroutine: loops over functions, rounds, leaving. The simulator's frames stand for the machine's: loops over functions. The simulator's frames stand for the machine's: rounds, deferred calls, results, calls. The simulator's frames stand for the machine's: leaving, calls, the whole run. -/
import Derived.Calls
import Derived.Test.YtghhpeemloeljaaGreatOpsC
import Derived.Laws.Sem
set_option linter.unusedVariables false
set_option linter.unusedSimpArgs false
namespace Go.Sim
structure FxR where
 fn:FuncId
 kind:CallKind
 round:Option Nat
def fat (x:FxR) (tm:Array Value) (ds:List Deferred) (todo:List Item):Frame:={ fn:=x.fn,tmps:=tm,todo,defers:=ds,mode:=.run,kind:=x.kind,roundOf:=x.round }
def zcA (tm:Array Value):Operand→Value
 | .tmp t=>tm.getD t undef
 | .const v=>v
 | .global g=>.pointer (some ⟨g,0,none⟩)
 | .func f=>.func (.func f) #[] #[]
def zfz (tm:Array Value) (dst:Option Tmp) (v:Value):Array Value:=match dst with
 | some d=>tm.setIfInBounds d v
 | none=>tm
section
variable {P:Program} {x:FxR} {tm:Array Value} {ds:List Deferred} {k:List Item} {cs:List Frame} {w:World}
theorem ztv (o:Operand):(fat x tm ds k).eval o=zcA tm o:=by cases o<;>rfl
theorem zrk:(fat x tm ds k).eval=zcA tm:=funext ztv
theorem zed (ops:Array Oper) (i:Nat) (rest:List Nat) (v:Value) :
  (fat x tm ds (.inRegion ops (i::rest)::k)).finish v=fat x (zfz tm ((ops[i]?).bind (·.dst)) v) ds (.inRegion ops rest::k):=by
 cases h:(ops[i]?).bind (·.dst)<;>simp [Frame.finish,fat,zfz,h]
theorem zEd:step P (lone (fat x tm ds (.code .skip::k)) cs w)=.next (lone (fat x tm ds k) cs w):=
 step_lone_go (by simp [stepG,stepG.exec,fat])
theorem zAy {l:Nat}:step P (lone (fat x tm ds (.code (.label l)::k)) cs w)=.next (lone (fat x tm ds k) cs w):=
 step_lone_go (by simp [stepG,stepG.exec,fat])
theorem zpo {id:Nat}:step P (lone (fat x tm ds (.inBlock id::k)) cs w)=.next (lone (fat x tm ds k) cs w):=
 step_lone_go (by simp [stepG,stepG.exec,fat])
theorem zoP {b:Code}:step P (lone (fat x tm ds (.inScope b::k)) cs w)=.next (lone (fat x tm ds k) cs w):=
 step_lone_go (by simp [stepG,stepG.exec,fat])
theorem zyD {a b:Code}:step P (lone (fat x tm ds (.code (.seq a b)::k)) cs w)=.next (lone (fat x tm ds (.code a :: .code b::k)) cs w):=
 step_lone_go (by simp [stepG,stepG.exec,fat])
theorem zqk {c:Operand} {a b:Code} {t:Bool} (h:zcA tm c=.bool t) :
  step P (lone (fat x tm ds (.code (.cond c a b)::k)) cs w)=.next (lone (fat x tm ds (.code (if t then a else b)::k)) cs w):=
 step_lone_go (by
  have:=ztv (x:=x) (tm:=tm) (ds:=ds) (k:=(.code (.cond c a b)::k)) c
  simp only [fat] at this
  simp [stepG,stepG.exec,fat,this,h])
theorem ztO {id:Nat} {c:Code}:step P (lone (fat x tm ds (.code (.block id c)::k)) cs w)=.next (lone (fat x tm ds (.code c :: .inBlock id::k)) cs w):=
 step_lone_go (by simp [stepG,stepG.exec,fat])
theorem zvL {c:Code}:step P (lone (fat x tm ds (.code (.loop c)::k)) cs w)=.next (lone (fat x tm ds (.code c :: .inLoop c::k)) cs w):=
 step_lone_go (by simp [stepG,stepG.exec,fat])
theorem zrz {c:Code}:step P (lone (fat x tm ds (.inLoop c::k)) cs w)=.next (lone (fat x tm ds (.code c :: .inLoop c::k)) cs w):=
 step_lone_go (by simp [stepG,stepG.exec,fat])
theorem ztp {c:Code}:step P (lone (fat x tm ds (.code (.scope c)::k)) cs w)=.next (lone (fat x tm ds (.code c :: .inScope c::k)) cs w):=
 step_lone_go (by simp [stepG,stepG.exec,fat])
theorem zvd {id:Nat} {k':List Item} (h:exitTo id k=some k'):step P (lone (fat x tm ds (.code (.exit id)::k)) cs w)=.next (lone (fat x tm ds k') cs w):=
 step_lone_go (by simp [stepG,stepG.exec,fat,h])
theorem zrr {id:Nat} {ops:Array Oper} :
  step P (lone (fat x tm ds (.code (.region id ops false)::k)) cs w)=.next (lone (fat x tm ds (.inRegion ops (List.range ops.size)::k)) cs w):=
 step_lone_go (by simp [stepG,stepG.exec,fat])
theorem zqd {id:Nat} {ops:Array Oper} :
  step P (lone (fat x tm ds (.code (.region id ops true)::k)) cs w) =
   .next (lone (fat x tm ds (.inRegion ops (Region.schedule (P.follows .mixedOrders) ops (w.tape w.drawn (.order x.fn id)))::k)) cs { w with drawn:=w.drawn+1 }):=
 step_lone_go (by simp [stepG,stepG.exec,fat,choose,Sem.run,Question.forced,Question.cut])
theorem zib {ops:Array Oper}:step P (lone (fat x tm ds (.inRegion ops []::k)) cs w)=.next (lone (fat x tm ds k) cs w):=
 step_lone_go (by simp [stepG,stepG.exec,fat])
theorem zkC {ops:Array Oper} {i:Nat} {rest:List Nat} {o:Oper} (ho:ops[i]? = some o) (h:Region.wanted o (yielded ops tm)=false) :
  step P (lone (fat x tm ds (.inRegion ops (i::rest)::k)) cs w)=.next (lone (fat x (zfz tm o.dst undef) ds (.inRegion ops rest::k)) cs w):=by
 have hf:=zed (x:=x) (tm:=tm) (ds:=ds) (k:=k) ops i rest undef
 rw [ho] at hf
 simp only [Option.bind_some] at hf
 rw [← hf]
 exact step_lone_go (by
  simp only [fat] at *
  simp [stepG,stepG.exec,ho,h])
theorem zkh {ops:Array Oper} {i:Nat} {rest:List Nat} {o:Oper} (ho:ops[i]? = some o) (hw:Region.wanted o (yielded ops tm)=true) (hd:x.round=none∨∀ c,o.op ≠ .defer c) :
  stepG P true { frame:=fat x tm ds (.inRegion ops (i::rest)::k),callers:=cs,status:=.running,dying:=none } w =
   stepG.apply P true (fat x tm ds (.inRegion ops (i::rest)::k)) cs none (execOp (zcA tm) o) w:=by
 have he:=zrk (x:=x) (tm:=tm) (ds:=ds) (k:=.inRegion ops (i::rest)::k)
 simp only [fat] at he
 simp only [fat]
 simp [stepG,stepG.exec,stepG.oper,Frame.oper?,ho,hw,he]
 split
 ·rename_i h1 h2
  rcases hd with hd | hd
  ·rw [hd] at h1; simp at h1
  ·exact absurd h2 (hd _)
 ·rfl
theorem zhq {ops:Array Oper} {i:Nat} {rest:List Nat} {o:Oper} (ho:ops[i]? = some o) (hw:Region.wanted o (yielded ops tm)=true) (hd:x.round=none∨∀ c,o.op ≠ .defer c)
  {v:Value} {w':World} (hr:(execOp (zcA tm) o).run P w=.ok (.value v) w') :
  step P (lone (fat x tm ds (.inRegion ops (i::rest)::k)) cs w)=.next (lone (fat x (zfz tm o.dst v) ds (.inRegion ops rest::k)) cs w'):=by
 have hf:=zed (x:=x) (tm:=tm) (ds:=ds) (k:=k) ops i rest v
 rw [ho] at hf
 simp only [Option.bind_some] at hf
 rw [← hf]
 exact step_lone_go (by rw [zkh ho hw hd]; simp [stepG.apply,hr])
theorem ziz {ops:Array Oper} {i:Nat} {rest:List Nat} {o:Oper} (ho:ops[i]? = some o) (hw:Region.wanted o (yielded ops tm)=true) (hd:x.round=none∨∀ c,o.op ≠ .defer c)
  {w':World} (hr:(execOp (zcA tm) o).run P w=.ok .skip w') :
  step P (lone (fat x tm ds (.inRegion ops (i::rest)::k)) cs w)=.next (lone (fat x (zfz tm o.dst undef) ds (.inRegion ops rest::k)) cs w'):=by
 have hf:=zed (x:=x) (tm:=tm) (ds:=ds) (k:=k) ops i rest undef
 rw [ho] at hf
 simp only [Option.bind_some] at hf
 rw [← hf]
 exact step_lone_go (by rw [zkh ho hw hd]; simp [stepG.apply,hr])
theorem zBA {ops:Array Oper} {i:Nat} {rest:List Nat} {o:Oper} (ho:ops[i]? = some o) (hw:Region.wanted o (yielded ops tm)=true) (hd:x.round=none∨∀ c,o.op ≠ .defer c)
  {d:Deferred} {w':World} (hr:(execOp (zcA tm) o).run P w=.ok (.defer d) w') :
  step P (lone (fat x tm ds (.inRegion ops (i::rest)::k)) cs w)=.next (lone (fat x (zfz tm o.dst undef) (d::ds) (.inRegion ops rest::k)) cs w'):=by
 have hf:=zed (x:=x) (tm:=tm) (ds:=d::ds) (k:=k) ops i rest undef
 rw [ho] at hf
 simp only [Option.bind_some] at hf
 rw [← hf]
 exact step_lone_go (by rw [zkh ho hw hd]; simp only [stepG.apply,Sem.runT_eq,hr,GStep.bare_after]; rfl)
theorem ztw {ops:Array Oper} {i:Nat} {rest:List Nat} {o:Oper} (ho:ops[i]? = some o) (hw:Region.wanted o (yielded ops tm)=true) (hd:x.round=none∨∀ c,o.op ≠ .defer c)
  {f:FuncId} {args:Array Value} {w':World} (hr:(execOp (zcA tm) o).run P w=.ok (.enter f args) w') :
  step P (lone (fat x tm ds (.inRegion ops (i::rest)::k)) cs w)=.next (lone (Frame.enter P f args .normal) (fat x tm ds (.inRegion ops (i::rest)::k)::cs) w'):=
 step_lone_go (by rw [zkh ho hw hd]; simp [stepG.apply,hr,fat])
theorem zsM {ops:Array Oper} {i:Nat} {rest:List Nat} {o:Oper} (ho:ops[i]? = some o) (hw:Region.wanted o (yielded ops tm)=true) (hd:x.round=none∨∀ c,o.op ≠ .defer c)
  {l:Nat} {f:FuncId} {t:Array Value} {a b:Code} {w':World} (hr:(execOp (zcA tm) o).run P w=.ok (.round l f t a b) w') :
  step P (lone (fat x tm ds (.inRegion ops (i::rest)::k)) cs w)=.next (lone (Frame.round l f t a b .normal) (fat x tm ds (.inRegion ops (i::rest)::k)::cs) w'):=
 step_lone_go (by rw [zkh ho hw hd]; simp [stepG.apply,hr])
theorem zxC {ops:Array Oper} {i:Nat} {rest:List Nat} {o:Oper} (ho:ops[i]? = some o) (hw:Region.wanted o (yielded ops tm)=true) (hd:x.round=none) (hk:x.kind=.deferred)
  {c:Frame} (hm:c.mode=.returning) {w':World} (hr:(execOp (zcA tm) o).run P w=.ok .recover w') :
  step P (lone (fat x tm ds (.inRegion ops (i::rest)::k)) (c::cs) w)=.next (lone (fat x (zfz tm o.dst .nilIface) ds (.inRegion ops rest::k)) (c::cs) w'):=by
 have hf:=zed (x:=x) (tm:=tm) (ds:=ds) (k:=k) ops i rest .nilIface
 rw [ho] at hf
 simp only [Option.bind_some] at hf
 rw [← hf]
 refine step_lone_go ?_
 rw [zkh ho hw (.inl hd)]
 have:tryRecover (fat x tm ds (.inRegion ops (i::rest)::k)) (c::cs)=none:=by
  unfold tryRecover
  simp [fat,hk,hm]
 have h2:(fat x tm ds (.inRegion ops (i::rest)::k)).roundOf=none:=hd
 simp only [stepG.apply,Sem.runT_eq,hr,GStep.bare_after,h2,this]
 rfl
end
end Go.Sim
namespace Go.Sim
variable {E:Env}
structure FxRel (ρ:Ren) (fx:Fx) (x:FxR):Prop where
 fn:x.fn=fx.fn
 kind:x.kind=fx.kind
 round:match fx.round,x.round with
  | none,none=>True
  | some l,some r=>∃ κ,ρ l=some (r,κ)
  | _,_=>False
theorem FxRel.mono {ρ ρ':Ren} (h:Le ρ ρ') {fx:Fx} {x:FxR} (k:FxRel ρ fx x):FxRel ρ' fx x:=by
 refine ⟨k.fn,k.kind,?_⟩
 have:=k.round
 revert this
 cases fx.round<;>cases x.round<;>simp only [imp_self]
 rintro ⟨κ,hk⟩
 exact ⟨κ,h _ _ hk⟩
theorem FxRel.none {ρ:Ren} {fx:Fx} {x:FxR} (k:FxRel ρ fx x) (h:fx.round=.none):x.round=.none:=by
 have:=k.round
 rw [h] at this
 cases hx:x.round with
 | none=>rfl
 | some r=>rw [hx] at this; exact this.elim
def zfQ (k:CallKind) (cs:List Frame):Prop:=k=.deferred→∃ c cs',cs=c::cs'∧c.mode=.returning
structure SRel (E:Env) (ρ:Ren) (fx:Fx) (st:St) (tm:Array Value) (ds:List Deferred) (w:World):Prop where
 tm:TmRel ρ st.tm fx.nt tm
 ds:DLRel ρ st.defers ds
 w:WRel E ρ st.h w
 g:zeu E ρ
theorem TmRel.put {ρ:Ren} {tm:Tr Value} {nt:Nat} {a:Array Value} (k:TmRel ρ tm nt a) {v u:Value} (hv:VRel ρ v u) (dst:Option Tmp):TmRel ρ (zcr tm nt dst v) nt (zfz a dst u):=by
 cases dst with
 | none=>exact k
 | some d=>
  simp only [zcr,zfz]
  refine ⟨by simp [k.size],fun i x hx => ?_⟩
  cases hd:Nat.blt d nt with
  | false=>
   rw [hd,cond_false] at hx
   obtain ⟨y,hy,hr⟩:=k.get i x hx
   refine ⟨y,?_,hr⟩
   have hid:d≠i:=by
    rintro rfl
    have:d<a.size:=by
     rcases Nat.lt_or_ge d a.size with h | h
     ·exact h
     ·rw [Array.getElem?_eq_none h] at hy; simp at hy
    rw [k.size] at this
    rw [zaI this] at hd
    simp at hd
   rw [Array.getElem?_setIfInBounds_ne hid]
   exact hy
  | true=>
   rw [hd,cond_true] at hx
   have hd:=zaB hd
   rw [zaa] at hx
   split at hx
   ·rename_i he
    obtain rfl:=Option.some.inj hx
    rw [he.1]
    exact ⟨u,by simp [k.size,hd],hv⟩
   ·rename_i he
    have hi:=zbU hx
    have hid:d≠i:=by
     rintro rfl
     exact he ⟨rfl,hi⟩
    rw [Array.getElem?_setIfInBounds_ne hid]
    exact k.get i x hx
theorem zkc {ρ:Ren} {tm:Tr Value} {nt:Nat} {a:Array Value} (k:TmRel ρ tm nt a) (g:zeu E ρ):zcE ρ (evT E.G tm) (zcA a):=by
 intro x v hv
 cases x with
 | tmp t=>
  obtain ⟨u,hu,hr⟩:=k.get t v hv
  simp only [zcA]
  rw [Array.getD_eq_getD_getElem?,hu]
  exact hr
 | const c=>
  simp only [evT] at hv
  cases hp:zaP 4 c with
  | false=>rw [hp] at hv; simp at hv
  | true=>
   rw [hp,cond_true] at hv
   obtain rfl:=Option.some.inj hv
   exact zdu 4 c hp
 | global q=>
  simp only [evT] at hv
  cases hp:Nat.blt q E.G with
  | false=>rw [hp] at hv; simp at hv
  | true=>
   rw [hp,cond_true] at hv
   obtain rfl:=Option.some.inj hv
   obtain ⟨κ,hk,_⟩:=g q (zaB hp)
   exact .ptr hk
 | func f=>
  simp only [evT] at hv
  obtain rfl:=Option.some.inj hv
  exact .func' (.func f) (.nil ρ) (.nil ρ)
theorem zoG {ρ:Ren} {tm:Tr Value} {nt:Nat} {a:Array Value} (k:TmRel ρ tm nt a) {all:Array Oper} {o:Oper} {b:Bool} (h:zah all tm o.guard=some b):Region.wanted o (yielded all a)=b:=by
 unfold zah at h
 unfold Region.wanted
 cases hg:o.guard with
 | none=>rw [hg] at h; simpa using h
 | some p=>
  obtain ⟨j,want⟩:=p
  rw [hg] at h
  simp only at h ⊢
  unfold yielded
  cases hd:(all[j]?).bind (·.dst) with
  | none=>
   rw [hd] at h
   simp at h
   simp [h]
  | some d=>
   rw [hd] at h
   simp only at h ⊢
   cases hv:tm.get d with
   | none=>rw [hv] at h; simp at h
   | some v=>
    rw [hv] at h
    obtain ⟨u,hu,hr⟩:=k.get d v hv
    simp only [Option.bind_some,hu]
    cases hr<;>simp at h<;>simp [← h]
theorem zfL (ρ:Ren):VRel ρ (.tuple #[]) undef:=.tuple' (.nil ρ)
def KOK (E:Env) (ih:K):Prop:=∀ q h v h',ih q h=.ok (v,h')→∀ ρ w,WRel E ρ h w→zeu E ρ→match q with
 | .call f args kind=>∀ rargs:Array Value,LRel ρ args.toList rargs.toList→∀ (c:Frame) (cs:List Frame),(kind=.normal∨(kind=.deferred∧c.mode=.returning)) →
   ∃ ρ' w' u,VRel ρ' v u∧WRel E ρ' h' w'∧Stp ρ h w ρ' h' w'∧Steps E.P (lone (Frame.enter E.P f rargs kind) (c::cs) w) (lone (match kind with | .normal=>c.finish u | _=>c) cs w')
 | .round l r args=>∀ (rl κ:Nat) (m:Loop) (rargs:Array Value),ρ l=some (rl,κ)→LoopRel ρ r m→LRel ρ args.toList rargs.toList→args.size=r.params.size→∀ (c:Frame) (cs:List Frame),
   ∃ ρ' w' u,VRel ρ' v u∧WRel E ρ' h' w'∧Stp ρ h w ρ' h' w' ∧
    Steps E.P (lone (Frame.round rl m.fn ((m.params.zip rargs).foldl (fun tmps (t,a)=>tmps.setIfInBounds t a) m.tmps) m.assign m.body .normal) (c::cs) w) (lone (c.finish u) cs w')
theorem zfv {tm:Tr Value} {h:SHeap} {ds:List Deferred} {st:St} (hs:zhn tm h ds=.ok st):st=⟨tm,h,ds⟩:=by
 unfold zhn at hs
 obtain ⟨t,next⟩:=h
 simp only [zav,zaD] at hs
 exact (Except.ok.inj hs).symm
theorem zuA (KE:EnvOK E) {ih:K} (hih:KOK E ih) {fx:Fx} {x:FxR} {ρ:Ren} {st st':St} {tm:Array Value} {ds:List Deferred} {w:World} (hx:FxRel ρ fx x) (hs:SRel E ρ fx st tm ds w)
  {ops:Array Oper} {i:Nat} {o:Oper} (ho:ops[i]? = some o) (hok:opS E ih fx ops o st=.ok st') (rest:List Nat) (k:List Item) (cs:List Frame) (hcs:zfQ x.kind cs) :
  ∃ ρ' tm' ds' w',SRel E ρ' fx st' tm' ds' w'∧Stp ρ st.h w ρ' st'.h w'∧Steps E.P (lone (fat x tm ds (.inRegion ops (i::rest)::k)) cs w) (lone (fat x tm' ds' (.inRegion ops rest::k)) cs w'):=by
 obtain ⟨dst,op,ty,pos,after,guard⟩:=o
 obtain ⟨tmv,h,dv⟩:=st
 have hev:=zkc hs.tm hs.g
 unfold opS at hok
 simp only at hok
 cases hw:zah ops tmv guard with
 | none=>rw [hw] at hok; simp at hok
 | some b=>
  rw [hw] at hok
  have hwa:=zoG (o:=⟨dst,op,ty,pos,after,guard⟩) hs.tm hw
  cases b with
  | false=>
   have:=zfv hok
   subst this
   exact ⟨ρ,_,ds,w,⟨hs.tm.put (zfL ρ) dst,hs.ds,hs.w,hs.g⟩,Stp.refl _ _ _,.one (zkC ho hwa)⟩
  | true=>
   simp only at hok
   split at hok
   ·simp at hok
   ·rename_i out hd
    obtain ⟨n,h1⟩:=out
    have hop:=znu KE op _ _ ρ h w ⟨dst,op,ty,pos,after,guard⟩ n h1 rfl hev hs.w hd
    obtain ⟨ρ1,w1,n1,k1,k2,k3,k4⟩:=hop
    unfold zhY at hok
    have hdef:x.round=none∨∀ c,(⟨dst,op,ty,pos,after,guard⟩:Oper).op ≠ .defer c:=by
     cases hr:fx.round with
     | none=>exact .inl (hx.none hr)
     | some l=>
      refine .inr fun c e => ?_
      have e:op=.defer c:=e
      subst e
      have hd':zgd (evT E.G tmv) c h=.ok (n,h1):=hd
      unfold zgd at hd'
      split at hd'
      ·obtain ⟨rfl,rfl⟩:=zaq hd'
       simp only [hr] at hok
       simp at hok
      ·simp at hd'
    have hx1:=hx.mono k3.le
    have hg1:=hs.g.mono k3.le
    cases k1 with
    | value hv=>
     simp only [zeF] at hok
     have:=zfv hok
     subst this
     exact ⟨ρ1,_,ds,w1,⟨(hs.tm.mono k3.le).put hv dst,hs.ds.mono k3.le,k2,hg1⟩,k3,.one (zhq ho hwa hdef k4)⟩
    | skip=>
     simp only [zeF] at hok
     have:=zfv hok
     subst this
     exact ⟨ρ1,_,ds,w1,⟨(hs.tm.mono k3.le).put (zfL ρ1) dst,hs.ds.mono k3.le,k2,hg1⟩,k3,.one (ziz ho hwa hdef k4)⟩
    | defer hd1=>
     simp only at hok
     split at hok
     ·have:=zfv hok
      subst this
      exact ⟨ρ1,_,_,w1,⟨(hs.tm.mono k3.le).put (zfL ρ1) dst,.cons hd1 (hs.ds.mono k3.le),k2,hg1⟩,k3,.one (zBA ho hwa hdef k4)⟩
     ·simp at hok
    | recover=>
     simp only at hok
     split at hok
     ·rename_i hk hr
      have:=zfv hok
      subst this
      have hkd:x.kind=.deferred:=hx.kind.trans hk
      obtain ⟨c,cs',rfl,hm⟩:=hcs hkd
      have hr0:x.round=none:=hx.none hr
      exact ⟨ρ1,_,ds,w1,⟨(hs.tm.mono k3.le).put .nilIface dst,hs.ds.mono k3.le,k2,hg1⟩,k3,.one (zxC ho hwa hr0 hkd hm k4)⟩
     ·simp at hok
    | enter ha=>
     simp only at hok
     split at hok
     ·simp at hok
     ·rename_i q hc
      obtain ⟨v,h2⟩:=q
      simp only [zeF] at hok
      have:=zfv hok
      subst this
      obtain ⟨ρ2,w2,u,f1,f2,f3,f4⟩:=hih _ _ _ _ hc ρ1 w1 k2 hg1 _ ha (fat x tm ds (.inRegion ops (i::rest)::k)) cs (.inl rfl)
      simp only [zed,ho,Option.bind_some] at f4
      exact ⟨ρ2,_,ds,w2,⟨(hs.tm.mono (k3.le.trans f3.le)).put f1 dst,hs.ds.mono (k3.le.trans f3.le),f2,hg1.mono f3.le⟩,k3.trans f3,.head (ztw ho hwa hdef k4) f4⟩
    | round hb hl ha hsz=>
     simp only at hok
     split at hok
     ·simp at hok
     ·rename_i q hc
      obtain ⟨v,h2⟩:=q
      simp only [zeF] at hok
      have:=zfv hok
      subst this
      obtain ⟨ρ2,w2,u,f1,f2,f3,f4⟩:=hih _ _ _ _ hc ρ1 w1 k2 hg1 _ _ _ _ hb hl ha hsz (fat x tm ds (.inRegion ops (i::rest)::k)) cs
      simp only [zed,ho,Option.bind_some] at f4
      exact ⟨ρ2,_,ds,w2,⟨(hs.tm.mono (k3.le.trans f3.le)).put f1 dst,hs.ds.mono (k3.le.trans f3.le),f2,hg1.mono f3.le⟩,k3.trans f3,.head (zsM ho hwa hdef k4) f4⟩
end Go.Sim
namespace Go.Sim
variable {E:Env}
theorem zvt (KE:EnvOK E) {ih:K} (hih:KOK E ih) {fx:Fx} {x:FxR} {ops:Array Oper} (k:List Item) (cs:List Frame) (hcs:zfQ x.kind cs):∀ (is:List Nat) (os:List Oper),is.map (ops[·]?)=os.map some →
  ∀ (ρ:Ren) (st st':St) (tm:Array Value) (ds:List Deferred) (w:World),FxRel ρ fx x→SRel E ρ fx st tm ds w→zep E ih fx ops os st=.ok st' →
   ∃ ρ' tm' ds' w',SRel E ρ' fx st' tm' ds' w'∧Stp ρ st.h w ρ' st'.h w'∧Steps E.P (lone (fat x tm ds (.inRegion ops is::k)) cs w) (lone (fat x tm' ds' k) cs w')
 | [],[],_,ρ,st,st',tm,ds,w,hx,hs,hok=>by
  simp only [zep,Except.ok.injEq] at hok
  subst hok
  exact ⟨ρ,tm,ds,w,hs,Stp.refl _ _ _,.one zib⟩
 | [],_::_,h,_,_,_,_,_,_,_,_,_=>by simp at h
 | _::_,[],h,_,_,_,_,_,_,_,_,_=>by simp at h
 | i::is,o::os,h,ρ,st,st',tm,ds,w,hx,hs,hok=>by
  simp only [List.map_cons,List.cons.injEq] at h
  obtain ⟨h1,h2⟩:=h
  simp only [zep] at hok
  split at hok
  ·simp at hok
  ·rename_i st1 h3
   obtain ⟨ρ1,tm1,ds1,w1,k1,k2,k3⟩:=zuA KE hih hx hs h1 h3 is k cs hcs
   obtain ⟨ρ2,tm2,ds2,w2,l1,l2,l3⟩:=zvt KE hih k cs hcs is os h2 ρ1 st1 st' tm1 ds1 w1 (hx.mono k2.le) k1 hok
   exact ⟨ρ2,tm2,ds2,w2,l1,k2.trans l2,k3.trans l3⟩
def zgx (x:FxR) (k:List Item) (cs:List Frame):Out→Array Value→List Deferred→World→Machine→Prop
 | .normal,tm,ds,w,m=>m=lone (fat x tm ds k) cs w
 | .exit id,tm,ds,w,m=>∃ k2,exitTo id k2=exitTo id k∧m=lone (fat x tm ds (.code (.exit id)::k2)) cs w
 | .ret,tm,ds,w,m=>∃ k2,m=lone (fat x tm ds (.code .ret::k2)) cs w
def zjE (E:Env) (fx:Fx) (x:FxR) (cs:List Frame) (ρ:Ren) (h:SHeap) (w:World) (m:Machine) (k:List Item) (o:Out) (st':St):Prop:=
 ∃ ρ' tm' ds' w' m',SRel E ρ' fx st' tm' ds' w'∧Stp ρ h w ρ' st'.h w'∧zgx x k cs o tm' ds' w' m'∧Steps E.P m m'
theorem zjE.head {fx:Fx} {x:FxR} {cs:List Frame} {ρ:Ren} {h:SHeap} {w:World} {m m1:Machine} {k:List Item} {o:Out} {st':St} (hs:step E.P m=.next m1) (hg:zjE E fx x cs ρ h w m1 k o st') :
  zjE E fx x cs ρ h w m k o st':=by
 obtain ⟨ρ',tm',ds',w',m',a,b,c,d⟩:=hg
 exact ⟨ρ',tm',ds',w',m',a,b,c,.head hs d⟩
def zcP (E:Env) (ih:K) (f:Fx→St→RS) (c:Code):Prop:=∀ (fx:Fx) (x:FxR) (ρ:Ren) (st:St) (tm:Array Value) (ds:List Deferred) (w:World) (o:Out) (st':St),
 FxRel ρ fx x→SRel E ρ fx st tm ds w→f fx st=.ok (o,st')→∀ (k:List Item) (cs:List Frame),zfQ x.kind cs→zjE E fx x cs ρ st.h w (lone (fat x tm ds (.code c::k)) cs w) k o st'
theorem zjE.exit_congr {fx:Fx} {x:FxR} {cs:List Frame} {ρ:Ren} {h:SHeap} {w:World} {m:Machine} {k k':List Item} {o:Out} {st':St} (hn:o ≠ .normal) (he:∀ id,exitTo id k=exitTo id k') (hg:zjE E fx x cs ρ h w m k o st') :
  zjE E fx x cs ρ h w m k' o st':=by
 obtain ⟨ρ',tm',ds',w',m',a,b,c,d⟩:=hg
 refine ⟨ρ',tm',ds',w',m',a,b,?_,d⟩
 cases o with
 | normal=>exact absurd rfl hn
 | exit id=>obtain ⟨k2,h1,h2⟩:=c; exact ⟨k2,h1.trans (he id),h2⟩
 | ret=>exact c
theorem zrx (ops:Array Oper):(List.range ops.size).map (ops[·]?)=ops.toList.map some:=by
 refine List.ext_getElem? fun i => ?_
 by_cases h:i<ops.size
 ·simp [h]
 ·simp [h]
theorem zjy {r:Ex St} {o:Out} {st':St} (h:zfb r=.ok (o,st')):r=.ok st'∧o=.normal:=by
 unfold zfb at h
 split at h
 ·simp only [Except.ok.injEq,Prod.mk.injEq] at h
  obtain ⟨rfl,rfl⟩:=h
  exact ⟨rfl,rfl⟩
 ·simp at h
theorem zwo (KE:EnvOK E) {ih:K} (hih:KOK E ih) (id:Nat) (ops:Array Oper):zcP E ih (fun fx st=>zfb (zep E ih fx ops ops.toList st)) (.region id ops false):=by
 intro fx x ρ st tm ds w o st' hx hs hok k cs hcs
 obtain ⟨hok2,rfl⟩:=zjy hok
 obtain ⟨ρ',tm',ds',w',a,b,c⟩:=zvt KE hih k cs hcs _ _ (zrx ops) ρ st st' tm ds w hx hs hok2
 exact ⟨ρ',tm',ds',w',_,a,b,rfl,.head zrr c⟩
theorem zFb {ih:K} {a b:Code} (ha:zcP E ih (fun fx st=>zab a E ih fx st) a) (hb:zcP E ih (fun fx st=>zab b E ih fx st) b) :
  zcP E ih (fun fx st=>zab (.seq a b) E ih fx st) (.seq a b):=by
 intro fx x ρ st tm ds w o st' hx hs hok k cs hcs
 simp only [zab,zBb,zkF] at hok
 split at hok
 ·simp at hok
 ·rename_i o1 st1 h1
  refine .head zyD ?_
  have g1:=ha fx x ρ st tm ds w o1 st1 hx hs h1 (.code b::k) cs hcs
  have he:∀ id,exitTo id (.code b::k)=exitTo id k:=fun _=>rfl
  cases o1 with
  | normal=>
   obtain ⟨ρ1,tm1,ds1,w1,m1,k1,k2,k3,k4⟩:=g1
   simp only [zgx] at k3
   subst k3
   obtain ⟨ρ2,tm2,ds2,w2,m2,l1,l2,l3,l4⟩:=hb fx x ρ1 st1 tm1 ds1 w1 o st' (hx.mono k2.le) k1 hok k cs hcs
   exact ⟨ρ2,tm2,ds2,w2,m2,l1,k2.trans l2,l3,k4.trans l4⟩
  | exit i=>
   simp only [Except.ok.injEq,Prod.mk.injEq] at hok
   obtain ⟨rfl,rfl⟩:=hok
   exact g1.exit_congr (by simp) he
  | ret=>
   simp only [Except.ok.injEq,Prod.mk.injEq] at hok
   obtain ⟨rfl,rfl⟩:=hok
   exact g1.exit_congr (by simp) he
theorem zCD {ih:K} {c:Operand} {a b:Code} (ha:zcP E ih (fun fx st=>zab a E ih fx st) a) (hb:zcP E ih (fun fx st=>zab b E ih fx st) b) :
  zcP E ih (fun fx st=>zab (.cond c a b) E ih fx st) (.cond c a b):=by
 intro fx x ρ st tm ds w o st' hx hs hok k cs hcs
 simp only [zab,zxw] at hok
 split at hok
 ·rename_i t ht
  have hr:=zkc hs.tm hs.g c _ ht
  have he:zcA tm c=.bool t:=by
   revert hr; generalize zcA tm c=e; intro hr; cases hr; rfl
  refine .head (zqk he) ?_
  cases t with
  | true=>exact ha fx x ρ st tm ds w o st' hx hs hok k cs hcs
  | false=>exact hb fx x ρ st tm ds w o st' hx hs hok k cs hcs
 ·simp at hok
theorem zyQ {ih:K} {id:Nat} {b:Code} (hb:zcP E ih (fun fx st=>zab b E ih fx st) b):zcP E ih (fun fx st=>zab (.block id b) E ih fx st) (.block id b):=by
 intro fx x ρ st tm ds w o st' hx hs hok k cs hcs
 simp only [zab,zut,zgM] at hok
 split at hok
 ·simp at hok
 ·rename_i o1 st1 h1
  refine .head ztO ?_
  have g1:=hb fx x ρ st tm ds w o1 st1 hx hs h1 (.inBlock id::k) cs hcs
  obtain ⟨ρ1,tm1,ds1,w1,m1,k1,k2,k3,k4⟩:=g1
  cases o1 with
  | normal=>
   simp only [Except.ok.injEq,Prod.mk.injEq] at hok
   obtain ⟨rfl,rfl⟩:=hok
   simp only [zgx] at k3
   subst k3
   exact ⟨ρ1,tm1,ds1,w1,_,k1,k2,rfl,k4.trans (.one zpo)⟩
  | exit i=>
   simp only at hok
   obtain ⟨k5,e1,rfl⟩:=k3
   cases hi:Nat.beq i id with
   | true=>
    rw [hi,cond_true] at hok
    simp only [Except.ok.injEq,Prod.mk.injEq] at hok
    obtain ⟨rfl,rfl⟩:=hok
    rw [zaF,decide_eq_true_eq] at hi
    subst hi
    exact ⟨ρ1,tm1,ds1,w1,_,k1,k2,rfl,k4.trans (.one (zvd (by rw [e1]; simp [exitTo])))⟩
   | false=>
    rw [hi,cond_false] at hok
    simp only [Except.ok.injEq,Prod.mk.injEq] at hok
    obtain ⟨rfl,rfl⟩:=hok
    rw [zaF,decide_eq_false_iff_not] at hi
    refine ⟨ρ1,tm1,ds1,w1,_,k1,k2,⟨k5,?_,rfl⟩,k4⟩
    rw [e1]
    simp [exitTo,Ne.symm hi]
  | ret=>
   simp only [Except.ok.injEq,Prod.mk.injEq] at hok
   obtain ⟨rfl,rfl⟩:=hok
   obtain ⟨k5,rfl⟩:=k3
   exact ⟨ρ1,tm1,ds1,w1,_,k1,k2,⟨k5,rfl⟩,k4⟩
theorem ztY {ih:K} {b:Code} (hb:zcP E ih (fun fx st=>zab b E ih fx st) b) (fx:Fx) (x:FxR) (k:List Item) (cs:List Frame) (hcs:zfQ x.kind cs):∀ (n:Nat) (ρ:Ren) (st:St) (tm:Array Value) (ds:List Deferred) (w:World) (o:Out) (st':St),
  FxRel ρ fx x→SRel E ρ fx st tm ds w→zfE (zab b E ih fx) n st=.ok (o,st')→zjE E fx x cs ρ st.h w (lone (fat x tm ds (.code b :: .inLoop b::k)) cs w) k o st'
 | 0,ρ,st,tm,ds,w,o,st',hx,hs,hok=>by simp [zfE] at hok
 | n+1,ρ,st,tm,ds,w,o,st',hx,hs,hok=>by
  simp only [zfE] at hok
  split at hok
  ·simp at hok
  ·rename_i o1 st1 h1
   have g1:=hb fx x ρ st tm ds w o1 st1 hx hs h1 (.inLoop b::k) cs hcs
   cases o1 with
   | normal=>
    obtain ⟨ρ1,tm1,ds1,w1,m1,k1,k2,k3,k4⟩:=g1
    simp only [zgx] at k3
    subst k3
    obtain ⟨ρ2,tm2,ds2,w2,m2,l1,l2,l3,l4⟩:=ztY hb fx x k cs hcs n ρ1 st1 tm1 ds1 w1 o st' (hx.mono k2.le) k1 hok
    exact ⟨ρ2,tm2,ds2,w2,m2,l1,k2.trans l2,l3,k4.trans (.head zrz l4)⟩
   | exit i=>
    simp only [Except.ok.injEq,Prod.mk.injEq] at hok
    obtain ⟨rfl,rfl⟩:=hok
    exact g1.exit_congr (by simp) (fun _=>rfl)
   | ret=>
    simp only [Except.ok.injEq,Prod.mk.injEq] at hok
    obtain ⟨rfl,rfl⟩:=hok
    exact g1.exit_congr (by simp) (fun _=>rfl)
theorem zAf {ih:K} {b:Code} (hb:zcP E ih (fun fx st=>zab b E ih fx st) b):zcP E ih (fun fx st=>zab (.loop b) E ih fx st) (.loop b):=by
 intro fx x ρ st tm ds w o st' hx hs hok k cs hcs
 simp only [zab,zxp] at hok
 exact .head zvL (ztY hb fx x k cs hcs _ ρ st tm ds w o st' hx hs hok)
theorem zyq {ih:K} {b:Code} (hb:zcP E ih (fun fx st=>zab b E ih fx st) b):zcP E ih (fun fx st=>zab (.scope b) E ih fx st) (.scope b):=by
 intro fx x ρ st tm ds w o st' hx hs hok k cs hcs
 simp only [zab] at hok
 refine .head ztp ?_
 have g1:=hb fx x ρ st tm ds w o st' hx hs hok (.inScope b::k) cs hcs
 cases o with
 | normal=>
  obtain ⟨ρ1,tm1,ds1,w1,m1,k1,k2,k3,k4⟩:=g1
  simp only [zgx] at k3
  subst k3
  exact ⟨ρ1,tm1,ds1,w1,_,k1,k2,rfl,k4.trans (.one zoP)⟩
 | exit i=>exact g1.exit_congr (by simp) (fun _=>rfl)
 | ret=>exact g1.exit_congr (by simp) (fun _=>rfl)
theorem zzX {ih:K}:zcP E ih (fun fx st=>zab .skip E ih fx st) .skip:=by
 intro fx x ρ st tm ds w o st' hx hs hok k cs hcs
 simp only [zab,zpd,Except.ok.injEq,Prod.mk.injEq] at hok
 obtain ⟨rfl,rfl⟩:=hok
 exact ⟨ρ,tm,ds,w,_,hs,Stp.refl _ _ _,rfl,.one zEd⟩
theorem zyR {ih:K} (l:Nat):zcP E ih (fun fx st=>zab (.label l) E ih fx st) (.label l):=by
 intro fx x ρ st tm ds w o st' hx hs hok k cs hcs
 simp only [zab,zpd,Except.ok.injEq,Prod.mk.injEq] at hok
 obtain ⟨rfl,rfl⟩:=hok
 exact ⟨ρ,tm,ds,w,_,hs,Stp.refl _ _ _,rfl,.one zAy⟩
theorem zBM {ih:K} (i:Nat):zcP E ih (fun fx st=>zab (.exit i) E ih fx st) (.exit i):=by
 intro fx x ρ st tm ds w o st' hx hs hok k cs hcs
 simp only [zab,zwY,Except.ok.injEq,Prod.mk.injEq] at hok
 obtain ⟨rfl,rfl⟩:=hok
 exact ⟨ρ,tm,ds,w,_,hs,Stp.refl _ _ _,⟨k,rfl,rfl⟩,Steps.refl _ _⟩
theorem zEa {ih:K}:zcP E ih (fun fx st=>zab .ret E ih fx st) .ret:=by
 intro fx x ρ st tm ds w o st' hx hs hok k cs hcs
 simp only [zab,zAA,Except.ok.injEq,Prod.mk.injEq] at hok
 obtain ⟨rfl,rfl⟩:=hok
 exact ⟨ρ,tm,ds,w,_,hs,Stp.refl _ _ _,⟨k,rfl⟩,Steps.refl _ _⟩
end Go.Sim
namespace Go.Sim
def zfA (x:FxR) (tm:Array Value) (ds:List Deferred) (todo:List Item):Frame:={ fn:=x.fn,tmps:=tm,todo,defers:=ds,mode:=.returning,kind:=x.kind,roundOf:=x.round }
section
variable {P:Program} {x:FxR} {tm:Array Value} {ds:List Deferred} {k:List Item} {cs:List Frame} {w w1 w2:World}
theorem zAX {f:Operand} {params:Array Tmp} {assign body:Code} {l:Nat} {mark:List Deferred} {g:FuncId} {args:Array Value}
  (h1:(Instr.enterLoop x.fn tm params assign body x.round).run P w=.ok (l,mark) w1)
  (h2:(do let d ← resolve (zcA tm) { callee:=.value f,args := #[.const (.func (.yield l) #[] #[])],argTypes := #[] } 0; invoke d.target d.args:Sem Next).run P w1=.ok (.enter g args) w2) :
  step P (lone (fat x tm ds (.code (.rangeFunc f params assign body)::k)) cs w) =
   .next (lone (Frame.enter P g args .normal) (fat x tm (mark++ds) (.inRangeFunc l::k)::cs) w2):=
 step_lone_go (by
  have he:=zrk (x:=x) (tm:=tm) (ds:=mark++ds) (k:=.inRangeFunc l::k)
  simp only [fat] at he
  simp only [stepG,stepG.exec,fat,Sem.runT_eq,h1,GStep.bare_after,stepG.apply,if_true,he,h2]
  rfl)
theorem znO (l:Nat) (v:Value):(fat x tm ds (.inRangeFunc l::k)).finish v=fat x tm ds (.endRangeFunc l::k):=rfl
theorem zuU {l:Nat} {jump:Option Code} (h:(Instr.endLoop l).run P w=.ok jump w1) :
  step P (lone (fat x tm ds (.endRangeFunc l::k)) cs w)=.next (lone (fat x tm ds ((jump.map Item.code).toList++k)) cs w1):=
 step_lone_go (by simp only [stepG,stepG.exec,fat,Sem.runT_eq,h,GStep.bare_after]; rfl)
theorem zAp {l:Nat} (hx:x.round=some l) (h:(Instr.beginRound l).run P w=.ok () w1) :
  step P (lone (fat x tm ds (.beginRound::k)) cs w)=.next (lone (fat x tm ds k) cs w1):=
 step_lone_go (by
  simp only [stepG,stepG.exec,fat,hx,stepG.apply,if_true,Sem.runT_eq,Option.elim,Sem.run_bind,h,Result.andThen_ok,Sem.run_pure,GStep.bare_after,Frame.finish]
  rfl)
theorem zyH (l:Nat) (f:FuncId) (t:Array Value) (a b:Code):Frame.round l f t a b .normal=fat ⟨f,.normal,some l⟩ t [] [.code a,.beginRound,.code b]:=rfl
theorem ziP {l:Nat} (hx:x.round=some l) (hk:x.kind=.normal) {todo:List Item} {jump:Option Code}
  (ht:(todo=[]∧jump=none)∨(∃ k2,todo=.code .ret::k2∧jump=some .ret)∨(∃ id k2,todo=.code (.exit id)::k2∧exitTo id k2=none∧jump=some (.exit id)))
  {v:Value} (h:(Instr.endRound l jump).run P w=.ok v w1) (c:Frame) :
  step P (lone (fat x tm ds todo) (c::cs) w)=.next (lone (c.finish v) cs w1):=by
 refine step_lone_go ?_
 rcases ht with ⟨rfl,rfl⟩ | ⟨k2,rfl,rfl⟩ | ⟨id,k2,rfl,h2,rfl⟩
 ·simp only [stepG,stepG.exec,fat,hx,Sem.runT_eq,h,GStep.bare_after,doReturn,hk]
  rfl
 ·simp only [stepG,stepG.exec,fat,hx,Sem.runT_eq,h,GStep.bare_after,doReturn,hk]
  rfl
 ·simp only [stepG,stepG.exec,fat,hx,h2,Option.elim,Sem.runT_eq,h,GStep.bare_after,doReturn,hk]
  rfl
theorem zns (hx:x.round=none) {todo:List Item} (ht:todo=[]∨∃ k2,todo=.code .ret::k2):step P (lone (fat x tm ds todo) cs w)=.next (lone (zfA x tm ds todo) cs w):=by
 refine step_lone_go ?_
 rcases ht with rfl | ⟨k2,rfl⟩
 ·simp [stepG,stepG.exec,fat,zfA,hx]
 ·simp [stepG,stepG.exec,fat,zfA,hx]
theorem zDy {todo:List Item} {r:Nat} {a:Array Value} {calls:List Deferred} (h:(Instr.takeDeferred r).run P w=.ok calls w1) :
  step P (lone (zfA x tm ({ target:=.collected r,args:=a }::ds) todo) cs w)=.next (lone (zfA x tm (calls++ds) todo) cs w1):=
 step_lone_go (by simp only [stepG,unwind,zfA,Sem.runT_eq,h,GStep.bare_after]; rfl)
theorem zoo {todo:List Item} {fn:Fn} {c a:Array Value} {g:FuncId} {args:Array Value} (h:(invoke (.fn fn c) a).run P w=.ok (.enter g args) w1) :
  step P (lone (zfA x tm ({ target:=.fn fn c,args:=a }::ds) todo) cs w)=.next (lone (Frame.enter P g args .deferred) (zfA x tm ds todo::cs) w1):=
 step_lone_go (by
  simp only [stepG,unwind,zfA,callDeferred,Bool.false_and,Bool.false_eq_true,if_false,Sem.runT_eq,h,GStep.bare_after]
  rfl)
theorem zru {todo:List Item} {fn:Func} (hf:P.funcs[x.fn]? = some fn) {v:Value} (hr:(results fn tm).run P w=.ok v w) (hk:x.kind=.normal) (c:Frame) :
  step P (lone (zfA x tm [] todo) (c::cs) w)=.next (lone (c.finish v) cs w):=
 step_lone_go (by simp only [stepG,unwind,zfA,hf,Sem.runT_eq,hr,GStep.bare_after,doReturn,hk]; rfl)
theorem zlO {todo:List Item} {fn:Func} (hf:P.funcs[x.fn]? = some fn) {v:Value} (hr:(results fn tm).run P w=.ok v w) (hk:x.kind=.deferred) (c:Frame) (hc:c.mode=.returning) :
  step P (lone (zfA x tm [] todo) (c::cs) w)=.next (lone c cs w):=
 step_lone_go (by simp only [stepG,unwind,zfA,hf,Sem.runT_eq,hr,GStep.bare_after,doReturn,hk,hc]; rfl)
end
end Go.Sim
namespace Go.Sim
variable {E:Env}
theorem zgR (P:Program) {w:World} {r:Nat} {m:Loop} (h:w.heap[r]? = some (.loop m)) (o:Obj):(setObj r o).run P w=.ok () { w with heap:=w.heap.setIfInBounds r o }:=by
 simp only [setObj,Sem.run,h]
theorem znW {ρ:Ren} {h:SHeap} {w:World} (hw:WRel E ρ h w) {b r κ:Nat} {l l':SLoop} {m m':Loop} (hg:h.t.get b=some (.loop l)) (hb:ρ b=some (r,κ)) (hm:w.heap[r]? = some (.loop m)) (hl:LoopRel ρ l' m') :
  WRel E ρ (h.set b (some (.loop l'))) { w with heap:=w.heap.setIfInBounds r (.loop m') }∧Stp ρ h w ρ (h.set b (some (.loop l'))) { w with heap:=w.heap.setIfInBounds r (.loop m') }:=by
 have hlt:r<w.heap.size:=by
  rcases Nat.lt_or_ge r w.heap.size with h | h
  ·exact h
  ·rw [Array.getElem?_eq_none h] at hm; simp at hm
 exact hw.set (o:=.loop l) (o':=.loop l') (w':={ w with heap:=w.heap.setIfInBounds r (.loop m') }) hg hb trivial (by simp) (fun s hs=>by simp [Array.getElem?_setIfInBounds,Ne.symm hs]) ⟨m',by simp [hlt],hl⟩ rfl rfl rfl
theorem zuN {fx:Fx} {x:FxR} {ρ:Ren} {st:St} {tm:Array Value} {ds:List Deferred} {w:World} (hs:SRel E ρ fx st tm ds w) {l r κ:Nat} (hb:ρ l=some (r,κ)) {o:Out} {st':St}
  (hok:znK st l=.ok (o,st')) (k:List Item) (cs:List Frame):zjE E fx x cs ρ st.h w (lone (fat x tm ds (.endRangeFunc r::k)) cs w) k o st':=by
 obtain ⟨tmv,h,dv⟩:=st
 unfold znK at hok
 simp only at hok
 split at hok
 ·rename_i state pend f1 f2 f3 f4 f5 f6 f7 hg
  obtain ⟨m,hm,hl⟩:=zgU hs.w hg hb
  have hl':LoopRel ρ ⟨.exhausted,pend,f1,f2,f3,f4,f5,f6,f7⟩ { m with state:=.exhausted }:=⟨rfl,hl.pending,hl.fn,hl.tm,hl.params,hl.assign,hl.body,hl.defers⟩
  obtain ⟨g1,g2⟩:=znW hs.w hg hb hm hl'
  have key:state ≠ .busy→(Instr.endLoop r).run E.P w=.ok pend { w with heap:=w.heap.setIfInBounds r (.loop { m with state:=.exhausted }) }:=by
   intro hne
   have hst:(m.state == .busy)=false:=by rw [hl.state]; simpa using hne
   simp only [Instr.endLoop,Instr.getLoop,Sem.run_bind,zeC E.P hm,Result.andThen_ok,Sem.run_pure,hst,Bool.false_eq_true,if_false,zgR E.P hm,hl.pending]
  have hsr:SRel E ρ fx ⟨tmv,h.set l (some (.loop ⟨.exhausted,pend,f1,f2,f3,f4,f5,f6,f7⟩)),dv⟩ tm ds { w with heap:=w.heap.setIfInBounds r (.loop { m with state:=.exhausted }) }:=⟨hs.tm,hs.ds,g1,hs.g⟩
  have fin:state ≠ .busy→zqu pend (zhn tmv (h.set l (some (.loop ⟨.exhausted,pend,f1,f2,f3,f4,f5,f6,f7⟩))) dv)=.ok (o,st')→zjE E fx x cs ρ h w (lone (fat x tm ds (.endRangeFunc r::k)) cs w) k o st':=by
   intro hne hh
   unfold zqu at hh
   have hst:=zuU (x:=x) (tm:=tm) (ds:=ds) (k:=k) (cs:=cs) (key hne)
   split at hh
   ·obtain ⟨h1,rfl⟩:=zjy hh
    have:=zfv h1
    subst this
    exact ⟨ρ,tm,ds,_,_,hsr,g2,rfl,.one hst⟩
   ·split at hh
    ·rename_i st1 h1
     simp only [Except.ok.injEq,Prod.mk.injEq] at hh
     obtain ⟨rfl,rfl⟩:=hh
     have:=zfv h1
     subst this
     exact ⟨ρ,tm,ds,_,_,hsr,g2,⟨k,rfl,rfl⟩,.one hst⟩
    ·simp at hh
   ·split at hh
    ·rename_i st1 h1
     simp only [Except.ok.injEq,Prod.mk.injEq] at hh
     obtain ⟨rfl,rfl⟩:=hh
     have:=zfv h1
     subst this
     exact ⟨ρ,tm,ds,_,_,hsr,g2,⟨k,rfl⟩,.one hst⟩
    ·simp at hh
   ·simp at hh
  cases state with
  | busy=>simp at hok
  | ready=>exact fin (by simp) hok
  | done=>exact fin (by simp) hok
  | exhausted=>exact fin (by simp) hok
 ·simp at hok
theorem zoJ (KE:EnvOK E) {ih:K} (hih:KOK E ih) {fx:Fx} {x:FxR} {ρ:Ren} {tmv:Tr Value} {h:SHeap} {dv:List Deferred} {tm:Array Value} {ds:List Deferred} {w:World} (hx:FxRel ρ fx x)
  (hs:SRel E ρ fx ⟨tmv,h,dv⟩ tm ds w) {fop:Operand} {params:Array Tmp} {assign body:Code} {f g:Fn} {first captured rf rc:Array Value} (he:zcA tm fop=.func g rf rc) (hf:FnRel ρ f g)
  (h1:LRel ρ first.toList rf.toList) (h2:LRel ρ captured.toList rc.toList) {mark rmark:List Deferred} (hmk:DLRel ρ mark rmark) {dl rdl κd:Nat} (hdl:ρ dl=some (rdl,κd)) {w0:World}
  (hent:(Instr.enterLoop x.fn tm params assign body x.round).run E.P w0=.ok (w.heap.size,rmark) { w with heap:=w.heap.push (.loop { state:=.ready,pending:=none,fn:=x.fn,tmps:=tm,params,assign,body,defers:=rdl }) })
  {o:Out} {st':St} (hok:znk E ih fx f first captured params assign body tmv h dv mark dl=.ok (o,st')) (k:List Item) (cs:List Frame) :
  ∃ ρ' tm' ds' w' m',SRel E ρ' fx st' tm' ds' w'∧Stp ρ h w ρ' st'.h w'∧zgx x k cs o tm' ds' w' m'∧Steps E.P (lone (fat x tm ds (.code (.rangeFunc fop params assign body)::k)) cs w0) m':=by
 unfold znk at hok
 split at hok
 ·rename_i q args h3 hinv
  split at hok
  ·simp at hok
  ·rename_i v h4 hc
   obtain ⟨n1,n2⟩:=hs.w.new (.loop ⟨.ready,none,fx.fn,tmv,fx.nt,params,assign,body,dl⟩) (.loop { state:=.ready,pending:=none,fn:=x.fn,tmps:=tm,params,assign,body,defers:=rdl }) 0 w.drawn
    ⟨{ state:=.ready,pending:=none,fn:=x.fn,tmps:=tm,params,assign,body,defers:=rdl },by simp,⟨rfl,rfl,hx.fn,hs.tm.mono (zgV hs.w _),rfl,rfl,rfl,κd,zgV hs.w _ _ _ hdl⟩⟩
   have hyield:upd ρ h.next (w.heap.size,0) h.next=some (w.heap.size,0):=by simp [upd]
   have hargs:LRel (upd ρ h.next (w.heap.size,0)) (first ++ #[(.func (.yield h.next) #[] #[]:Value)]).toList (rf ++ #[(.func (.yield w.heap.size) #[] #[]:Value)]).toList:=by
    simp only [Array.toList_append]
    exact (h1.mono n2.le).append (.cons (.func' (.yield hyield) (.nil _) (.nil _)) (.nil _))
   obtain ⟨ρ1,w1,nx,k1,k2,k3,k4⟩:=zkw KE n1 (.fn (hf.mono n2.le) (h2.mono n2.le)) hargs hinv
   cases k1 with
   | enter ha=>
    rename_i rargs
    have hcall:(do let d ← resolve (zcA tm) { callee:=.value fop,args := #[.const (.func (.yield w.heap.size) #[] #[])],argTypes := #[] } 0; invoke d.target d.args:Sem Next).run E.P
      { w with heap:=w.heap.push (.loop { state:=.ready,pending:=none,fn:=x.fn,tmps:=tm,params,assign,body,defers:=rdl }) }=.ok (.enter q rargs) w1:=by
     simp only [resolve,he,Deferred.ofValue,Sem.run_bind,Sem.run_pure,Result.andThen_ok]
     rw [show Array.map (zcA tm) #[Operand.const (.func (.yield w.heap.size) #[] #[])] = #[.func (.yield w.heap.size) #[] #[]] by simp [zcA]]
     exact k4
    have hstep:=zAX (k:=k) (cs:=cs) (ds:=ds) hent hcall
    obtain ⟨ρ2,w2,u,l1,l2,l3,l4⟩:=hih _ _ _ _ hc ρ1 w1 k2 ((hs.g.mono n2.le).mono k3.le) _ ha (fat x tm (rmark++ds) (.inRangeFunc w.heap.size::k)) cs (.inl rfl)
    simp only [znO] at l4
    have hle:=(n2.trans k3).trans l3
    have hs2:SRel E ρ2 fx ⟨tmv,h4,mark++dv⟩ tm (rmark++ds) w2:=⟨hs.tm.mono hle.le,(hmk.mono hle.le).append (hs.ds.mono hle.le),l2,hs.g.mono hle.le⟩
    obtain ⟨ρ3,tm3,ds3,w3,m3,j1,j2,j3,j4⟩:=zuN (x:=x) hs2 ((k3.trans l3).le _ _ hyield) hok k cs
    exact ⟨ρ3,tm3,ds3,w3,m3,j1,hle.trans j2,j3,.head hstep (l4.trans j4)⟩
 ·simp at hok
 ·simp at hok
theorem zzq (KE:EnvOK E) {ih:K} (hih:KOK E ih) (fop:Operand) (params:Array Tmp) (assign body:Code):zcP E ih (fun fx st=>zsA E ih fx fop params assign body st) (.rangeFunc fop params assign body):=by
 intro fx x ρ st tm ds w o st' hx hs hok k cs hcs
 obtain ⟨tmv,h,dv⟩:=st
 simp only [zsA] at hok
 split at hok
 ·rename_i f first captured hf
  obtain ⟨g,rf,rc,he,e1,e2,e3⟩:=(zkc hs.tm hs.g fop _ hf).func_inv
  split at hok
  ·rename_i hr
   have hxr:=hx.none hr
   obtain ⟨n1,n2⟩:=hs.w.new (.deferred (some [])) (.deferred (some [])) 0 w.drawn ⟨some [],by simp,DLRel.nil⟩
   have hat:upd ρ h.next (w.heap.size,0) h.next=some (w.heap.size,0):=by simp [upd]
   have hs1:SRel E (upd ρ h.next (w.heap.size,0)) fx ⟨tmv,h.new (.deferred (some [])),dv⟩ tm ds { w with heap:=w.heap.push (.deferred (some [])),drawn:=w.drawn }:=⟨hs.tm.mono n2.le,hs.ds.mono n2.le,n1,hs.g.mono n2.le⟩
   have hent:(Instr.enterLoop x.fn tm params assign body x.round).run E.P w=.ok (({ w with heap:=w.heap.push (.deferred (some [])),drawn:=w.drawn }:World).heap.size,[{ target:=.collected w.heap.size,args := #[] }])
     { ({ w with heap:=w.heap.push (.deferred (some [])),drawn:=w.drawn }:World) with heap:=({ w with heap:=w.heap.push (.deferred (some [])),drawn:=w.drawn }:World).heap.push (.loop { state:=.ready,pending:=none,fn:=x.fn,tmps:=tm,params,assign,body,defers:=w.heap.size }) }:=by
    rw [hxr]
    rfl
   obtain ⟨ρ',tm',ds',w',m',a,b,c,d⟩:=zoJ KE hih (hx.mono n2.le) hs1 he (e1.mono n2.le) (e2.mono n2.le) (e3.mono n2.le)
    (.cons ⟨.collected hat,.nil _⟩ .nil) hat hent hok k cs
   exact ⟨ρ',tm',ds',w',m',a,n2.trans b,c,d⟩
  ·rename_i l hr
   split at hok
   ·rename_i r hg
    have hxr:=hx.round
    rw [hr] at hxr
    cases hxx:x.round with
    | none=>rw [hxx] at hxr; exact hxr.elim
    | some rl=>
     rw [hxx] at hxr
     obtain ⟨κ,hb⟩:=hxr
     obtain ⟨m,hm,hl⟩:=zgU hs.w hg hb
     obtain ⟨κd,hd⟩:=hl.defers
     have hent:(Instr.enterLoop x.fn tm params assign body x.round).run E.P w=.ok (w.heap.size,[]) { w with heap:=w.heap.push (.loop { state:=.ready,pending:=none,fn:=x.fn,tmps:=tm,params,assign,body,defers:=m.defers }) }:=by
      rw [hxx]
      simp only [Instr.enterLoop,Instr.getLoop,Sem.run_bind,zeC E.P hm,Result.andThen_ok,Sem.run_pure]
      rfl
     exact zoJ KE hih hx hs he e1 e2 e3 .nil hd hent hok k cs
   ·simp at hok
 ·simp at hok
end Go.Sim
namespace Go.Sim
variable {E:Env}
theorem zpx {ρ:Ren} {nt:Nat}:∀ (l m:List (Tmp×Value)) (tm tm':Tr Value) (a:Array Value),l.length=m.length→(∀ (i:Nat) (p q:Tmp×Value),l[i]? = some p→m[i]? = some q→p.1=q.1∧VRel ρ p.2 q.2) →
  TmRel ρ tm nt a→zkj tm nt l=some tm'→TmRel ρ tm' nt (m.foldl (fun tmps (t,a)=>tmps.setIfInBounds t a) a)
 | [],[],tm,tm',a,_,_,h,hok=>by simp only [zkj,Option.some.injEq] at hok; subst hok; exact h
 | [],_::_,_,_,_,h,_,_,_=>by simp at h
 | _::_,[],_,_,_,h,_,_,_=>by simp at h
 | (t,v)::l,(s,u)::m,tm,tm',a,hl,hg,h,hok=>by
  obtain ⟨rfl,hv⟩:=hg 0 _ _ rfl rfl
  simp only [zkj,zav] at hok
  cases hb:Nat.blt t nt with
  | false=>rw [hb] at hok; simp at hok
  | true=>
   rw [hb,cond_true] at hok
   have hp:=h.put hv (some t)
   simp only [zcr,hb,cond_true,zfz] at hp
   exact zpx l m _ tm' _ (by simpa using hl) (fun i p q hp hq=>hg (i+1) p q (by simpa using hp) (by simpa using hq)) hp hok
theorem zzE {ρ:Ren} {ps:List Tmp} {a b:List Value} (h:LRel ρ a b):(ps.zip a).length=(ps.zip b).length∧∀ (i:Nat) (p q:Tmp×Value),(ps.zip a)[i]? = some p→(ps.zip b)[i]? = some q→p.1=q.1∧VRel ρ p.2 q.2:=by
 refine ⟨by simp [h.len],fun i p q hp hq => ?_⟩
 rw [List.getElem?_zip_eq_some] at hp hq
 refine ⟨?_,h.get i _ _ hp.2 hq.2⟩
 have:=hp.1
 rw [hq.1] at this
 exact (Option.some.inj this).symm
theorem zzF {ρ:Ren} {h h':SHeap} {w:World} (hw:WRel E ρ h w) {l r κ:Nat} (hb:ρ l=some (r,κ)) (hok:zsV l h=.ok h') :
  ∃ w',(Instr.beginRound r).run E.P w=.ok () w'∧WRel E ρ h' w'∧Stp ρ h w ρ h' w':=by
 unfold zsV at hok
 split at hok
 ·rename_i state pend f1 f2 f3 f4 f5 f6 f7 hg
  split at hok
  ·injection hok with hok
   subst hok
   obtain ⟨m,hm,hl⟩:=zgU hw hg hb
   have hl':LoopRel ρ ⟨.busy,pend,f1,f2,f3,f4,f5,f6,f7⟩ { m with state:=.busy }:=⟨rfl,hl.pending,hl.fn,hl.tm,hl.params,hl.assign,hl.body,hl.defers⟩
   obtain ⟨g1,g2⟩:=znW hw hg hb hm hl'
   refine ⟨_,?_,g1,g2⟩
   have hst:m.state=.ready:=hl.state
   simp only [Instr.beginRound,Instr.getLoop,Sem.run_bind,zeC E.P hm,Result.andThen_ok,Sem.run_pure,zgR E.P hm,hst]
  ·simp at hok
 ·simp at hok
theorem zsX {ρ:Ren} {h h':SHeap} {w:World} (hw:WRel E ρ h w) {l r κ:Nat} (hb:ρ l=some (r,κ)) {jump:Option Code} {v:Value} (hok:zlI l h jump=.ok (v,h')) :
  ∃ w',v=.bool jump.isNone∧(Instr.endRound r jump).run E.P w=.ok (.bool jump.isNone) w'∧WRel E ρ h' w'∧Stp ρ h w ρ h' w':=by
 unfold zlI at hok
 split at hok
 ·rename_i f0 f00 f1 f2 f3 f4 f5 f6 f7 hg
  obtain ⟨rfl,rfl⟩:=zaq hok
  obtain ⟨m,hm,hl⟩:=zgU hw hg hb
  have hl':LoopRel ρ ⟨if jump.isNone then .ready else .done,jump,f1,f2,f3,f4,f5,f6,f7⟩ { m with state:=if jump.isNone then .ready else .done,pending:=jump }:=⟨rfl,rfl,hl.fn,hl.tm,hl.params,hl.assign,hl.body,hl.defers⟩
  obtain ⟨g1,g2⟩:=znW hw hg hb hm hl'
  refine ⟨_,rfl,?_,g1,g2⟩
  simp only [Instr.endRound,Instr.getLoop,Sem.run_bind,zeC E.P hm,Result.andThen_ok,Sem.run_pure,zgR E.P hm]
 ·simp at hok
theorem zxY {ih:K} (hcode:∀ c,zcP E ih (fun fx st=>zab c E ih fx st) c) {l:Nat} {r:SLoop} {args:Array Value} {h h':SHeap} {v:Value} (hok:zuw E ih l r args h=.ok (v,h')) {ρ:Ren} {w:World} (hw:WRel E ρ h w) (hg:zeu E ρ)
  {rl κ:Nat} {m:Loop} {rargs:Array Value} (hb:ρ l=some (rl,κ)) (hl:LoopRel ρ r m) (ha:LRel ρ args.toList rargs.toList) (c:Frame) (cs:List Frame) :
  ∃ ρ' w' u,VRel ρ' v u∧WRel E ρ' h' w'∧Stp ρ h w ρ' h' w' ∧
    Steps E.P (lone (Frame.round rl m.fn ((m.params.zip rargs).foldl (fun tmps (t,a)=>tmps.setIfInBounds t a) m.tmps) m.assign m.body .normal) (c::cs) w) (lone (c.finish u) cs w'):=by
 obtain ⟨s0,s1,fn,tm,nt,params,assign,body,dl⟩:=r
 unfold zuw at hok
 simp only at hok
 split at hok
 ·simp at hok
 ·rename_i tm1 hset
  have e1:=hl.fn
  have e2:=hl.params
  have e3:=hl.assign
  have e4:=hl.body
  simp only at e1 e2 e3 e4
  have htm:=zpx (params.toList.zip args.toList) (params.toList.zip rargs.toList) tm tm1 m.tmps (zzE ha).1 (zzE ha).2 hl.tm hset
  rw [zyH,e1,e2,e3,e4]
  have hz:(params.zip rargs).foldl (fun tmps (t,a)=>tmps.setIfInBounds t a) m.tmps=(params.toList.zip rargs.toList).foldl (fun tmps (t,a)=>tmps.setIfInBounds t a) m.tmps:=by
   rw [← Array.foldl_toList,Array.toList_zip]
  rw [hz]
  generalize (params.toList.zip rargs.toList).foldl (fun tmps (t,a)=>tmps.setIfInBounds t a) m.tmps=tma at htm
  split at hok
  ·rename_i tm2 h2 hA
   have hx:FxRel ρ ⟨fn,nt,.normal,some l⟩ ⟨fn,.normal,some rl⟩:=⟨rfl,rfl,κ,hb⟩
   have hs:SRel E ρ ⟨fn,nt,.normal,some l⟩ ⟨tm1,h,[]⟩ tma [] w:=⟨htm,.nil,hw,hg⟩
   obtain ⟨ρ1,tma1,ds1,w1,m1,k1,k2,k3,k4⟩:=hcode assign _ _ ρ _ tma [] w _ _ hx hs hA [.beginRound,.code body] (c::cs) (fun e=>by simp at e)
   simp only [zgx] at k3
   subst k3
   have hd1:ds1=[]:=by
    have:=k1.ds
    cases this
    rfl
   subst hd1
   split at hok
   ·simp at hok
   ·rename_i h3 hB
    obtain ⟨w2,b1,b2,b3⟩:=zzF k1.w (k2.le _ _ hb) hB
    split at hok
    ·rename_i o tm4 h4 hC
     have hs2:SRel E ρ1 ⟨fn,nt,.normal,some l⟩ ⟨tm2,h3,[]⟩ tma1 [] w2:=⟨k1.tm,.nil,b2,k1.g⟩
     obtain ⟨ρ3,tma3,ds3,w3,m3,l1,l2,l3,l4⟩:=hcode body _ _ ρ1 _ tma1 [] w2 _ _ (hx.mono k2.le) hs2 hC [] (c::cs) (fun e=>by simp at e)
     obtain ⟨w4,rfl,c1,c2,c3⟩:=zsX l1.w ((k2.le.trans l2.le) _ _ hb) hok
     refine ⟨ρ3,w4,_,.bool _,c2,((k2.trans b3).trans l2).trans c3,k4.trans (.head (zAp rfl b1) (l4.trans (.one ?_)))⟩
     cases o with
     | normal=>
      simp only [zgx] at l3
      subst l3
      exact ziP rfl rfl (.inl ⟨rfl,rfl⟩) c1 c
     | exit id=>
      obtain ⟨k5,e5,rfl⟩:=l3
      exact ziP rfl rfl (.inr (.inr ⟨id,k5,rfl,by rw [e5]; rfl,rfl⟩)) c1 c
     | ret=>
      obtain ⟨k5,rfl⟩:=l3
      exact ziP rfl rfl (.inr (.inl ⟨k5,rfl,rfl⟩)) c1 c
    ·simp at hok
    ·simp at hok
  ·simp at hok
  ·simp at hok
def zun (a:Array Value):ResultVar→Sem Value
 | .tmp t=>pure (a.getD t undef)
 | .cell c t=>do loadVar t (← asAddr (a.getD c undef))
theorem znH (KE:EnvOK E) {ρ:Ren} {tm:Tr Value} {nt:Nat} {a:Array Value} (ht:TmRel ρ tm nt a) {h:SHeap} {w:World} (hw:WRel E ρ h w):∀ (rs:List ResultVar) (vs:List Value),zaQ E tm h rs=.ok vs →
  ∃ us,LRel ρ vs us∧(rs.mapM (zun a)).run E.P w=.ok us w
 | [],vs,hok=>by
  simp only [zaQ,Except.ok.injEq] at hok
  subst hok
  exact ⟨[],.nil ρ,rfl⟩
 | r::rs,vs,hok=>by
  simp only [zaQ] at hok
  split at hok
  ·simp at hok
  ·rename_i v hv
   split at hok
   ·simp at hok
   ·rename_i vs' hvs
    simp only [Except.ok.injEq] at hok
    subst hok
    obtain ⟨us,h1,h2⟩:=znH KE ht hw rs vs' hvs
    have hr:∃ u,VRel ρ v u∧(zun a r).run E.P w=.ok u w:=by
     cases r with
     | tmp t=>
      simp only [zcM] at hv
      split at hv
      ·rename_i x hx
       injection hv with hv
       subst hv
       obtain ⟨u,hu,hr⟩:=ht.get t _ hx
       exact ⟨u,hr,by simp [zun,Array.getD_eq_getD_getElem?,hu]⟩
      ·simp at hv
     | cell c t=>
      simp only at hv
      split at hv
      ·rename_i ad hx
       obtain ⟨u,hu,hr⟩:=ht.get c _ hx
       obtain ⟨q,κ,hb,hsp,rfl⟩:=hr.ptr_inv
       obtain ⟨u2,g1,g2⟩:=zrA KE hw hv hb
       refine ⟨u2,g1,?_⟩
       simp only [zun,Array.getD_eq_getD_getElem?,hu,Option.getD_some,asAddr,pure_bind,g2]
      ·simp at hv
    obtain ⟨u,g1,g2⟩:=hr
    refine ⟨u::us,.cons g1 h1,?_⟩
    rw [List.mapM_cons]
    simp only [Sem.run_bind,g2,Result.andThen_ok,h2,Sem.run_pure]
theorem zxV {ρ:Ren} {vs us:List Value} (h:LRel ρ vs us):VRel ρ (zhU vs) (if h:us.toArray.size=1 then us.toArray[0] else .tuple us.toArray):=by
 match vs,us,h with
 | [],[],h=>exact .tuple' (by simpa using h)
 | [],_::_,h=>exact absurd h.len (by simp)
 | _::_,[],h=>exact absurd h.len (by simp)
 | [v],[u],h=>exact h.get 0 v u rfl rfl
 | [v],_::_::_,h=>exact absurd h.len (by simp)
 | _::_::_,[u],h=>exact absurd h.len (by simp)
 | a::b::c,d::e::f,h=>exact .tuple' (by simpa using h)
theorem zpj (KE:EnvOK E) {ρ:Ren} {tm:Tr Value} {nt:Nat} {a:Array Value} (ht:TmRel ρ tm nt a) {h:SHeap} {w:World} (hw:WRel E ρ h w) {fn:Func} {vs:List Value} (hok:zaQ E tm h fn.results.toList=.ok vs) :
  ∃ u,VRel ρ (zhU vs) u∧(results fn a).run E.P w=.ok u w:=by
 obtain ⟨us,h1,h2⟩:=znH KE ht hw _ _ hok
 refine ⟨_,zxV h1,?_⟩
 have hdef:results fn a=(do let vs ← fn.results.mapM (zun a); pure (if h:vs.size=1 then vs[0] else .tuple vs)):=rfl
 rw [hdef,Array.mapM_eq_mapM_toList]
 simp only [Sem.run_bind,map_eq_pure_bind,h2,Result.andThen_ok,Sem.run_pure]
end Go.Sim
namespace Go.Sim
variable {E:Env}
theorem zpZ {ρ:Ren} {h:SHeap} {w:World} (hw:WRel E ρ h w) {b r κ:Nat} {calls:List Deferred} (hg:h.t.get b=some (.deferred (some calls))) (hb:ρ b=some (r,κ)) :
  ∃ es,w.heap[r]? = some (.deferred (some es))∧DLRel ρ calls es:=by
 obtain ⟨r',κ',h1,es,h2,h3⟩:=hw.live _ _ hg
 rw [hb] at h1
 obtain ⟨rfl,rfl⟩:r=r'∧κ=κ':=by simpa using h1
 cases es with
 | none=>exact h3.elim
 | some es=>exact ⟨es,h2,h3⟩
theorem zis (KE:EnvOK E) {ih:K} (hih:KOK E ih) (x:FxR) (tm:Array Value) (todo:List Item) (cs:List Frame):∀ (n:Nat) (ds:List Deferred) (h h':SHeap),zgJ E ih n ds h=.ok h' →
  ∀ (ρ:Ren) (w:World) (rds:List Deferred),WRel E ρ h w→zeu E ρ→DLRel ρ ds rds →
   ∃ ρ' w',WRel E ρ' h' w'∧Stp ρ h w ρ' h' w'∧Steps E.P (lone (zfA x tm rds todo) cs w) (lone (zfA x tm [] todo) cs w')
 | 0,_,_,_,hok,_,_,_,_,_,_=>by simp [zgJ] at hok
 | n+1,[],h,h',hok,ρ,w,rds,hw,hg,hd=>by
  simp only [zgJ,Except.ok.injEq] at hok
  subst hok
  cases hd
  exact ⟨ρ,w,hw,Stp.refl _ _ _,Steps.refl _ _⟩
 | n+1,⟨tg,args⟩::ds,h,h',hok,ρ,w,rds,hw,hg,hd=>by
  cases hd with
  | cons hd1 hd2=>
   rename_i e m
   obtain ⟨rt,rargs⟩:=e
   obtain ⟨ht,ha⟩:=hd1
   simp only at ht ha
   simp only [zgJ] at hok
   cases ht with
   | collected hb=>
    rename_i b r κ
    simp only at hok
    split at hok
    ·rename_i calls hgb
     obtain ⟨es,he,hde⟩:=zpZ hw hgb hb
     have hlt:r<w.heap.size:=by
      rcases Nat.lt_or_ge r w.heap.size with h | h
      ·exact h
      ·rw [Array.getElem?_eq_none h] at he; simp at he
     obtain ⟨g1,g2⟩:=hw.set (o:=.deferred (some calls)) (o':=.deferred none) (w':={ w with heap:=w.heap.setIfInBounds r (.deferred none) }) hgb hb trivial (by simp) (fun s hs=>by simp [Array.getElem?_setIfInBounds,Ne.symm hs]) ⟨none,by simp [hlt],trivial⟩ rfl rfl rfl
     have hrun:(Instr.takeDeferred r).run E.P w=.ok es { w with heap:=w.heap.setIfInBounds r (.deferred none) }:=by
      have h1:(getObj r).run E.P w=.ok (.deferred (some es)) w:=by simp only [getObj,Sem.run,he]
      have h2:(setObj r (.deferred none)).run E.P w=.ok () { w with heap:=w.heap.setIfInBounds r (.deferred none) }:=by simp only [setObj,Sem.run,he]
      simp only [Instr.takeDeferred,Sem.run_bind,h1,Result.andThen_ok,h2,Sem.run_pure]
     obtain ⟨ρ',w',k1,k2,k3⟩:=zis KE hih x tm todo cs n _ _ h' hok ρ _ (es++m) g1 hg (hde.append hd2)
     exact ⟨ρ',w',k1,g2.trans k2,.head (zDy hrun) k3⟩
    ·simp at hok
   | fn hf hc=>
    rename_i f g c d
    simp only at hok
    split at hok
    ·rename_i q args' h1 hinv
     split at hok
     ·simp at hok
     ·rename_i v h2 hcall
      obtain ⟨ρ1,w1,nx,k1,k2,k3,k4⟩:=zkw KE hw (.fn hf hc) ha hinv
      cases k1 with
      | enter ha'=>
       obtain ⟨ρ2,w2,u,l1,l2,l3,l4⟩:=hih _ _ _ _ hcall ρ1 w1 k2 (hg.mono k3.le) _ ha' (zfA x tm m todo) cs (.inr ⟨rfl,rfl⟩)
       obtain ⟨ρ',w',j1,j2,j3⟩:=zis KE hih x tm todo cs n ds _ h' hok ρ2 w2 m l2 ((hg.mono k3.le).mono l3.le) (hd2.mono (k3.le.trans l3.le))
       exact ⟨ρ',w',j1,(k3.trans l3).trans j2,.head (zoo k4) (l4.trans j3)⟩
    ·simp at hok
    ·simp at hok
theorem zof {ρ:Ren} {a b:Array Value} (h:LRel ρ a.toList b.toList) (n:Nat):TmRel ρ (Tr.ofL 33 a.toList) (max n a.size) (b++Array.replicate (n-b.size) undef):=by
 have hl:=h.len
 simp only [Array.length_toList] at hl
 refine ⟨by simp; omega,fun i v hv => ?_⟩
 have hv:=zcX hv
 obtain ⟨u,hu,hr⟩:=h.some hv
 refine ⟨u,?_,hr⟩
 rw [Array.getElem?_append_left]
 ·simpa using hu
 ·rcases Nat.lt_or_ge i b.size with k | k
  ·exact k
  ·rw [List.getElem?_eq_none (by simpa using k)] at hu; simp at hu
theorem zmu (KE:EnvOK E) {ih:K} (hih:KOK E ih) (hcode:∀ c,zcP E ih (fun fx st=>zab c E ih fx st) c) {f:FuncId} {args:Array Value} {kind:CallKind} {h h':SHeap} {v:Value}
  (hok:zhR E ih f args kind h=.ok (v,h')) {ρ:Ren} {w:World} (hw:WRel E ρ h w) (hg:zeu E ρ) {rargs:Array Value} (ha:LRel ρ args.toList rargs.toList) {cs:List Frame} (hk:zfQ kind cs) :
  ∃ ρ' w' tm todo fn u,VRel ρ' v u∧WRel E ρ' h' w'∧Stp ρ h w ρ' h' w'∧E.P.funcs[f]? = some fn∧(results fn tm).run E.P w'=.ok u w' ∧
   Steps E.P (lone (Frame.enter E.P f rargs kind) cs w) (lone (zfA ⟨f,kind,none⟩ tm [] todo) cs w'):=by
 unfold zhR at hok
 split at hok
 ·rename_i fd hf
  split at hok
  ·rename_i c hb
   split at hok
   ·simp at hok
   ·rename_i o st hc
    have hfn:=KE.func f fd hf
    have henter:Frame.enter E.P f rargs kind=fat ⟨f,kind,none⟩ (rargs++Array.replicate (fd.ntmps-rargs.size) undef) [] [.code c]:=by
     simp [Frame.enter,fat,hfn,hb]
    have hx:FxRel ρ ⟨f,max fd.ntmps args.size,kind,none⟩ ⟨f,kind,none⟩:=⟨rfl,rfl,trivial⟩
    have hs:SRel E ρ ⟨f,max fd.ntmps args.size,kind,none⟩ ⟨Tr.ofL 33 args.toList,h,[]⟩ (rargs++Array.replicate (fd.ntmps-rargs.size) undef) [] w:=⟨zof ha fd.ntmps,.nil,hw,hg⟩
    obtain ⟨ρ1,tm1,ds1,w1,m1,k1,k2,k3,k4⟩:=hcode c _ _ ρ _ _ [] w _ _ hx hs hc [] cs hk
    have fin:zeQ E ih fd st=.ok (v,h')→(∃ todo,(todo=[]∨∃ k2,todo=.code .ret::k2)∧m1=lone (fat ⟨f,kind,none⟩ tm1 ds1 todo) cs w1) →
      ∃ ρ' w' tm todo fn u,VRel ρ' v u∧WRel E ρ' h' w'∧Stp ρ h w ρ' h' w'∧E.P.funcs[f]? = some fn∧(results fn tm).run E.P w'=.ok u w' ∧
       Steps E.P (lone (Frame.enter E.P f rargs kind) cs w) (lone (zfA ⟨f,kind,none⟩ tm [] todo) cs w'):=by
     rintro hok ⟨todo,ht,rfl⟩
     obtain ⟨tmv,h1,dv⟩:=st
     unfold zeQ at hok
     simp only at hok
     split at hok
     ·simp at hok
     ·rename_i h2 hd
      split at hok
      ·rename_i vs hvs
       obtain ⟨rfl,rfl⟩:=zaq hok
       obtain ⟨ρ2,w2,l1,l2,l3⟩:=zis KE hih ⟨f,kind,none⟩ tm1 todo cs _ _ _ _ hd ρ1 w1 ds1 k1.w k1.g k1.ds
       obtain ⟨u,r1,r2⟩:=zpj KE (k1.tm.mono l2.le) l1 (fn:=fd) hvs
       refine ⟨ρ2,w2,tm1,todo,fd,u,r1,l1,k2.trans l2,hfn,r2,?_⟩
       rw [henter]
       exact k4.trans (.head (zns rfl ht) l3)
      ·simp at hok
    cases o with
    | exit=>simp at hok
    | normal=>exact fin hok ⟨[],.inl rfl,k3⟩
    | ret=>obtain ⟨k5,e⟩:=k3; exact fin hok ⟨_,.inr ⟨k5,rfl⟩,e⟩
  ·simp at hok
 ·simp at hok
def zaz (E:Env) (f:FuncId) (g:OF):Prop:=∀ (args:Array Value) h v h',g args.toList h=.ok (v,h')→∀ ρ w,WRel E ρ h w→zeu E ρ→∀ rargs:Array Value,LRel ρ args.toList rargs.toList →
 ∀ (c:Frame) (cs:List Frame),∃ ρ' w' u,VRel ρ' v u∧WRel E ρ' h' w'∧Stp ρ h w ρ' h' w'∧Steps E.P (lone (Frame.enter E.P f rargs .normal) (c::cs) w) (lone (c.finish u) cs w')
theorem zBV (KE:EnvOK E) (hO:∀ f g,E.O f=some g→zaz E f g) {ih:K} (hih:KOK E ih) (hcode:∀ c,zcP E ih (fun fx st=>zab c E ih fx st) c):KOK E (zjk E ih):=by
 intro q h v h' hok ρ w hw hg
 cases q with
 | call f args kind=>
  intro rargs ha c cs hk
  rcases hk with rfl | ⟨rfl,hm⟩
  ·simp only [zjk] at hok
   split at hok
   ·rename_i g hf
    exact hO f g hf args h v h' hok ρ w hw hg rargs ha c cs
   ·obtain ⟨ρ',w',tm,todo,fn,u,k1,k2,k3,k4,k5,k6⟩:=zmu KE hih hcode hok hw hg ha (cs:=c::cs) (fun e=>by simp at e)
    exact ⟨ρ',w',u,k1,k2,k3,k6.trans (.one (zru k4 k5 rfl c))⟩
  ·simp only [zjk] at hok
   obtain ⟨ρ',w',tm,todo,fn,u,k1,k2,k3,k4,k5,k6⟩:=zmu KE hih hcode hok hw hg ha (cs:=c::cs) (fun _=>⟨c,cs,rfl,hm⟩)
   exact ⟨ρ',w',u,k1,k2,k3,k6.trans (.one (zlO k4 k5 rfl c hm))⟩
 | round l r args=>
  intro rl κ m rargs hb hl ha hsz c cs
  simp only [zjk] at hok
  exact zxY hcode hok hw hg hb hl ha c cs
def zcp (E:Env):Prop:=∀ ih,KOK E ih→∀ id ops,zcP E ih (fun fx st=>ziB E ih fx ops st) (.region id ops true)
theorem zfm (KE:EnvOK E) (hdraw:zcp E) {ih:K} (hih:KOK E ih) (c:Code):zcP E ih (fun fx st=>zab c E ih fx st) c:=by
 induction c with
 | skip=>exact zzX
 | region id ops d=>
  cases d with
  | false=>exact zwo KE hih id ops
  | true=>exact hdraw ih hih id ops
 | seq a b ha hb=>exact zFb ha hb
 | cond c a b ha hb=>exact zCD ha hb
 | block i b hb=>exact zyQ hb
 | loop b hb=>exact zAf hb
 | rangeFunc f ps a b _ _=>exact zzq KE hih f ps a b
 | exit i=>exact zBM i
 | scope b hb=>exact zyq hb
 | label l=>exact zyR l
 | goto l=>intro fx x ρ st tm ds w o st' _ _ hok; simp [zab,zrZ] at hok
 | ret=>exact zEa
 | refuse s=>intro fx x ρ st tm ds w o st' _ _ hok; simp [zab,zrZ] at hok
theorem zdc (KE:EnvOK E) (hdraw:zcp E) (hO:∀ f g,E.O f=some g→zaz E f g):∀ n,KOK E (run E n)
 | 0=>by intro q h v h' hok; simp [run] at hok
 | n+1=>zBV KE hO (zdc KE hdraw hO n) (zfm KE hdraw (zdc KE hdraw hO n))
theorem ztB (KE:EnvOK E) (hdraw:zcp E) (hO:∀ f g,E.O f=some g→zaz E f g) {n:Nat} {f:FuncId} {args rargs:Array Value} {h h':SHeap} {v:Value} (hf:E.O f=none)
  (hok:run E n (.call f args .normal) h=.ok (v,h')) {ρ:Ren} {w:World} (hw:WRel E ρ h w) (hg:zeu E ρ) (ha:LRel ρ args.toList rargs.toList) :
  Calls E.P f rargs w fun e w'=>∃ ρ' u,e=.returned u∧VRel ρ' v u∧WRel E ρ' h' w'∧Stp ρ h w ρ' h' w':=by
 intro cs
 cases n with
 | zero=>simp [run] at hok
 | succ n=>
  simp only [run,zjk,hf] at hok
  obtain ⟨ρ',w',tm,todo,fn,u,k1,k2,k3,k4,k5,k6⟩:=zmu KE (zdc KE hdraw hO n) (zfm KE hdraw (zdc KE hdraw hO n)) hok hw hg ha (cs:=cs) (fun e=>by simp at e)
  exact ⟨.returned u,w',_,⟨ρ',u,rfl,k1,k2,k3⟩,k6,rfl,rfl,rfl,rfl,fn,k4,k5⟩
end Go.Sim

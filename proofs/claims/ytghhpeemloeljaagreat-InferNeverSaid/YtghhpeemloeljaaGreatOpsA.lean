/- The simulator's operations, each held against the model's: moves, addresses, parts, new blocks, loads, stores. The simulator's operations, each held against the model's: moves, addresses, parts, new blocks. The simulator's operations, each held against the model's: new blocks, loads. The simulator's operations, each held against the model's: stores. The simulator's operations, each held against the model's: parts of values, numbers. The simulator's arithmetic, held against the model's. The simulator's operations, each held against the model's: type assertions, maps, slices. The simulator's operations, each held against the model's: map look-ups and updates, new slices. -/
import Derived.Test.YtghhpeemloeljaaGreatBaseA
import Derived.Laws.Entries
import Derived.Laws.Cells
set_option linter.unusedVariables false
set_option linter.unusedSimpArgs false
namespace Go.Sim
def zpg (ti:TI):Bool:=match ti.zero with
 | none=>true
 | some z=>z.cells.toList.all (fun v=>zaP 2 v&&zfY v)&&z.cells.size==ti.size&&zaP 3 z
structure EnvOK (E:Env):Prop where
 type:∀ t ti,E.T t=some ti→(∃ i,E.P.info? t=some i∧i.size=ti.size∧i.bytes=ti.bytes∧∀ z,ti.zero=some z→i.zero=some z)∧E.P.underlying t=some ti.desc∧zpg ti=true
 func:∀ f fn,E.F f=some fn→E.P.funcs[f]? = some fn
 call:∀ f fn,E.F f=some fn→fn.body.isSome=true→∀ args w,(callFunc f args).run E.P w=.ok (.enter f args) w
 same:∀ f,E.X f=some .same→∀ x w,(callFunc f #[x]).run E.P w=.ok (.value x) w
 makeNoZero:∀ f elem,E.X f=some (.makeNoZero elem)→(∃ ti,E.T elem=some ti∧ti.size=1)∧∀ n w,n≤2^40→∃ (cap:Nat) (cells:Array Value),n≤cap∧cells.size=cap ∧
  (callFunc f #[.int .i64 (.ofNat n)]).run E.P w=.ok (.value (.slice (some ⟨w.heap.size,0,none⟩) n cap)) { w with heap:=w.heap.push (.cells cells elem),drawn:=w.drawn+2 }
 lies:∀ e n o u,E.lies e n o u=true→liesAt E.P E.P.depth e (n/E.P.cellsOf e) o u 1=true∧(E.P.info? u).isSome=true
 eqT:∀ t ks,E.eqT t=some ks→E.P.eqGuardType E.P.depth t=false∧∀ (xs ys:Array Value) b,zcl ks xs.toList ys.toList=some b→∀ w,(Op.equal t (.agg xs) (.agg ys)).run E.P w=.ok b w
 outer:∀ f g,E.X f=some (.fn g)→∀ (args rargs:Array Value) (h:SHeap) (v:Value) (h':SHeap),g args.toList h=some (v,h')→∀ (ρ:Ren) (w:World),WRel E ρ h w→LRel ρ args.toList rargs.toList →
  ∃ ρ' w' u,VRel ρ' v u∧WRel E ρ' h' w'∧Stp ρ h w ρ' h' w'∧(callFunc f rargs).run E.P w=.ok (.value u) w'
 meth:∀ t name f b,E.M t name=some (f,b)→∀ (v x:Value) (w:World),(b=false∧x=v∨b=true∧v=.agg #[x])→(method (E.P.types.size+Made.depth) t v name).run E.P w=.ok (f,x) w
 asks:∀ t a b,E.A t a=some b→∃ want i,E.P.underlying a=some (.interface want)∧E.P.info? t=some i∧(Instr.missingMethod want i.methods).isNone=b
 held:∀ t e,E.Q t=some e→E.P.underlying t=some (.pointer e)∧(∃ i,E.P.info? t=some i∧i.comparable=true)∧∃ i,E.P.info? e=some i∧i.size≠0
 keyT:∀ t,E.keyT t=true→(∃ fs,E.P.underlying t=some (.struct fs))∧∀ ks (xs:Array Value) b,E.eqT t=some ks→zcl ks xs.toList xs.toList=some b→∀ empty w,(Instr.checkKey empty 10000 t (.agg xs)).run E.P w=.ok () w
 bytesLie:∀ e u,E.bytesLie e u=true→E.P.cellsOf e=1∧sameLayout E.P E.P.depth e u=true
def zcE (ρ:Ren) (ev:Ev) (eval:Operand→Value):Prop:=∀ x v,ev x=some v→VRel ρ v (eval x)
inductive NRel (ρ:Ren):SNext→Next→Prop
 | value {v w:Value}:VRel ρ v w→NRel ρ (.value v) (.value w)
 | skip:NRel ρ (.value (.tuple #[])) .skip
 | enter {f:FuncId} {a b:Array Value}:LRel ρ a.toList b.toList→NRel ρ (.enter f a) (.enter f b)
 | round {l r κ:Nat} {s:SLoop} {m:Loop} {a b:Array Value}:ρ l=some (r,κ)→LoopRel ρ s m→LRel ρ a.toList b.toList→a.size=s.params.size →
   NRel ρ (.round l s a) (.round r m.fn ((m.params.zip b).foldl (fun tmps (t,a)=>tmps.setIfInBounds t a) m.tmps) m.assign m.body)
 | defer {d e:Deferred}:DRel ρ d e→NRel ρ (.defer d) (.defer e)
 | recover:NRel ρ .recover .recover
def zeE (E:Env) (ρ:Ren) (h:SHeap) (w:World) (n:SNext) (h':SHeap) (r:Result Next):Prop:=
 ∃ ρ' w' n',NRel ρ' n n'∧WRel E ρ' h' w'∧Stp ρ h w ρ' h' w'∧r=.ok n' w'
theorem zeE.val {E:Env} {ρ:Ren} {h:SHeap} {w:World} (k:WRel E ρ h w) {v u:Value} (hv:VRel ρ v u):zeE E ρ h w (.value v) h (.ok (.value u) w):=
 ⟨ρ,w,_,.value hv,k,Stp.refl _ _ _,rfl⟩
def zfh (ρ:Ren) (h:SHeap) (w:World) (n:SNext) (h':SHeap) (r:Result Next):Prop:=
 ∃ v u,n=.value v∧h'=h∧VRel ρ v u∧(r=.ok (.value u) w∨(v=.tuple #[]∧u=.tuple #[]∧r=.ok .skip w))
theorem zfh.val {ρ:Ren} {h:SHeap} {w:World} {v u:Value} (hv:VRel ρ v u):zfh ρ h w (.value v) h (.ok (.value u) w):=⟨v,u,rfl,rfl,hv,.inl rfl⟩
theorem zfh.out {E:Env} {ρ:Ren} {h:SHeap} {w:World} (k:WRel E ρ h w) {n:SNext} {h':SHeap} {r:Result Next} (q:zfh ρ h w n h' r):zeE E ρ h w n h' r:=by
 obtain ⟨v,u,rfl,rfl,hv,rfl | ⟨rfl,rfl,rfl⟩⟩:=q
 ·exact .val k hv
 ·exact ⟨ρ,w,_,.skip,k,Stp.refl _ _ _,rfl⟩
section
variable {E:Env} {ρ:Ren} {h:SHeap} {w:World}
theorem EnvOK.info (K:EnvOK E) {t:TypeId} {ti:TI} (ht:E.T t=some ti):∃ i,E.P.info? t=some i∧i.size=ti.size∧i.bytes=ti.bytes∧∀ z,ti.zero=some z→i.zero=some z:=(K.type t ti ht).1
theorem EnvOK.und (K:EnvOK E) {t:TypeId} {ti:TI} (ht:E.T t=some ti) (w:World):(underlying t).run E.P w=.ok ti.desc w:=run_underlying (K.type t ti ht).2.1 w
theorem EnvOK.sizeOf (K:EnvOK E) {t:TypeId} {ti:TI} (ht:E.T t=some ti) (w:World):(Go.sizeOf t).run E.P w=.ok ti.size w:=by
 obtain ⟨i,h1,h2,_⟩:=K.info ht
 simp [Go.sizeOf,typeInfo,h1,h2]
theorem EnvOK.zero (K:EnvOK E) {t:TypeId} {ti:TI} (ht:E.T t=some ti) {z:Value} (hz:ti.zero=some z) (w:World):(zeroValue t).run E.P w=.ok z w:=by
 obtain ⟨i,h1,_,_,h4⟩:=K.info ht
 simp [zeroValue,typeInfo,h1,h4 z hz]
theorem EnvOK.isAgg (K:EnvOK E) {t:TypeId} {ti:TI} (ht:E.T t=some ti) (w:World):(Go.isAgg t).run E.P w=.ok ti.agg w:=by
 unfold Go.isAgg TI.agg
 rw [Sem.run_bind,K.und ht w]
 simp only [Result.andThen_ok]
 cases ti.desc<;>rfl
theorem EnvOK.zeroRel (K:EnvOK E) {t:TypeId} {ti:TI} (ht:E.T t=some ti) {z:Value} (hz:ti.zero=some z) (ρ:Ren) :
  VRel ρ z z∧z.cells.size=ti.size∧(∀ v∈z.cells.toList,VRel ρ v v∧zfY v=true):=by
 have:=(K.type t ti ht).2.2
 unfold zpg at this
 rw [hz] at this
 simp only [Bool.and_eq_true,beq_iff_eq] at this
 refine ⟨zdu 3 z this.2,this.1.2,fun v hv => ?_⟩
 have:=List.all_eq_true.1 this.1.1 v hv
 simp only [Bool.and_eq_true] at this
 exact ⟨zdu 2 v this.1,this.2⟩
theorem zsv {α:Type} (P:Program) (s:Sem α) (a:α) (hs:zgB P s=some a) (w:World):s.run P w=.ok a w:=by
 induction s with
 | pure b=>simp [zgB] at hs; subst hs; rfl
 | program k ih=>simp only [zgB] at hs; exact ih P hs
 | _=>simp [zgB] at hs
theorem zaw (s:Sem Value) (P:Program) (w w':World) (v:Value) (hs:s.run P w=.ok v w'):(do pure (Next.value (← s)):Sem Next).run P w=.ok (.value v) w':=by
 simp [Sem.run_bind,hs]
theorem zyw {ev:Ev} {eval:Operand→Value} (hev:zcE ρ ev eval) (o:Oper) {n:SNext} {h':SHeap}
  (hok:zbZ E.P ev o h=.ok (n,h')) (heq:execOp (fun x=>(ev x).getD (.tuple #[])) o=execOp eval o):zfh ρ h w n h' ((execOp eval o).run E.P w):=by
 unfold zbZ at hok
 split at hok
 ·rw [heq] at hok
  cases hp:zgB E.P (execOp eval o) with
  | none=>rw [hp] at hok; simp at hok
  | some x=>
   rw [hp] at hok
   rw [zsv _ _ _ hp]
   cases x with
   | value v=>
    simp only at hok
    split at hok
    ·rename_i hpl
     simp [zal] at hok
     obtain ⟨rfl,rfl⟩:=hok
     exact .val (zdu 12 v hpl)
    ·simp at hok
   | skip=>
    simp [zal] at hok
    obtain ⟨rfl,rfl⟩:=hok
    exact ⟨_,_,rfl,rfl,.tuple' (.nil ρ),.inr ⟨rfl,rfl,rfl⟩⟩
   | _=>simp at hok
 ·simp at hok
end
end Go.Sim
namespace Go.Sim
def zdN (E:Env) (d:Dsp) (op:Op):Prop:=∀ (ev:Ev) (eval:Operand→Value) (ρ:Ren) (h:SHeap) (w:World) (o:Oper) (n:SNext) (h':SHeap),
 o.op=op→zcE ρ ev eval→WRel E ρ h w→d E ev o h=.ok (n,h')→zeE E ρ h w n h' ((execOp eval o).run E.P w)
def zdJ (E:Env) (d:Dsp) (op:Op):Prop:=∀ (ev:Ev) (eval:Operand→Value) (ρ:Ren) (h:SHeap) (w:World) (o:Oper) (n:SNext) (h':SHeap),
 o.op=op→zcE ρ ev eval→WRel E ρ h w→d E ev o h=.ok (n,h')→zfh ρ h w n h' ((execOp eval o).run E.P w)
theorem zdJ.ok {E:Env} {d:Dsp} {op:Op} (k:zdJ E d op):zdN E d op:=fun ev eval ρ h w o n h' ho hev hw hok=>(k ev eval ρ h w o n h' ho hev hw hok).out hw
def zsf:Value→Bool
 | .pointer (some _)=>true
 | .func (.func _) _ _=>true
 | .func (.yield _) _ _=>true
 | .iface _ _=>true
 | _=>false
section
variable {ρ:Operand→Value} {o:Oper}
theorem zDW {x:Operand} (ho:o.op=.move x):execOp ρ o=pure (.value (ρ x)):=by unfold execOp; rw [ho]
theorem zyr {x:Operand} (ho:o.op=.assign x):execOp ρ o=pure (.value (ρ x)):=by unfold execOp; rw [ho]
theorem zDu {c a b:Operand} (ho:o.op=.pick c a b):execOp ρ o=(do let t ← asBool (ρ c); pure (.value (if t=true then ρ a else ρ b))):=by unfold execOp; rw [ho]
theorem zoc {t:TypeId} {x:Operand} (ho:o.op=.makeInterface t x):execOp ρ o=(do let v ← Instr.makeInterface t (ρ x); pure (.value v)):=by unfold execOp; rw [ho]
theorem zuK {f:Fn} {a b:Array Operand} (ho:o.op=.makeFunc f a b):execOp ρ o=(do let v ← Instr.makeFunc f (a.map ρ) (b.map ρ); pure (.value v)):=by unfold execOp; rw [ho]
theorem zmt {t:TypeId} {x:Operand} {f:Nat} (ho:o.op=.fieldAddr t x f):execOp ρ o=(do let v ← Instr.fieldAt t (ρ x) f; pure (.value v)):=by unfold execOp; rw [ho]
theorem zmk {t:TypeId} {x i:Operand} (ho:o.op=.indexAddr t x i):execOp ρ o=(do let v ← Instr.indexAt t (ρ x) (ρ i); pure (.value v)):=by unfold execOp; rw [ho]
theorem zxD {x:Operand} {i:Nat} (ho:o.op=.extract x i):execOp ρ o=(do let v ← Instr.extract (ρ x) i; pure (.value v)):=by unfold execOp; rw [ho]
theorem zgm {x:Operand} (ho:o.op=.nilCheck x) {v:Value} (hx:ρ x=v) (hv:zsf v=true):execOp ρ o=pure (.value v):=by
 unfold execOp; rw [ho]; simp only [hx]
 cases v with
 | pointer a=>cases a with
  | none=>simp [zsf] at hv
  | some a=>rfl
 | func f a b=>cases f<;>first | rfl | (simp [zsf] at hv)
 | iface t v=>rfl
 | _=>simp [zsf] at hv
end
theorem zaq {α:Type} {a b:α} {x y:SHeap} (h:(Except.ok (a,x):Except String (α×SHeap))=.ok (b,y)):a=b∧x=y:=by
 injection h with h; injection h with h1 h2; exact ⟨h1,h2⟩
variable {E:Env}
theorem ztS (x:Operand):zdJ E (zao x) (.move x):=by
 intro ev eval ρ h w o n h' ho hev hw hok
 unfold zao zak at hok
 cases hx:ev x with
 | none=>rw [hx] at hok; simp at hok
 | some v=>
  rw [hx] at hok
  obtain ⟨rfl,rfl⟩:=zaq hok
  rw [zDW ho]
  exact .val (hev x v hx)
theorem zpy (x:Operand):zdJ E (zao x) (.assign x):=by
 intro ev eval ρ h w o n h' ho hev hw hok
 unfold zao zak at hok
 cases hx:ev x with
 | none=>rw [hx] at hok; simp at hok
 | some v=>
  rw [hx] at hok
  obtain ⟨rfl,rfl⟩:=zaq hok
  rw [zyr ho]
  exact .val (hev x v hx)
theorem zsH (c a b:Operand):zdJ E (zas c a b) (.pick c a b):=by
 intro ev eval ρ h w o n h' ho hev hw hok
 unfold zas at hok
 split at hok
 ·rename_i x y hx hy
  unfold zoH zak at hok
  split at hok
  ·rename_i t ht
   have hc:=hev c _ ht
   rw [zDu ho]
   generalize eval c=ec at hc
   cases hc
   cases t
   ·obtain ⟨rfl,rfl⟩:=zaq hok
    exact .val (hev b _ hy)
   ·obtain ⟨rfl,rfl⟩:=zaq hok
    exact .val (hev a _ hx)
  ·simp at hok
 ·simp at hok
theorem zls (K:EnvOK E) (t:TypeId) (x:Operand):zdJ E (ziA t x) (.makeInterface t x):=by
 intro ev eval ρ h w o n h' ho hev hw hok
 unfold ziA zny at hok
 split at hok
 ·rename_i ti v ht hx
  cases hi:ziC ti.desc with
  | true=>rw [hi] at hok; simp at hok
  | false=>
   rw [hi] at hok
   obtain ⟨rfl,rfl⟩:=zaq hok
   rw [zoc ho]
   have:(Instr.makeInterface t (eval x)).run E.P w=.ok (.iface t (eval x)) w:=by
    unfold Instr.makeInterface
    rw [Sem.run_bind,K.und ht w]
    simp only [Result.andThen_ok]
    revert hi
    cases ti.desc<;>simp [ziC]
   rw [zaw _ _ _ _ _ this]
   exact .val (.iface (hev x v hx))
 ·simp at hok
theorem zoy {ρ:Ren} {ev:Ev} {eval:Operand→Value} (hev:zcE ρ ev eval):∀ (xs:List Operand) (vs:List Value),zaj ev xs=some vs→LRel ρ vs (xs.map eval)
 | [],vs,h=>by simp [zaj] at h; subst h; exact .nil ρ
 | x::r,vs,h=>by
  simp only [zaj] at h
  cases hx:ev x with
  | none=>rw [hx] at h; simp at h
  | some v=>
   rw [hx] at h
   cases hr:zaj ev r with
   | none=>rw [hr] at h; simp at h
   | some l=>
    rw [hr] at h
    simp at h
    subst h
    exact .cons (hev x v hx) (zoy hev r l hr)
theorem zdj {ρ:Ren} {ev:Ev} {eval:Operand→Value} (hev:zcE ρ ev eval) (xs:Array Operand) (vs:List Value) (h:zaj ev xs.toList=some vs):LRel ρ vs (xs.map eval).toList:=by
 rw [Array.toList_map]; exact zoy hev _ _ h
theorem zlX (fn:Fn) (a b:Array Operand):zdJ E (zeg fn a b) (.makeFunc fn a b):=by
 intro ev eval ρ h w o n h' ho hev hw hok
 have hfn:∀ l,fn ≠ .yield l:=by rintro l rfl; simp [zeg] at hok
 have hok:zio fn (zaj ev a.toList) (zaj ev b.toList) h=.ok (n,h'):=by
  unfold zeg at hok
  split at hok
  ·simp at hok
  ·exact hok
 unfold zio at hok
 split at hok
 ·rename_i x y hx hy
  obtain ⟨rfl,rfl⟩:=zaq hok
  rw [zuK ho]
  have hf:FnRel ρ fn fn:=by
   cases fn with
   | yield l=>exact absurd rfl (hfn l)
   | func=>exact .func _
   | method=>exact .method _
   | methodOf=>exact .methodOf _ _
   | via=>exact .via _ _ _ _
  exact .val (.func' hf (zdj hev a x hx) (zdj hev b y hy))
 ·simp at hok
theorem VRel.ptr_inv {ρ:Ren} {a:Addr} {v:Value} (k:VRel ρ (.pointer (some a)) v):∃ r κ,ρ a.block=some (r,κ)∧a.spot=none∧v=.pointer (some ⟨r,a.off,none⟩):=by
 cases k with | ptr hb=>exact ⟨_,_,hb,rfl,rfl⟩
theorem VRel.chan_inv {ρ:Ren} {b:Nat} {v:Value} (k:VRel ρ (.chan (some b)) v):∃ r κ,ρ b=some (r,κ)∧v=.pointer (some ⟨r,κ,none⟩):=by
 cases k with | sptr hb=>exact ⟨_,_,hb,rfl⟩
theorem VRel.ptr_add {ρ:Ren} {a:Addr} {r κ:Nat} (hb:ρ a.block=some (r,κ)) (hs:a.spot=none) (n:Nat) :
  VRel ρ (.pointer (some (zbe a n))) (.pointer (some (Addr.add ⟨r,a.off,none⟩ n))):=by
 obtain ⟨b,o,s⟩:=a
 simp at hs hb
 subst hs
 unfold zbe Addr.add
 split
 ·exact .ptr hb
 ·exact .ptr hb
theorem zly (K:EnvOK E) (t:TypeId) (x:Operand) (f:Nat):zdJ E (zae t x f) (.fieldAddr t x f):=by
 intro ev eval ρ h w o n h' ho hev hw hok
 unfold zae zbz at hok
 split at hok
 ·rename_i fields b1 b2 b3 a ht hx
  split at hok
  ·rename_i fd hf
   split at hok
   ·rename_i ti hti
    split at hok
    ·simp at hok
    ·rename_i hz
     obtain ⟨rfl,rfl⟩:=zaq hok
     obtain ⟨r,κ,hb,hs,he⟩:=(hev x _ hx).ptr_inv
     rw [zmt ho]
     have:(Instr.fieldAt t (eval x) f).run E.P w=.ok (.pointer (some (Addr.add ⟨r,a.off,none⟩ fd.offset))) w:=by
      unfold Instr.fieldAt
      rw [Sem.run_bind,K.und ht w]
      simp only [Result.andThen_ok,hf,he,Instr.sureAddr,pure_bind]
      unfold fieldPlace
      rw [Sem.run_bind,Sem.run_bind,K.sizeOf hti w]
      simp [hz]
     rw [zaw _ _ _ _ _ this]
     exact .val (VRel.ptr_add hb hs _)
   ·simp at hok
  ·simp at hok
 ·rename_i fields b1 b2 b3 b ht hx
  split at hok
  ·rename_i fd hf
   split at hok
   ·rename_i ti hti
    split at hok
    ·simp at hok
    ·rename_i hz
     cases ho0:Nat.beq fd.offset 0 with
     | false=>rw [ho0] at hok; simp at hok
     | true=>
      rw [ho0,cond_true] at hok
      obtain ⟨rfl,rfl⟩:=zaq hok
      have e0:=Nat.eq_of_beq_eq_true ho0
      obtain ⟨r,κ,hb,he⟩:=(hev x _ hx).chan_inv
      rw [zmt ho]
      have:(Instr.fieldAt t (eval x) f).run E.P w=.ok (.pointer (some ⟨r,κ,none⟩)) w:=by
       unfold Instr.fieldAt
       rw [Sem.run_bind,K.und ht w]
       simp only [Result.andThen_ok,hf,he,Instr.sureAddr,pure_bind]
       unfold fieldPlace
       rw [Sem.run_bind,Sem.run_bind,K.sizeOf hti w]
       simp [hz,e0,Addr.add]
      rw [zaw _ _ _ _ _ this]
      exact .val (.sptr hb)
   ·simp at hok
  ·simp at hok
 ·simp at hok
theorem ztm {v:Value} {n:Nat} (h:zfC v=some n):∃ k,v=.int k (.ofNat n):=by
 cases v with
 | int k x=>cases x with
  | ofNat m=>simp [zfC] at h; subst h; exact ⟨k,rfl⟩
  | negSucc m=>simp [zfC] at h
 | _=>simp [zfC] at h
theorem VRel.int_inv {ρ:Ren} {k:IntKind} {n:Int} {v:Value} (h:VRel ρ (.int k n) v):v=.int k n:=by cases h; rfl
theorem zeD {ρ:Ren} {ev:Ev} {eval:Operand→Value} (hev:zcE ρ ev eval) {x:Operand} {n:Nat} (h:(ev x).bind zfC=some n):∃ k,eval x=.int k (.ofNat n):=by
 cases hx:ev x with
 | none=>rw [hx] at h; simp at h
 | some v=>
  rw [hx] at h
  obtain ⟨k,rfl⟩:=ztm h
  exact ⟨k,(hev x _ hx).int_inv⟩
theorem VRel.slc_some {ρ:Ren} {a:Addr} {l c:Nat} {v:Value} (k:VRel ρ (.slice (some a) l c) v) :
  ∃ r κ c',ρ a.block=some (r,κ)∧a.spot=none∧v=.slice (some ⟨r,a.off,none⟩) l c'∧(c<openCap→c'=c)∧(c=openCap→a.off=0∧c'=κ∧l≤κ)∧(c=looseCap→l≤c'):=by
 cases k with
 | slc hc hb=>exact ⟨_,_,_,hb,rfl,rfl,fun _=>rfl,fun e=>absurd (e▸hc) (by decide),fun e=>absurd (e▸hc) (by decide)⟩
 | slcOpen hb hl=>exact ⟨_,_,_,hb,rfl,rfl,fun e=>absurd e (by decide),fun _=>⟨rfl,rfl,hl⟩,fun e=>absurd e (by decide)⟩
 | slcLoose hb hl=>exact ⟨_,_,_,hb,rfl,rfl,fun e=>absurd e (by decide),fun e=>absurd e (by decide),fun _=>hl⟩
theorem zlv (K:EnvOK E) (t:TypeId) (x i:Operand):zdJ E (zad t x i) (.indexAddr t x i):=by
 intro ev eval ρ h w o n h' ho hev hw hok
 unfold zad zcy at hok
 split at hok
 ·rename_i len elem b1 b2 b3 a k ht hx hi
  unfold zcm at hok
  split at hok
  ·rename_i ei hei
   cases hlt:Nat.blt k len with
   | false=>rw [hlt] at hok; simp at hok
   | true=>
    rw [hlt] at hok
    obtain ⟨rfl,rfl⟩:=zaq hok
    have hlt:=zaB hlt
    obtain ⟨r,κ,hb,hs,he⟩:=(hev x _ hx).ptr_inv
    obtain ⟨kd,hik⟩:=zeD hev hi
    rw [zmk ho]
    have:(Instr.indexAt t (eval x) (eval i)).run E.P w=.ok (.pointer (some (Addr.add ⟨r,a.off,none⟩ (k*ei.size)))) w:=by
     unfold Instr.indexAt
     rw [hik,he]
     have h1:(0:Int)≤Int.ofNat k:=Int.natCast_nonneg k
     have h2:Int.ofNat k<(len:Int):=by simpa using hlt
     simp only [asIntOf,pure_bind,Sem.run_bind,K.und ht w,Result.andThen_ok,Instr.sureAddr,Sem.run_pure,h1,h2,and_self,if_true,K.sizeOf hei w]
     rfl
    rw [zaw _ _ _ _ _ this]
    exact .val (VRel.ptr_add hb hs _)
  ·simp at hok
 ·rename_i elem b1 b2 b3 a len cap k ht hx hi
  unfold zcm at hok
  split at hok
  ·rename_i ei hei
   cases hlt:Nat.blt k len with
   | false=>rw [hlt] at hok; simp at hok
   | true=>
    rw [hlt] at hok
    obtain ⟨rfl,rfl⟩:=zaq hok
    have hlt:=zaB hlt
    obtain ⟨r,κ,c',hb,hs,he,_⟩:=(hev x _ hx).slc_some
    obtain ⟨kd,hik⟩:=zeD hev hi
    rw [zmk ho]
    have:(Instr.indexAt t (eval x) (eval i)).run E.P w=.ok (.pointer (some (Addr.add ⟨r,a.off,none⟩ (k*ei.size)))) w:=by
     unfold Instr.indexAt
     rw [hik,he]
     have h1:(0:Int)≤Int.ofNat k:=Int.natCast_nonneg k
     have h2:Int.ofNat k<(len:Int):=by simpa using hlt
     simp only [asIntOf,pure_bind,Sem.run_bind,K.und ht w,Result.andThen_ok,Instr.sureAddr,Sem.run_pure,h1,h2,and_self,if_true,K.sizeOf hei w]
     rfl
    rw [zaw _ _ _ _ _ this]
    exact .val (VRel.ptr_add hb hs _)
  ·simp at hok
 ·simp at hok
theorem znE (x:Operand) (i:Nat):zdJ E (zeJ x i) (.extract x i):=by
 intro ev eval ρ h w o n h' ho hev hw hok
 unfold zeJ zhP at hok
 split at hok
 ·rename_i vs hx
  split at hok
  ·rename_i v hv
   obtain ⟨rfl,rfl⟩:=zaq hok
   obtain ⟨c,he,hl⟩:=(hev x _ hx).tuple_inv
   obtain ⟨u,hu,hr⟩:=hl.some (by rw [Array.getElem?_toList]; exact hv)
   rw [Array.getElem?_toList] at hu
   rw [zxD ho]
   have:(Instr.extract (eval x) i).run E.P w=.ok u w:=by
    unfold Instr.extract
    rw [he]
    simp only [hu]
    rfl
   rw [zaw _ _ _ _ _ this]
   exact .val hr
  ·simp at hok
 ·simp at hok
theorem zml (x:Operand):zdJ E (zaf x) (.nilCheck x):=by
 intro ev eval ρ h w o n h' ho hev hw hok
 unfold zaf zle at hok
 split at hok
 ·rename_i a hx
  obtain ⟨rfl,rfl⟩:=zaq hok
  have hr:=hev x _ hx
  obtain ⟨r,κ,hb,hs,he⟩:=hr.ptr_inv
  rw [zgm ho he rfl]
  rw [he] at hr
  exact .val hr
 ·rename_i b hx
  obtain ⟨rfl,rfl⟩:=zaq hok
  have hr:=hev x _ hx
  obtain ⟨r,κ,hb,he⟩:=hr.chan_inv
  rw [zgm ho he rfl]
  rw [he] at hr
  exact .val hr
 ·rename_i f a b hx
  obtain ⟨rfl,rfl⟩:=zaq hok
  have hr:=hev x _ hx
  obtain ⟨g,c,d,he,hf,h1,h2⟩:=hr.func_inv
  cases hf
  rw [zgm ho he rfl]
  rw [he] at hr
  exact .val hr
 ·rename_i f a b hx
  obtain ⟨rfl,rfl⟩:=zaq hok
  have hr:=hev x _ hx
  obtain ⟨g,c,d,he,hf,h1,h2⟩:=hr.func_inv
  cases hf
  rw [zgm ho he rfl]
  rw [he] at hr
  exact .val hr
 ·rename_i t v hx
  obtain ⟨rfl,rfl⟩:=zaq hok
  have hr:=hev x _ hx
  have:∃ u,eval x=.iface t u:=by
   revert hr; generalize eval x=e; intro hr; cases hr; exact ⟨_,rfl⟩
  obtain ⟨u,he⟩:=this
  rw [zgm ho he rfl]
  rw [he] at hr
  exact .val hr
 ·simp at hok
end Go.Sim
namespace Go.Sim
variable {E:Env}
section
variable {ρ:Operand→Value} {o:Oper}
theorem zsr {t:TypeId} (ho:o.op=.alloc t):execOp ρ o=(do let v ← Instr.alloc t true (.tuple #[]); pure (.value v)):=by unfold execOp; rw [ho]
theorem zzl {t:TypeId} {x:Operand} (ho:o.op=.box t x):execOp ρ o=(do let v ← Instr.box t (ρ x); pure (.value v)):=by unfold execOp; rw [ho]
theorem zvI {t:TypeId} {x:Operand} (ho:o.op=.load t x):execOp ρ o=(do let v ← Instr.loadAt t (ρ x); pure (.value v)):=by unfold execOp; rw [ho]
end
theorem ztA {l:List Value} {i:Nat} {v:Value} (h:(Tr.ofL 33 l).get i=some v):i<l.length:=by
 have:=zcX h
 rcases Nat.lt_or_ge i l.length with k | k
 ·exact k
 ·rw [List.getElem?_eq_none k] at this; simp at this
theorem zhT {ρ:Ren} {h:SHeap} {w:World} (k:WRel E ρ h w) (cs:List Value) (ds:Array Value) (elem:TypeId) (opn:Bool) (κ d:Nat) (hle:cs.length≤ds.size)
  (hshut:opn=false→ds.size=cs.length) (hroom:opn=true→∃ ti,E.T elem=some ti∧ds.size=κ*ti.size)
  (hrel:∀ (i:Nat) (v:Value),cs[i]? = some v→∃ u,ds[i]? = some u∧VRel ρ v u) :
  WRel E (upd ρ h.next (w.heap.size,κ)) (zai h elem cs opn) { w with heap:=w.heap.push (.cells ds elem),drawn:=d } ∧
   Stp ρ h w (upd ρ h.next (w.heap.size,κ)) (zai h elem cs opn) { w with heap:=w.heap.push (.cells ds elem),drawn:=d }:=by
 have hn:({ w with heap:=w.heap.push (.cells ds elem),drawn:=d }:World).heap[w.heap.size]? = some (.cells ds elem (0,0)):=by simp
 refine k.new _ _ κ d ⟨ds.size,?_,hle,fun i v hv=>ztA hv,hshut,hroom,fun i v hv => ?_,fun _ i _ => ?_,fun _=>⟨_,_,0,0,hn,.inl rfl⟩⟩
 ·unfold World.shape?; rw [hn]
 ·obtain ⟨u,hu,hr⟩:=hrel i v (zcX hv)
  refine ⟨u,?_,hr.mono (zgV k _)⟩
  unfold World.cell?
  simp only [hn]
  exact hu
 ·unfold World.frozen?
  simp only [hn]
  simp
theorem zsn {ρ:Ren} (n:Nat) (p:Nat×Nat):VRel (upd ρ n p) (.pointer (some ⟨n,0,none⟩)) (.pointer (some ⟨p.1,0,none⟩)):=.ptr (κ:=p.2) (by simp [upd])
theorem zyg (K:EnvOK E) (t:TypeId):zdN E (zct t) (.alloc t):=by
 intro ev eval ρ h w o n h' ho hev hw hok
 unfold zct zgL at hok
 split at hok
 ·rename_i b1 b2 b3 z ht
  unfold zjq at hok
  obtain ⟨rfl,rfl⟩:=zaq hok
  rw [zsr ho]
  have hz:=K.zeroRel ht (z:=z) rfl ρ
  have:(Instr.alloc t true (.tuple #[])).run E.P w=.ok (.pointer (some ⟨w.heap.size,0,none⟩)) { w with heap:=w.heap.push (.cells z.cells t),drawn:=w.drawn }:=by
   unfold Instr.alloc
   rw [Sem.run_bind,K.zero ht rfl w]
   simp [newVar,newRow]
  rw [zaw _ _ _ _ _ this]
  obtain ⟨h1,h2⟩:=zhT hw z.cells.toList z.cells t false 0 w.drawn (by simp) (fun _=>by simp) (fun e=>by simp at e) (fun i v hv=>⟨v,by rw [← Array.getElem?_toList]; exact hv,(hz.2.2 v (List.mem_of_getElem? hv)).1⟩)
  exact ⟨_,_,_,.value (zsn _ _),h1,h2,rfl⟩
 ·simp at hok
theorem zDv (t:TypeId) (x:Operand):zdN E (zco t x) (.box t x):=by
 intro ev eval ρ h w o n h' ho hev hw hok
 unfold zco zfD at hok
 split at hok
 ·rename_i v hx
  unfold zjq at hok
  obtain ⟨rfl,rfl⟩:=zaq hok
  rw [zzl ho]
  have hc:=(hev x v hx).cells
  have:(Instr.box t (eval x)).run E.P w=.ok (.pointer (some ⟨w.heap.size,0,none⟩)) { w with heap:=w.heap.push (.cells (eval x).cells t),drawn:=w.drawn }:=by
   simp [Instr.box,newVar,newRow]
  rw [zaw _ _ _ _ _ this]
  obtain ⟨h1,h2⟩:=zhT hw v.cells.toList (eval x).cells t false 0 w.drawn (by have:=hc.len; simp at this; simp; omega) (fun _=>by have:=hc.len; simp at this; simp; omega) (fun e=>by simp at e)
   (fun i u hu=>let ⟨a,ha,hr⟩:=hc.some hu; ⟨a,by rw [← Array.getElem?_toList]; exact ha,hr⟩)
  exact ⟨_,_,_,.value (zsn _ _),h1,h2,rfl⟩
 ·simp at hok
theorem zdA {a b:Nat} (h:Nat.ble a b=true):a≤b:=Nat.le_of_ble_eq_true h
theorem zwc {c:Tr Value} {n off len:Nat} {l:List Value} (h:range c n off len=some l):l.length=len∧∀ j,j<len→l[j]? = c.get (off+j):=by
 unfold range at h
 cases hb:Nat.ble len 12 with
 | true=>
  rw [hb,cond_true] at h
  exact zds c len off l h
 | false=>
  rw [hb,cond_false] at h
  split at h
  ·exact zds c len off l h
  ·rename_i l' hl'
   cases hc:(Nat.ble (off+len) n&&Nat.ble n lim) with
   | false=>rw [hc] at h; simp at h
   | true=>
    rw [hc,cond_true] at h
    simp only [Bool.and_eq_true] at hc
    have h1:=zdA hc.1
    have h2:=zdA hc.2
    obtain ⟨g1,g2⟩:=zcF hl'
    obtain rfl:=Option.some.inj h
    refine ⟨by simp [g1]; omega,fun j hj => ?_⟩
    rw [List.getElem?_take,if_pos hj,List.getElem?_drop]
    exact g2 (off+j) (by omega) (by omega)
theorem zmh (K:EnvOK E) {ρ:Ren} {w:World} {t:TypeId} {ti:TI} (ht:E.T t=some ti) {c:Tr Value} {n k s r:Nat} (hget:∀ (i:Nat) (v:Value),c.get i=some v→∃ u,w.cell? ⟨r,s+i,none⟩=some u∧VRel ρ v u) {v:Value}
  (hl:(if ti.agg then match range c n k ti.size with
   | some l=>.ok (.agg l.toArray)
   | none=>.error "load  cells"
  else match c.get k with
   | some v=>.ok v
   | none=>.error "load  cell" : Ex Value)=.ok v) :
  ∃ u,VRel ρ v u∧(loadVar t ⟨r,s+k,none⟩).run E.P w=.ok u w:=by
 split at hl
 ·rename_i hagg
  split at hl
  ·rename_i l hrange
   injection hl with hl
   subst hl
   obtain ⟨g1,g2⟩:=zwc hrange
   have cell:∀ j,j<ti.size→∃ u,w.cell? ⟨r,s+k+j,none⟩=some u∧∀ v,l[j]? = some v→VRel ρ v u:=by
    intro j hj
    have hv:=g2 j hj
    rw [List.getElem?_eq_getElem (by omega)] at hv
    obtain ⟨u,hu,hr⟩:=hget _ _ hv.symm
    rw [← Nat.add_assoc] at hu
    refine ⟨u,hu,fun v hv' => ?_⟩
    rw [List.getElem?_eq_getElem (by omega)] at hv'
    obtain rfl:=Option.some.inj hv'
    exact hr
   let us:List Value:=(List.range ti.size).map fun j=>(w.cell? ⟨r,s+k+j,none⟩).getD undef
   have hus:∀ j u,us[j]? = some u→w.cell? ⟨r,s+k+j,none⟩=some u:=by
    intro j u hu
    have hj:j<ti.size:=by
     rcases Nat.lt_or_ge j ti.size with hj | hj
     ·exact hj
     ·rw [List.getElem?_eq_none (by simp [us]; exact hj)] at hu; simp at hu
    obtain ⟨x,hx,_⟩:=cell j hj
    simp [us,hj,hx] at hu
    rw [hx,hu]
   have hlen:us.length=ti.size:=by simp [us]
   have add:∀ j,(⟨r,(s+k),none⟩:Addr).add j=⟨r,(s+k)+j,none⟩:=by intro j; unfold Addr.add; split<;>simp_all
   have hload:=run_loadCells_list (P:=E.P) w ⟨r,(s+k),none⟩ us (fun j u hu=>by rw [add]; exact hus j u hu)
   rw [hlen] at hload
   refine ⟨.agg us.toArray,.agg' ⟨by simp [g1,hlen],fun i v u hv hu => ?_⟩,?_⟩
   ·have hi:i<ti.size:=by
     rcases Nat.lt_or_ge i ti.size with hj | hj
     ·exact hj
     ·rw [List.getElem?_eq_none (by simp [g1]; exact hj)] at hv; simp at hv
    obtain ⟨x,hx,hr⟩:=cell i hi
    have:=hus i u (by simpa using hu)
    rw [hx] at this
    obtain rfl:=Option.some.inj this
    exact hr v (by simpa using hv)
   ·unfold loadVar
    rw [Sem.run_bind,K.isAgg ht w]
    simp only [Result.andThen_ok,hagg,if_true,Sem.run_bind,K.sizeOf ht w,hload,Sem.run_pure]
  ·simp at hl
 ·rename_i hagg
  split at hl
  ·rename_i v' hc
   injection hl with hl
   subst hl
   obtain ⟨u,hu,hr⟩:=hget _ _ hc
   refine ⟨u,hr,?_⟩
   unfold loadVar
   rw [Sem.run_bind,K.isAgg ht w]
   have:ti.agg=false:=by simpa using hagg
   simp only [Result.andThen_ok,this,Bool.false_eq_true,if_false,run_load,hu]
  ·simp at hl
theorem zrA (K:EnvOK E) {ρ:Ren} {h:SHeap} {w:World} (hw:WRel E ρ h w) {t:TypeId} {a:Addr} {v:Value} (hl:loadAt E h t a=.ok v) {r κ:Nat} (hb:ρ a.block=some (r,κ)) :
  ∃ u,VRel ρ v u∧(loadVar t ⟨r,a.off,none⟩).run E.P w=.ok u w:=by
 unfold loadAt at hl
 split at hl
 ·rename_i ti c n e op ro ht hg
  obtain ⟨r',κ',h1,m,hm⟩:=hw.live _ _ hg
  rw [hb] at h1
  obtain ⟨rfl,rfl⟩:r=r'∧κ=κ':=by simpa using h1
  have:=zmh K ht (s:=0) (r:=r) (ρ:=ρ) (w:=w) (fun i v hv=>by rw [Nat.zero_add]; exact hm.get i v hv) hl
  rw [Nat.zero_add] at this
  exact this
 ·rename_i ti c n off ht hg
  obtain ⟨r',κ',h1,m,e,_,hm⟩:=hw.live _ _ hg
  rw [hb] at h1
  obtain ⟨rfl,rfl⟩:r=r'∧κ=κ':=by simpa using h1
  cases hle:Nat.ble off a.off with
  | false=>rw [hle] at hl; simp at hl
  | true=>
   rw [hle,cond_true] at hl
   have:=zmh K ht (s:=off) (r:=r) (ρ:=ρ) (w:=w) hm hl
   rw [show off+(a.off-off)=a.off by have:=Nat.le_of_ble_eq_true hle; omega] at this
   exact this
 ·simp at hl
 ·simp at hl
theorem zsJ (K:EnvOK E) (t:TypeId) (x:Operand):zdJ E (zar t x) (.load t x):=by
 intro ev eval ρ h w o n h' ho hev hw hok
 unfold zar zba at hok
 split at hok
 ·rename_i ad hx
  split at hok
  ·rename_i v hl
   obtain ⟨rfl,rfl⟩:=zaq hok
   obtain ⟨r,κ,hb,hs,he⟩:=(hev x _ hx).ptr_inv
   obtain ⟨u,hr,hrun⟩:=zrA K hw hl hb
   rw [zvI ho]
   have:(Instr.loadAt t (eval x)).run E.P w=.ok u w:=by
    unfold Instr.loadAt
    rw [he]
    simp only [Instr.sureAddr,pure_bind,hrun]
   rw [zaw _ _ _ _ _ this]
   exact .val hr
  ·simp at hok
 ·rename_i b hx
  unfold zyS at hok
  split at hok
  ·rename_i ti v0 ht hg
   cases hg2:Nat.beq ti.size 1 with
   | false=>rw [hg2] at hok; simp at hok
   | true=>
    rw [hg2,cond_true] at hok
    obtain ⟨rfl,rfl⟩:=zaq hok
    have e1:=Nat.eq_of_beq_eq_true hg2
    obtain ⟨r,κ,hb,he⟩:=(hev x _ hx).chan_inv
    obtain ⟨r',κ',h1,cs,e,u0,hc,hk,hv⟩:=hw.live _ _ hg
    rw [hb] at h1
    obtain ⟨rfl,rfl⟩:r=r'∧κ=κ':=by simpa using h1
    have hl':(if ti.agg then match range (Tr.ofL 33 [v0]) 1 0 ti.size with
      | some l=>.ok (.agg l.toArray)
      | none=>.error "load  cells"
     else match (Tr.ofL 33 [v0]).get 0 with
      | some v=>.ok v
      | none=>.error "load  cell" : Ex Value)=.ok (if ti.agg then .agg #[v0] else v0):=by
     rw [e1]
     cases ti.agg<;>rfl
    obtain ⟨u,hr,hrun⟩:=zmh K ht (s:=κ) (k:=0) (n:=1) (r:=r) (ρ:=ρ) (w:=w) (fun i v hv'=>by
     have hv':=zcX hv'
     have hi:i=0:=by
      rcases Nat.eq_zero_or_pos i with hi | hi
      ·exact hi
      ·rw [List.getElem?_eq_none (by simp; omega)] at hv'; simp at hv'
     subst hi
     simp only [List.getElem?_cons_zero,Option.some.injEq] at hv'
     subst hv'
     exact ⟨u0,by simp [World.cell?,hc,hk],hv⟩) hl'
    rw [Nat.add_zero] at hrun
    rw [zvI ho]
    have:(Instr.loadAt t (eval x)).run E.P w=.ok u w:=by
     unfold Instr.loadAt
     rw [he]
     simp only [Instr.sureAddr,pure_bind,hrun]
    rw [zaw _ _ _ _ _ this]
    exact .val hr
  ·simp at hok
 ·simp at hok
end Go.Sim
namespace Go.Sim
variable {E:Env}
theorem zln (w:World) (b o:Nat) (v:Value) (s:Nat) (hs:s≠b):(w.setCell ⟨b,o,none⟩ v).heap[s]? = w.heap[s]? := by
 unfold World.setCell
 simp only [Array.getElem?_modify]
 rw [if_neg (fun e=>hs e.symm)]
theorem zum (w:World) (b o:Nat) (v:Value):(w.setCell ⟨b,o,none⟩ v).heap.size=w.heap.size:=by
 unfold World.setCell; simp
theorem zrM (w:World) (b o:Nat) (v:Value) (s:Nat):(w.setCell ⟨b,o,none⟩ v).shape? s=w.shape? s:=by
 by_cases hs:s=b
 ·subst hs
  unfold World.setCell World.shape?
  simp only [Array.getElem?_modify,if_true]
  cases h:w.heap[s]? with
  | none=>rfl
  | some x=>cases x<;>simp
 ·exact zhK (zln w b o v s hs)
theorem zge (b:Nat):∀ (vs:List Value) (o:Nat) (w:World) (s:Nat),s≠b→(w.setCells b o vs).heap[s]? = w.heap[s]?
 | [],_,_,_,_=>rfl
 | v::r,o,w,s,hs=>by rw [World.setCells,zge b r _ _ s hs,zln w b o v s hs]
theorem zgo (b:Nat):∀ (vs:List Value) (o:Nat) (w:World),(w.setCells b o vs).heap.size=w.heap.size
 | [],_,_=>rfl
 | v::r,o,w=>by rw [World.setCells,zgo b r,zum]
theorem zgb (b:Nat):∀ (vs:List Value) (o:Nat) (w:World) (s:Nat),(w.setCells b o vs).shape? s=w.shape? s
 | [],_,_,_=>rfl
 | v::r,o,w,s=>by rw [World.setCells,zgb b r,zrM]
theorem zgv (b:Nat):∀ (vs:List Value) (o:Nat) (w:World),(w.setCells b o vs).os=w.os∧(w.setCells b o vs).output=w.output∧(w.setCells b o vs).tape=w.tape∧(w.setCells b o vs).drawn=w.drawn
 | [],_,_=>⟨rfl,rfl,rfl,rfl⟩
 | v::r,o,w=>by rw [World.setCells]; exact zgv b r _ _
theorem znN.setCells {r m:Nat}:∀ (vs:List Value) (o:Nat) (w:World),znN w r m→znN (w.setCells r o vs) r m
 | [],_,_,h=>h
 | v::l,o,w,h=>by
  rw [World.setCells]
  refine znN.setCells l _ _ ?_
  obtain ⟨c,e,lo,hi,h1,h2⟩:=h
  refine ⟨c.setIfInBounds o v,e,lo,hi,?_,h2⟩
  unfold World.setCell
  simp [Array.getElem?_modify,h1]
theorem zgq {w:World} {r m:Nat} {e:TypeId} (h:w.shape? r=some (e,m)) {i:Nat} (hi:i<m):(w.cell? ⟨r,i,none⟩).isSome=true:=by
 unfold World.shape? at h
 unfold World.cell?
 cases hx:w.heap[r]? with
 | none=>rw [hx] at h; simp at h
 | some x=>
  rw [hx] at h
  cases x with
  | cells c el fz=>
   simp at h
   simp only [hx]
   simp [h.2,hi]
  | _=>simp at h
theorem zkP {ρ:Ren} {v u:Value} (h:VRel ρ v u) (hs:zfY v=true):u.oneCell'=true:=by
 cases h<;>first | rfl | (simp [zfY] at hs)
theorem zgr:∀ (l:List Value),zcR l=true→∀ v∈l,zfY v=true
 | [],_,v,hv=>by simp at hv
 | x::r,h,v,hv=>by
  simp only [zcR,Bool.and_eq_true] at h
  rcases List.mem_cons.1 hv with rfl | hv
  ·exact h.1
  ·exact zgr r h.2 v hv
structure StoreSpec (c c':Tr Value) (n off:Nat) (vs:List Value):Prop where
 fits:∀ j,j<vs.length→off+j<n
 scalar:zcR vs=true
 get:∀ (k:Nat) (v:Value),c'.get k=some v→(∃ j,j<vs.length∧k=off+j∧vs[j]? = some v)∨((k<off∨off+vs.length≤k)∧c.get k=some v)
theorem zei:∀ (vs:List Value) (c:Tr Value) (n i:Nat) (c':Tr Value),zcC c n i vs=some c'→StoreSpec c c' n i vs
 | [],c,n,i,c',h=>by
  simp [zcC] at h; subst h
  exact ⟨fun j hj=>by simp at hj,rfl,fun k v hv=>.inr ⟨by simp; omega,hv⟩⟩
 | v::r,c,n,i,c',h=>by
  have key:(bif Nat.blt i n then (c.put i (some v)).force fun c=>zci (i+1) fun i=>zcC c n i r else none)=some c'→zfY v=true→StoreSpec c c' n i (v::r):=by
   intro h hs
   cases hb:Nat.blt i n with
   | false=>rw [hb] at h; simp at h
   | true=>
    rw [hb,cond_true,zav,zaD] at h
    have hi:=zaB hb
    have ih:=zei r _ n (i+1) c' h
    refine ⟨fun j hj => ?_,by simp [zcR,hs,ih.scalar],fun k u hu => ?_⟩
    ·cases j with
     | zero=>exact hi
     | succ j=>have:=ih.fits j (by simpa using hj); omega
    ·rcases ih.get k u hu with ⟨j,hj,rfl,hv⟩ | ⟨ho,hg⟩
     ·exact .inl ⟨j+1,by simp; omega,by omega,by simpa using hv⟩
     ·rw [zaa] at hg
      split at hg
      ·rename_i e
       obtain rfl:=Option.some.inj hg
       exact .inl ⟨0,by simp,e.1,by simp⟩
      ·rename_i e
       by_cases hk:k=i
       ·exfalso
        subst hk
        have hl:=zbU (t:=c') hu
        exact e ⟨rfl,hl⟩
       ·exact .inr ⟨by simp; omega,hg⟩
  cases v with
  | agg=>simp [zcC] at h
  | tuple=>simp [zcC] at h
  | _=>exact key h rfl
theorem zoZ {c c':Tr Value} {n off:Nat} {vs:List Value} (h:zcL c n off vs=some c'):StoreSpec c c' n off vs:=by
 unfold zcL at h
 cases hb:Nat.ble vs.length 12 with
 | true=>rw [hb,cond_true] at h; exact zei vs c n off c' h
 | false=>
  rw [hb,cond_false] at h
  cases hc:(zcR vs&&Nat.ble (off+vs.length) n&&Nat.ble n lim) with
  | false=>rw [hc] at h; simp at h
  | true=>
   rw [hc,cond_true] at h
   simp only [Bool.and_eq_true] at hc
   have h1:=zdA hc.1.2
   have h2:=zdA hc.2
   cases hd:(Nat.beq off 0&&Nat.beq vs.length n) with
   | true=>
    rw [hd,cond_true] at h
    simp only [Bool.and_eq_true,zaF,decide_eq_true_eq] at hd
    obtain rfl:=Option.some.inj h
    refine ⟨fun j hj=>by omega,hc.1.1,fun k v hv=>.inl ?_⟩
    have:=zcX hv
    refine ⟨k,?_,by omega,this⟩
    rcases Nat.lt_or_ge k vs.length with hk | hk
    ·exact hk
    ·rw [List.getElem?_eq_none hk] at this; simp at this
   | false=>
    rw [hd,cond_false] at h
    split at h
    ·exact zei vs c n off c' h
    ·rename_i l hl
     obtain ⟨g1,g2⟩:=zcF hl
     obtain rfl:=Option.some.inj h
     refine ⟨fun j hj=>by omega,hc.1.1,fun k v hv => ?_⟩
     have hv:=zcX hv
     have e1:(l.take off).length=off:=by simp; omega
     by_cases k1:k<off
     ·rw [List.append_assoc,List.getElem?_append_left (by omega),List.getElem?_take,if_pos k1,g2 k (by omega) (by omega)] at hv
      exact .inr ⟨.inl k1,hv⟩
     ·by_cases k2:k<off+vs.length
      ·rw [List.getElem?_append_left (by simp; omega),List.getElem?_append_right (by omega),e1] at hv
       exact .inl ⟨k-off,by omega,by omega,hv⟩
      ·rw [List.getElem?_append_right (by simp; omega),List.getElem?_drop] at hv
       have e2:(l.take off++vs).length=off+vs.length:=by simp; omega
       rw [e2,show off+vs.length+(k-(off+vs.length))=k by omega] at hv
       have hk:k<n:=by
        rcases Nat.lt_or_ge k n with hk | hk
        ·exact hk
        ·rw [List.getElem?_eq_none (by omega)] at hv; simp at hv
       rw [g2 k hk (by omega)] at hv
       exact .inr ⟨.inr (by omega),hv⟩
theorem znl {ρ:Ren} {h:SHeap} {w:World} (hw:WRel E ρ h w) {b r κ n:Nat} {c c':Tr Value} {e:TypeId} {op:Bool} (hg:h.t.get b=some (.cells c n e op false)) (hb:ρ b=some (r,κ))
  {off:Nat} {vs us:List Value} (hs:StoreSpec c c' n off vs) (hl:LRel ρ vs us) :
  (∃ u,u=w.setCells r off us∧(storeCells ⟨r,off,none⟩ us 0).run E.P w=.ok () u) ∧
   WRel E ρ (h.set b (some (.cells c' n e op false))) (w.setCells r off us)∧Stp ρ h w ρ (h.set b (some (.cells c' n e op false))) (w.setCells r off us):=by
 obtain ⟨r',κ',h1,m,hm⟩:=hw.live _ _ hg
 rw [hb] at h1
 obtain ⟨rfl,rfl⟩:r=r'∧κ=κ':=by simpa using h1
 have hcell:∀ j,j<us.length→(w.cell? ⟨r,off+j,none⟩).isSome=true:=fun j hj=>zgq hm.shape (by have:=hs.fits j (by rw [hl.len]; exact hj); have:=hm.le; omega)
 have hrun:=run_storeCells_cells (P:=E.P) r off us 0 w (by simpa using hcell) (fun j hj=>by
  have:=hs.fits j (by rw [hl.len]; exact hj)
  simpa using hm.free rfl (off+j) (by have:=hm.le; omega)) (fun u hu=>by
  obtain ⟨i,hi⟩:=List.mem_iff_getElem?.1 hu
  rcases hv:vs[i]? with _ | v
  ·have:=hl.none hv; rw [this] at hi; simp at hi
  ·exact zkP (hl.get i v u hv hi) (zgr vs hs.scalar v (List.mem_of_getElem? hv)))
 have hrest:=zgv r us off w
 have hset:=hw.set (o':=.cells c' n e op false) (w':=w.setCells r off us) hg hb rfl (zgo r us off w) (fun s hs'=>zge r us off w s hs') ⟨m,by rw [zgb]; exact hm.shape,hm.le,fun i v hv=>by
  rcases hs.get i v hv with ⟨j,hj,rfl,_⟩ | ⟨_,hg'⟩
  ·exact hs.fits j hj
  ·exact hm.lt i v hg',hm.shut,hm.room,fun i v hv => ?_,fun _ i hi=>by
  rw [World.frozen?_setCells]; exact hm.free rfl i hi,fun _=>(hm.calm rfl).setCells us off w⟩ hrest.1 hrest.2.1 hrest.2.2.1
 ·exact ⟨⟨_,rfl,by simpa using hrun⟩,hset.1,hset.2⟩
 ·rcases hs.get i v hv with ⟨j,hj,rfl,hv'⟩ | ⟨ho,hg'⟩
  ·obtain ⟨u,hu,hr⟩:=hl.some hv'
   have hj':j<us.length:=hl.len▸hj
   refine ⟨u,?_,hr⟩
   rw [World.cell?_setCells_in r us off w hcell j hj']
   rw [List.getElem?_eq_getElem hj'] at hu
   exact hu
  ·obtain ⟨u,hu,hr⟩:=hm.get i v hg'
   refine ⟨u,?_,hr⟩
   rw [World.cell?_setCells_out r us off w _ (fun _ _=>by have:=hl.len; rcases ho with ho | ho<;>simp<;>omega)]
   exact hu
section
variable {ρ:Operand→Value} {o:Oper}
theorem zCi {t:TypeId} {x y:Operand} (ho:o.op=.store t x y):execOp ρ o=(do Instr.storeAt t (ρ x) (ρ y); pure .skip):=by unfold execOp; rw [ho]
end
theorem zpa (v:Value):v.cells.size=v.cells.toList.length:=by simp
theorem zyE (K:EnvOK E) (t:TypeId) (x y:Operand):zdN E (zap t x y) (.store t x y):=by
 intro ev eval ρ h w o n h' ho hev hw hok
 unfold zap zcI at hok
 split at hok
 ·rename_i ad v hx hy
  split at hok
  ·rename_i hh hst
   obtain ⟨rfl,rfl⟩:=zaq hok
   unfold storeAt at hst
   split at hst
   ·rename_i ti c m e op ht hg
    split at hst
    ·simp at hst
    ·rename_i hsz
     split at hst
     ·rename_i c' hc
      injection hst with hst
      subst hst
      obtain ⟨r,κ,hb,hs,he⟩:=(hev x _ hx).ptr_inv
      have hl:=(hev y v hy).cells
      obtain ⟨⟨_,rfl,hrun⟩,h1,h2⟩:=znl hw hg hb (zoZ hc) hl
      rw [zCi ho]
      refine ⟨ρ,_,_,.skip,h1,h2,?_⟩
      have hsz':(eval y).cells.size=ti.size:=by
       have:=hl.len
       rw [zpa] at hsz ⊢
       omega
      simp only [Instr.storeAt,he,Instr.sureAddr,pure_bind,storeVar,Sem.run_bind,K.sizeOf ht w,Result.andThen_ok,hsz',ne_eq,not_true_eq_false,if_false,hrun,Sem.run_pure]
     ·simp at hst
   ·simp at hst
   ·simp at hst
   ·simp at hst
  ·simp at hok
 ·simp at hok
end Go.Sim
namespace Go.Sim
variable {E:Env}
section
variable {ρ:Operand→Value} {o:Oper}
theorem zCE {t:TypeId} {x:Operand} {f:Nat} (ho:o.op=.field t x f):execOp ρ o=(do let v ← Instr.field t (ρ x) f; pure (.value v)):=by unfold execOp; rw [ho]
theorem zkZ {t:TypeId} {x i:Operand} (ho:o.op=.index t x i):execOp ρ o=(do let v ← Instr.index t (ρ x) (ρ i); pure (.value v)):=by unfold execOp; rw [ho]
theorem znd {op:UnOp} {t:TypeId} {x:Operand} (ho:o.op=.unOp op t x):execOp ρ o=(do let v ← Op.unary op (ρ x); pure (.value v)):=by unfold execOp; rw [ho]
theorem zkx {op:BinOp} {t u:TypeId} {x y:Operand} (ho:o.op=.binOp op t x y u):execOp ρ o=(do let v ← (do eqGuard op t x y (ρ x) (ρ y); binOp op t (ρ x) (ρ y)); pure (.value v)):=by unfold execOp; rw [ho]
end
theorem zeA {ρ:Ren} {ev:Ev} {eval:Operand→Value} (hev:zcE ρ ev eval) {h:SHeap} {w:World} (o:Oper) {n:SNext} {h':SHeap}
  (hok:zbZ E.P ev o h=.ok (n,h')) (hcongr:∀ e1 e2:Operand→Value,(∀ x∈o.op.operands.toList,e1 x=e2 x)→execOp e1 o=execOp e2 o):zfh ρ h w n h' ((execOp eval o).run E.P w):=by
 have hall:o.op.operands.toList.all (fun x=>match ev x with | some v=>zaP 12 v | none=>false)=true:=by
  unfold zbZ at hok
  split at hok
  ·assumption
  ·simp at hok
 refine zyw hev o hok (hcongr _ _ fun x hx => ?_)
 have:=List.all_eq_true.1 hall x hx
 cases hv:ev x with
 | none=>rw [hv] at this; simp at this
 | some v=>
  rw [hv] at this
  simp only [Option.getD_some]
  exact (ziN 12 v _ this (hev x v hv)).symm
theorem zvl (K:EnvOK E) {ρ:Ren} {w:World} {t:TypeId} {cs ds:Array Value} {off:Nat} {v:Value} (hp:zoq E t cs off=.ok v) (hl:LRel ρ cs.toList ds.toList) :
  ∃ u,VRel ρ v u∧(part t ds off).run E.P w=.ok u w:=by
 unfold zoq at hp
 split at hp
 ·rename_i ti ht
  split at hp
  ·rename_i hagg
   injection hp with hp
   subst hp
   refine ⟨.agg (ds.extract off (off+ti.size)),.agg' ?_,?_⟩
   ·rw [Array.toList_extract,Array.toList_extract]
    simp only [List.extract_eq_take_drop]
    exact (hl.drop _).take _
   ·unfold part
    simp only [Sem.run_bind,K.isAgg ht w,Result.andThen_ok,hagg,if_true,K.sizeOf ht w,Sem.run_pure]
  ·rename_i hagg
   unfold zcM at hp
   split at hp
   ·rename_i x hx
    injection hp with hp
    subst hp
    obtain ⟨u,hu,hr⟩:=hl.some (by rw [Array.getElem?_toList]; exact hx)
    rw [Array.getElem?_toList] at hu
    refine ⟨u,hr,?_⟩
    unfold part
    have:ti.agg=false:=by simpa using hagg
    simp only [Sem.run_bind,K.isAgg ht w,Result.andThen_ok,this,Bool.false_eq_true,if_false,hu,Sem.run_pure]
   ·simp at hp
 ·simp at hp
theorem zrh (K:EnvOK E) (t:TypeId) (x:Operand) (f:Nat):zdJ E (zjP t x f) (.field t x f):=by
 intro ev eval ρ h w o n h' ho hev hw hok
 unfold zjP zpR at hok
 split at hok
 ·rename_i fields b1 b2 b3 cs ht hx
  split at hok
  ·rename_i fd hf
   split at hok
   ·rename_i v hp
    obtain ⟨rfl,rfl⟩:=zaq hok
    obtain ⟨ds,he,hl⟩:=(hev x _ hx).agg_inv
    obtain ⟨u,hr,hrun⟩:=zvl K (w:=w) hp hl
    rw [zCE ho]
    have:(Instr.field t (eval x) f).run E.P w=.ok u w:=by
     unfold Instr.field
     rw [Sem.run_bind,K.und ht w]
     simp only [Result.andThen_ok,hf,he,asAgg,pure_bind,hrun]
    rw [zaw _ _ _ _ _ this]
    exact .val hr
   ·simp at hok
  ·simp at hok
 ·simp at hok
theorem VRel.str_inv {ρ:Ren} {s:ByteArray} {v:Value} (h:VRel ρ (.string s) v):v=.string s:=by cases h; rfl
theorem VRel.bool_inv {ρ:Ren} {b:Bool} {v:Value} (h:VRel ρ (.bool b) v):v=.bool b:=by cases h; rfl
theorem zzD (s:ByteArray) (i:Nat):s[i]? = s.data.toList[i]? := by
 obtain ⟨d⟩:=s
 simp only [getElem?_def,Array.length_toList]
 rfl
theorem zqT (K:EnvOK E) (t:TypeId) (x i:Operand):zdJ E (zeP t x i) (.index t x i):=by
 intro ev eval ρ h w o n h' ho hev hw hok
 unfold zeP zjN at hok
 split at hok
 ·rename_i len elem b1 b2 b3 cs k ht hx hi
  split at hok
  ·rename_i ei hei
   split at hok
   ·rename_i hlt
    split at hok
    ·rename_i v hp
     obtain ⟨rfl,rfl⟩:=zaq hok
     obtain ⟨ds,he,hl⟩:=(hev x _ hx).agg_inv
     obtain ⟨kd,hik⟩:=zeD hev hi
     obtain ⟨u,hr,hrun⟩:=zvl K (w:=w) hp hl
     rw [zkZ ho]
     have:(Instr.index t (eval x) (eval i)).run E.P w=.ok u w:=by
      unfold Instr.index
      rw [hik,he]
      have h1:(0:Int)≤Int.ofNat k:=Int.natCast_nonneg k
      have h2:Int.ofNat k<(len:Int):=by simpa using hlt
      simp only [asIntOf,pure_bind,Sem.run_bind,K.und ht w,Result.andThen_ok,h1,h2,and_self,if_true,K.sizeOf hei w]
      exact hrun
     rw [zaw _ _ _ _ _ this]
     exact .val hr
    ·simp at hok
   ·simp at hok
  ·simp at hok
 ·rename_i b1 b2 b3 s k ht hx hi
  split at hok
  ·rename_i b hb
   obtain ⟨rfl,rfl⟩:=zaq hok
   have he:=(hev x _ hx).str_inv
   obtain ⟨kd,hik⟩:=zeD hev hi
   rw [zkZ ho]
   have:(Instr.index t (eval x) (eval i)).run E.P w=.ok (.int .u8 (.ofNat b.toNat)) w:=by
    unfold Instr.index
    rw [hik,he]
    have h1:(0:Int)≤Int.ofNat k:=Int.natCast_nonneg k
    simp only [asIntOf,pure_bind,Sem.run_bind,K.und ht w,Result.andThen_ok,h1,if_true,show (Int.ofNat k).toNat=k from rfl,zzD,hb]
    rfl
   rw [zaw _ _ _ _ _ this]
   exact .val (.int _ _)
  ·simp at hok
 ·refine zeA hev o hok fun e1 e2 he => ?_
  rw [zkZ ho,zkZ ho,he x (by rw [ho]; simp [Op.operands]),he i (by rw [ho]; simp [Op.operands])]
theorem zdC (k:IntKind) (n:Int):zaK k n=k.wrap n:=by
 unfold zaK
 split
 ·rename_i m
  cases hb:Nat.blt m 9223372036854775808 with
  | false=>rfl
  | true=>
   have:=zaB hb
   simp only [cond_true]
   unfold IntKind.wrap
   simp only [IntKind.bits,IntKind.signed]
   have h1:(Int.ofNat m)%(2^64:Int)=Int.ofNat m:=Int.emod_eq_of_lt (Int.natCast_nonneg m) (by simp only [Int.ofNat_eq_natCast]; omega)
   simp only [h1]
   rw [if_neg]
   simp only [Int.ofNat_eq_natCast]
   simp
   omega
 ·rename_i m
  cases hb:Nat.blt m 18446744073709551616 with
  | false=>rfl
  | true=>
   have:=zaB hb
   simp only [cond_true]
   unfold IntKind.wrap
   simp only [IntKind.bits,IntKind.signed]
   have h1:(Int.ofNat m)%(2^64:Int)=Int.ofNat m:=Int.emod_eq_of_lt (Int.natCast_nonneg m) (by simp only [Int.ofNat_eq_natCast]; omega)
   simp only [h1]
   simp
 ·rfl
theorem zyt (op:UnOp) (t:TypeId) (x:Operand):zdJ E (dUn op x) (.unOp op t x):=by
 intro ev eval ρ h w o n h' ho hev hw hok
 unfold dUn zpV at hok
 split at hok
 ·rename_i b hx
  obtain ⟨rfl,rfl⟩:=zaq hok
  have he:=(hev x _ hx).bool_inv
  rw [znd ho,he]
  have:(Op.unary .not (.bool b)).run E.P w=.ok (.bool (!b)) w:=rfl
  rw [zaw _ _ _ _ _ this]
  cases b<;>exact .val (.bool _)
 ·rename_i k m hx
  obtain ⟨rfl,rfl⟩:=zaq hok
  have he:=(hev x _ hx).int_inv
  rw [znd ho,he]
  have:(Op.unary .neg (.int k m)).run E.P w=.ok (.int k (k.wrap (0-m))) w:=rfl
  rw [zaw _ _ _ _ _ this,zdC]
  exact .val (.int _ _)
 ·refine zeA hev o hok fun e1 e2 he => ?_
  rw [znd ho,znd ho,he x (by rw [ho]; simp [Op.operands])]
end Go.Sim
namespace Go.Sim
variable {E:Env}
theorem zhM (P:Program) (op:BinOp) (t:TypeId) (x y:Operand) (k l:IntKind) (a b:Int) (w:World):(eqGuard op t x y (.int k a) (.int l b)).run P w=.ok () w:=by
 cases op<;>rfl
theorem zob {k:IntKind} {n:Nat} (h:n<2^(k.bits-1)):k.wrap (Int.ofNat n)=Int.ofNat n:=by
 have hp:n<2^k.bits:=Nat.lt_of_lt_of_le h (Nat.pow_le_pow_right (by omega) (by omega))
 unfold IntKind.wrap
 have h1:(Int.ofNat n)%(2^k.bits:Int)=Int.ofNat n:=Int.emod_eq_of_lt (Int.natCast_nonneg n) (by
  have:((2^k.bits:Nat):Int)=(2^k.bits:Int):=by push_cast; rfl
  rw [← this]; exact Int.ofNat_lt.2 hp)
 simp only [h1]
 rw [if_neg]
 have:((2^(k.bits-1):Nat):Int)=(2^(k.bits-1):Int):=by push_cast; rfl
 rw [← this]
 simp only [Bool.and_eq_true,decide_eq_true_eq,not_and]
 intro _
 have:=Int.ofNat_lt.2 h
 simp only [Int.ofNat_eq_natCast]
 omega
theorem zlr {k:IntKind} {n:Nat} (hs:k.signed=false) (h:n<2^k.bits):k.wrap (Int.ofNat n)=Int.ofNat n:=by
 unfold IntKind.wrap
 have h1:(Int.ofNat n)%(2^k.bits:Int)=Int.ofNat n:=Int.emod_eq_of_lt (Int.natCast_nonneg n) (by
  have:((2^k.bits:Nat):Int)=(2^k.bits:Int):=by push_cast; rfl
  rw [← this]; exact Int.ofNat_lt.2 h)
 simp only [h1,hs,Bool.false_and,Bool.false_eq_true,if_false]
theorem zfy (n a:Nat) (h:a<2^n):(BitVec.ofInt n (Int.ofNat a)).toNat=a:=by
 rw [BitVec.toNat_ofInt]
 simp only [Int.ofNat_eq_natCast]
 have:((a:Int)%((2^n:Nat):Int)).toNat=a%2^n:=by
  show (Int.ofNat a%Int.ofNat (2^n)).toNat=a%2^n
  rfl
 rw [this,Nat.mod_eq_of_lt h]
theorem ziK {k:IntKind} {r a b:Nat} {v:Value} (h:zcs k r a b=some v) (hr:∀ n,a<2^n→b<2^n→r<2^n) :
  v=.int k (.ofNat r)∧a<2^k.bits∧b<2^k.bits∧k.wrap (Int.ofNat r)=Int.ofNat r:=by
 have small:∀ n,n≤k.bits-1→a<2^n→b<2^n→a<2^k.bits∧b<2^k.bits∧k.wrap (Int.ofNat r)=Int.ofNat r:=by
  intro n hn ha hb
  have hm:(2:Nat)^n≤2^k.bits:=Nat.pow_le_pow_right (by omega) (by omega)
  exact ⟨by omega,by omega,zob (Nat.lt_of_lt_of_le (hr n ha hb) (Nat.pow_le_pow_right (by omega) hn))⟩
 have uns:k.signed=false→a<2^k.bits→b<2^k.bits→a<2^k.bits∧b<2^k.bits∧k.wrap (Int.ofNat r)=Int.ofNat r:=fun hs ha hb=>⟨ha,hb,zlr hs (hr _ ha hb)⟩
 have two:∀ (p q:Nat),(Nat.blt a p&&Nat.blt b q)=true→a<p∧b<q:=by
  intro p q h
  simp only [Bool.and_eq_true] at h
  exact ⟨zaB h.1,zaB h.2⟩
 cases k<;>simp only [zcs] at h
 case i8=>simp at h
 case i16=>simp at h
 case u16=>simp at h
 case u8=>
  cases hc:(Nat.blt a 256&&Nat.blt b 256) with
  | false=>rw [hc] at h; simp at h
  | true=>
   rw [hc] at h
   obtain ⟨h1,h2⟩:=two _ _ hc
   exact ⟨(Option.some.inj h).symm,uns rfl h1 h2⟩
 all_goals
  cases hc:(Nat.blt a 2147483648&&Nat.blt b 2147483648) with
  | true=>
   rw [hc] at h
   obtain ⟨h1,h2⟩:=two _ _ hc
   exact ⟨(Option.some.inj h).symm,small 31 (by decide) h1 h2⟩
  | false=>
   rw [hc,cond_false] at h
   first
    | (simp at h; done)
    | (cases hd:(Nat.blt a 4294967296&&Nat.blt b 4294967296) with
      | false=>rw [hd] at h; simp at h
      | true=>
       rw [hd] at h
       obtain ⟨h1,h2⟩:=two _ _ hd
       exact ⟨(Option.some.inj h).symm,uns rfl h1 h2⟩)
    | (cases hd:(Nat.blt a 9223372036854775808&&Nat.blt b 9223372036854775808) with
      | false=>rw [hd] at h; simp at h
      | true=>
       rw [hd] at h
       obtain ⟨h1,h2⟩:=two _ _ hd
       exact ⟨(Option.some.inj h).symm,small 63 (by decide) h1 h2⟩)
theorem zuY (P:Program) (k:IntKind) (a b:Nat) (w:World) (ha:a<2^k.bits) (hb:b<2^k.bits) (hw:k.wrap (Int.ofNat (Nat.land a b))=Int.ofNat (Nat.land a b)) :
  (Op.intBits .and k (.ofNat a) (.ofNat b)).run P w=.ok (.int k (.ofNat (Nat.land a b))) w:=by
 simp only [Op.intBits,Sem.run_pure,BitVec.toNat_and,zfy _ _ ha,zfy _ _ hb]
 exact congrArg (fun n=>Result.ok (Value.int k n) w) hw
theorem zwe (P:Program) (k:IntKind) (a b:Nat) (w:World) (ha:a<2^k.bits) (hb:b<2^k.bits) (hw:k.wrap (Int.ofNat (Nat.lor a b))=Int.ofNat (Nat.lor a b)) :
  (Op.intBits .or k (.ofNat a) (.ofNat b)).run P w=.ok (.int k (.ofNat (Nat.lor a b))) w:=by
 simp only [Op.intBits,Sem.run_pure,BitVec.toNat_or,zfy _ _ ha,zfy _ _ hb]
 exact congrArg (fun n=>Result.ok (Value.int k n) w) hw
theorem zva (P:Program) (k:IntKind) (a b:Nat) (w:World) (ha:a<2^k.bits) (hb:b<2^k.bits) (hw:k.wrap (Int.ofNat (Nat.xor a b))=Int.ofNat (Nat.xor a b)) :
  (Op.intBits .xor k (.ofNat a) (.ofNat b)).run P w=.ok (.int k (.ofNat (Nat.xor a b))) w:=by
 simp only [Op.intBits,Sem.run_pure,BitVec.toNat_xor,zfy _ _ ha,zfy _ _ hb]
 exact congrArg (fun n=>Result.ok (Value.int k n) w) hw
theorem zcD (P:Program) {op:BinOp} {k:IntKind} {x y:Int} {v:Value} (h:zcv op k x y=some v) (t:TypeId) (w:World) :
  (binOp op t (.int k x) (.int k y)).run P w=.ok v w∧∀ ρ,VRel ρ v v:=by
 cases op
 case add=>simp only [zcv,Option.some.injEq] at h; subst h; rw [zdC]; exact ⟨by simp [binOp,Op.intArith],fun ρ=>.int _ _⟩
 case sub=>simp only [zcv,Option.some.injEq] at h; subst h; rw [zdC]; exact ⟨by simp [binOp,Op.intArith],fun ρ=>.int _ _⟩
 case mul=>simp only [zcv,Option.some.injEq] at h; subst h; rw [zdC]; exact ⟨by simp [binOp,Op.intArith],fun ρ=>.int _ _⟩
 case eql=>simp only [zcv,Option.some.injEq] at h; subst h; exact ⟨by simp [binOp,Op.intCmp],fun ρ=>.bool _⟩
 case neq=>simp only [zcv,Option.some.injEq] at h; subst h; exact ⟨by simp [binOp,Op.intCmp],fun ρ=>.bool _⟩
 case lss=>simp only [zcv,Option.some.injEq] at h; subst h; exact ⟨by simp [binOp,Op.intCmp],fun ρ=>.bool _⟩
 case leq=>simp only [zcv,Option.some.injEq] at h; subst h; exact ⟨by simp [binOp,Op.intCmp],fun ρ=>.bool _⟩
 case gtr=>simp only [zcv,Option.some.injEq] at h; subst h; exact ⟨by simp [binOp,Op.intCmp],fun ρ=>.bool _⟩
 case geq=>simp only [zcv,Option.some.injEq] at h; subst h; exact ⟨by simp [binOp,Op.intCmp],fun ρ=>.bool _⟩
 case and=>
  cases x<;>cases y<;>simp only [zcv] at h<;>try (simp at h; done)
  obtain ⟨rfl,ha,hb,hw⟩:=ziK h (fun n ha hb=>Nat.and_lt_two_pow _ hb)
  exact ⟨by simpa [binOp] using zuY P k _ _ w ha hb hw,fun ρ=>.int _ _⟩
 case or=>
  cases x<;>cases y<;>simp only [zcv] at h<;>try (simp at h; done)
  obtain ⟨rfl,ha,hb,hw⟩:=ziK h (fun n ha hb=>Nat.or_lt_two_pow ha hb)
  exact ⟨by simpa [binOp] using zwe P k _ _ w ha hb hw,fun ρ=>.int _ _⟩
 case xor=>
  cases x<;>cases y<;>simp only [zcv] at h<;>try (simp at h; done)
  obtain ⟨rfl,ha,hb,hw⟩:=ziK h (fun n ha hb=>Nat.xor_lt_two_pow ha hb)
  exact ⟨by simpa [binOp] using zva P k _ _ w ha hb hw,fun ρ=>.int _ _⟩
 case quo=>
  cases x with
  | negSucc=>cases y<;>simp [zcv] at h
  | ofNat a=>cases y with
   | negSucc=>simp [zcv] at h
   | ofNat b=>cases b with
    | zero=>simp [zcv] at h
    | succ b=>
     simp only [zcv,Option.some.injEq] at h; subst h; rw [zdC]
     refine ⟨?_,fun ρ=>.int _ _⟩
     have hz:¬ (Int.ofNat (b+1)=0):=by simp only [Int.ofNat_eq_natCast]; omega
     simp only [binOp,ne_eq,not_true_eq_false,if_false,Op.intDiv,hz]
     rfl
 case rem=>
  cases x with
  | negSucc=>cases y<;>simp [zcv] at h
  | ofNat a=>cases y with
   | negSucc=>simp [zcv] at h
   | ofNat b=>cases b with
    | zero=>simp [zcv] at h
    | succ b=>
     simp only [zcv,Option.some.injEq] at h; subst h
     refine ⟨?_,fun ρ=>.int _ _⟩
     have hz:¬ (Int.ofNat (b+1)=0):=by simp only [Int.ofNat_eq_natCast]; omega
     simp only [binOp,ne_eq,not_true_eq_false,if_false,Op.intDiv,hz]
     rfl
 all_goals simp [zcv] at h
theorem zhB (P:Program) {op:BinOp} {k l:IntKind} {x y:Int} {v:Value} (h:zdE op k x y=some v) (t:TypeId) (w:World) :
  (binOp op t (.int k x) (.int l y)).run P w=.ok v w∧∀ ρ,VRel ρ v v:=by
 have cast:∀ n:Nat,((2:Int)^n)=Int.ofNat (2^n):=fun n=>by simp
 cases op<;>cases x<;>cases y<;>simp only [zdE] at h<;>try (simp at h; done)
 case shl.ofNat.ofNat a n=>
  cases hb:Nat.ble n 64 with
  | false=>rw [hb] at h; simp at h
  | true=>
   rw [hb,cond_true,Option.some.injEq] at h; subst h; rw [zdC]
   refine ⟨?_,fun ρ=>.int _ _⟩
   have hz:¬ (Int.ofNat n<0):=by simp
   simp only [binOp,Op.shift,hz,if_false,Sem.run_pure,show (Int.ofNat n).toNat=n from rfl,cast]
   rfl
 case shr.ofNat.ofNat a n=>
  cases hb:Nat.ble n 64 with
  | false=>rw [hb] at h; simp at h
  | true=>
   rw [hb,cond_true,Option.some.injEq] at h; subst h
   refine ⟨?_,fun ρ=>.int _ _⟩
   have hz:¬ (Int.ofNat n<0):=by simp
   have hd:∀ m:Nat,(Int.ofNat a).fdiv (Int.ofNat m)=Int.ofNat (a/m):=by
    intro m
    cases a with
    | zero=>simp [Int.fdiv]
    | succ a=>rfl
   simp only [binOp,Op.shift,hz,if_false,Sem.run_pure,show (Int.ofNat n).toNat=n from rfl,cast,hd]
end Go.Sim
namespace Go.Sim
variable {E:Env}
section
variable {ρ:Operand→Value} {o:Oper}
theorem zdX {x:Operand} {s t:TypeId} {c:Bool} (ho:o.op=.typeAssert x s t c):execOp ρ o=(do let v ← Instr.typeAssert (ρ x) s t c; pure (.value v)):=by unfold execOp; rw [ho]
theorem zpz {t:TypeId} {r:Option Operand} (ho:o.op=.makeMap t r):execOp ρ o=(do let v ← Instr.makeMap t (r.map ρ); pure (.value v)):=by unfold execOp; rw [ho]
theorem zme {t:TypeId} {l c:Operand} (ho:o.op=.makeSlice t l c):execOp ρ o=(do let v ← Instr.makeSlice t (ρ l) (ρ c); pure (.value v)):=by unfold execOp; rw [ho]
theorem zju {t:TypeId} {x y:Operand} {c:Bool} (ho:o.op=.lookup t x y c):execOp ρ o=(do let v ← Instr.lookup t (ρ x) (ρ y) c; pure (.value v)):=by unfold execOp; rw [ho]
theorem ztk {t:TypeId} {m k x:Operand} (ho:o.op=.mapUpdate t m k x):execOp ρ o=(do Instr.mapUpdate t (ρ m) (ρ k) (ρ x); pure .skip):=by unfold execOp; rw [ho]
theorem ziZ {t:TypeId} {x:Operand} {l h m:Option Operand} (ho:o.op=.slice t x l h m):execOp ρ o=(do let v ← Instr.sliceAt t (ρ x) (l.map ρ) (h.map ρ) (m.map ρ); pure (.value v)):=by unfold execOp; rw [ho]
end
theorem VRel.iface_inv {ρ:Ren} {t:TypeId} {v w:Value} (h:VRel ρ (.iface t v) w):∃ u,w=.iface t u∧VRel ρ v u:=by cases h; exact ⟨_,rfl,by assumption⟩
theorem zfn {ρ:Ren} {v u:Value} (h:VRel ρ v u) (b:Bool):VRel ρ (.tuple #[v,.bool b]) (.tuple #[u,.bool b]):=
 .tuple' (by simpa using LRel.cons h (LRel.cons (.bool b) (LRel.nil ρ)))
theorem zjX (K:EnvOK E) (x:Operand) (xt t:TypeId) (c:Bool):zdJ E (zhz x t c) (.typeAssert x xt t c):=by
 intro ev eval ρ h w o n h' ho hev hw hok
 unfold zhz ziW at hok
 split at hok
 ·rename_i ti s v ht hx
  obtain ⟨u,he,hr⟩:=(hev x _ hx).iface_inv
  cases hi:ziC ti.desc with
  | true=>
   rw [hi,cond_true] at hok
   split at hok
   ·rename_i hA
    obtain ⟨rfl,rfl⟩:=zaq hok
    obtain ⟨want,i,k1,k2,k3⟩:=K.asks _ _ _ hA
    rw [zdX ho,he]
    have hnone:Instr.missingMethod want i.methods=none:=by simpa using k3
    have:(Instr.typeAssert (.iface s u) xt t c).run E.P w=.ok (if c=true then .tuple #[.iface s u,.bool true] else .iface s u) w:=by
     unfold Instr.typeAssert
     simp only [Sem.run_bind,run_underlying k1,Result.andThen_ok]
     simp [typeInfo,k2,hnone]
    rw [zaw _ _ _ _ _ this]
    cases c
    ·exact .val (.iface hr)
    ·exact .val (zfn (.iface hr) true)
   ·rename_i hA
    obtain ⟨want,i,k1,k2,k3⟩:=K.asks _ _ _ hA
    obtain ⟨ms,hms⟩:∃ ms,Instr.missingMethod want i.methods=some ms:=by
     cases hm:Instr.missingMethod want i.methods with
     | none=>rw [hm] at k3; simp at k3
     | some ms=>exact ⟨ms,rfl⟩
    rw [zdX ho,he]
    cases c with
    | false=>simp at hok
    | true=>
     simp only [if_true] at hok
     split at hok
     ·rename_i z hz
      obtain ⟨rfl,rfl⟩:=zaq hok
      have:(Instr.typeAssert (.iface s u) xt t true).run E.P w=.ok (.tuple #[z,.bool false]) w:=by
       unfold Instr.typeAssert
       simp only [Sem.run_bind,run_underlying k1,Result.andThen_ok]
       simp [typeInfo,k2,hms,K.zero ht hz w]
      rw [zaw _ _ _ _ _ this]
      exact .val (zfn (K.zeroRel ht hz ρ).1 false)
     ·simp at hok
   ·refine zeA hev o hok fun e1 e2 he => ?_
    rw [zdX ho,zdX ho,he x (by rw [ho]; simp [Op.operands])]
  | false=>
   rw [hi,cond_false] at hok
   have hd:∀ ms,ti.desc ≠ .interface ms:=by intro ms e; rw [e] at hi; simp [ziC] at hi
   rw [zdX ho,he]
   split at hok
   ·rename_i hst
    subst hst
    obtain ⟨rfl,rfl⟩:=zaq hok
    have:(Instr.typeAssert (.iface s u) xt s c).run E.P w=.ok (if c=true then .tuple #[u,.bool true] else u) w:=by
     unfold Instr.typeAssert
     simp only [Sem.run_bind,K.und ht w,Result.andThen_ok]
     split<;>simp_all
    rw [zaw _ _ _ _ _ this]
    cases c
    ·exact .val hr
    ·exact .val (zfn hr true)
   ·rename_i hst
    cases c with
    | false=>simp at hok
    | true=>
     simp only [if_true] at hok
     split at hok
     ·rename_i z hz
      obtain ⟨rfl,rfl⟩:=zaq hok
      have:(Instr.typeAssert (.iface s u) xt t true).run E.P w=.ok (.tuple #[z,.bool false]) w:=by
       unfold Instr.typeAssert
       simp only [Sem.run_bind,K.und ht w,Result.andThen_ok]
       split<;>simp_all [K.zero ht hz w]
      rw [zaw _ _ _ _ _ this]
      exact .val (zfn (K.zeroRel ht hz ρ).1 false)
     ·simp at hok
 ·refine zeA hev o hok fun e1 e2 he => ?_
  rw [zdX ho,zdX ho,he x (by rw [ho]; simp [Op.operands])]
theorem zuJ (t:TypeId) (r:Option Operand):zdN E (zkV r) (.makeMap t r):=by
 intro ev eval ρ h w o n h' ho hev hw hok
 cases r with
 | some x=>simp [zkV] at hok
 | none=>
  simp only [zkV] at hok
  obtain ⟨rfl,rfl⟩:=zaq hok
  rw [zpz ho]
  have:(Instr.makeMap t ((none:Option Operand).map eval)).run E.P w=.ok (.map (some w.heap.size)) { w with heap:=w.heap.push (.map #[] 0),drawn:=w.drawn }:=by
   simp [Instr.makeMap]
  rw [zaw _ _ _ _ _ this]
  obtain ⟨h1,h2⟩:=hw.new (.map #[] 0) (.map #[] 0) 0 w.drawn ⟨#[],by simp,rfl,by simp⟩
  exact ⟨_,_,_,.value (.map (κ:=0) (by simp [upd])),h1,h2,rfl⟩
theorem zjJ {ρ:Ren} (d:TypeDesc) (k:Value):∀ (es fs:List MapEntry) (i:Nat),es.length=fs.length→(∀ (j:Nat) (e f:MapEntry),es[j]? = some e→fs[j]? = some f→e.key=f.key∧VRel ρ e.val f.val∧e.born=f.born) →
  match Instr.findNow d k es i,Instr.findNow d k fs i with
  | some (some (a,v)),some (some (b,u))=>a=b∧VRel ρ v u
  | some none,some none=>True
  | none,none=>True
  | _,_=>False
 | [],[],i,_,_=>by simp [Instr.findNow]
 | [],_::_,i,h,_=>by simp at h
 | _::_,[],i,h,_=>by simp at h
 | e::es,f::fs,i,hl,hg=>by
  obtain ⟨h1,h2,_⟩:=hg 0 e f (by simp) (by simp)
  have ih:=zjJ d k es fs (i+1) (by simpa using hl) (fun j a b ha hb=>hg (j+1) a b (by simpa using ha) (by simpa using hb))
  simp only [Instr.findNow,h1]
  cases Instr.sameNow d k f.key with
  | none=>trivial
  | some b=>cases b with
   | true=>exact ⟨rfl,h2⟩
   | false=>exact ih
theorem VRel.map_inv {ρ:Ren} {b:Nat} {v:Value} (h:VRel ρ (.map (some b)) v):∃ r κ,ρ b=some (r,κ)∧v=.map (some r):=by cases h with | map hb=>exact ⟨_,_,hb,rfl⟩
theorem zug (K:EnvOK E) {kt:TypeId} {ki:TI} (hk:E.T kt=some ki) (empty:Bool) (k:IntKind) (n:Int) (hd:∀ ms,ki.desc ≠ .interface ms) (hs:∀ fs,ki.desc ≠ .struct fs) (ha:∀ l e,ki.desc ≠ .array l e) (w:World) :
  (Instr.checkKey empty 10000 kt (.int k n)).run E.P w=.ok () w:=by
 unfold Instr.checkKey
 simp only [Sem.run_bind,K.und hk w,Result.andThen_ok]
 split<;>simp_all
theorem zeG {ρ:Ren} {h:SHeap} {w:World} (hw:WRel E ρ h w) {b r κ:Nat} {es:Array MapEntry} {c:Nat} (hg:h.t.get b=some (.map es c)) (hb:ρ b=some (r,κ)) :
  ∃ fs,w.heap[r]? = some (.map fs c)∧MapRel ρ es fs:=by
 obtain ⟨r',κ',h1,fs,h2,h3⟩:=hw.live _ _ hg
 rw [hb] at h1
 obtain ⟨rfl,rfl⟩:r=r'∧κ=κ':=by simpa using h1
 exact ⟨fs,h2,h3⟩
theorem zch (P:Program) {w:World} {r:Nat} {fs:Array MapEntry} {c:Nat} (h:w.heap[r]? = some (.map fs c)):(getObj r).run P w=.ok (.map fs c) w:=by
 simp only [getObj,Sem.run,h]
theorem zgc (P:Program) {w:World} {r:Nat} {fs:Array MapEntry} {c:Nat} (h:w.heap[r]? = some (.map fs c)) (o:Obj):(setObj r o).run P w=.ok () { w with heap:=w.heap.setIfInBounds r o }:=by
 simp only [setObj,Sem.run,h]
end Go.Sim
namespace Go.Sim
variable {E:Env}
theorem znG {d:TypeDesc} (h:zeU d=true):∃ k,d=.int k:=by
 cases d<;>simp [zeU] at h
 exact ⟨_,rfl⟩
theorem zeo (K:EnvOK E) {kt:TypeId} {ki:TI} (hk:E.T kt=some ki) (hi:zeU ki.desc=true) (empty:Bool) (k:IntKind) (n:Int) (w:World) :
  (Instr.checkKey empty 10000 kt (.int k n)).run E.P w=.ok () w:=by
 obtain ⟨kk,e⟩:=znG hi
 exact zug K hk empty k n (by simp [e]) (by simp [e]) (by simp [e]) w
theorem zgk (K:EnvOK E) {kt:TypeId} {ki:TI} (hk:E.T kt=some ki) (k:Value) (es:List MapEntry) {r:Option (Nat×Value)} (hf:Instr.findNow ki.desc k es 0=some r) (w:World) :
  (Instr.findKey kt k es).run E.P w=.ok r w:=by
 unfold Instr.findKey
 simp only [Sem.run_bind,K.und hk w,Result.andThen_ok,hf]
 rfl
theorem MapRel.list {ρ:Ren} {es fs:Array MapEntry} (k:MapRel ρ es fs):es.toList.length=fs.toList.length ∧
  ∀ (j:Nat) (e f:MapEntry),es.toList[j]? = some e→fs.toList[j]? = some f→e.key=f.key∧VRel ρ e.val f.val∧e.born=f.born:=
 ⟨by simpa using k.size,fun j e f he hf=>k.get j e f (by simpa using he) (by simpa using hf)⟩
theorem VRel.mapNil_inv {ρ:Ren} {v:Value} (h:VRel ρ (.map none) v):v=.map none:=by cases h; rfl
/-! ## keys that are structs -/
def zsI (ρ:Ren):Option (Nat×Value)→Option (Nat×Value)→Prop
 | none,none=>True
 | some (a,v),some (b,u)=>a=b∧VRel ρ v u
 | _,_=>False
theorem zlo (K:EnvOK E) {kt:TypeId} {ks:List CK} (hq:E.eqT kt=some ks) (k:Array Value) (w:World):∀ (fs:List MapEntry) (i:Nat) (r:Option (Nat×Value)),zkv ks k.toList fs i=some r→(Instr.findAsking kt (.agg k) fs i).run E.P w=.ok r w
 | [],i,r,h=>by
  obtain rfl:=Option.some.inj h
  rfl
 | e::fs,i,r,h=>by
  unfold zkv at h
  split at h
  ·rename_i b hb
   unfold Instr.findAsking
   rw [hb]
   split at h
   ·rename_i hc
    obtain rfl:=Option.some.inj h
    simp only [Sem.run_bind,(K.eqT kt ks hq).2 k b true hc w,Result.andThen_ok]
    rfl
   ·rename_i hc
    simp only [Sem.run_bind,(K.eqT kt ks hq).2 k b false hc w,Result.andThen_ok]
    exact zlo K hq k w fs (i+1) r h
   ·simp at h
  ·simp at h
theorem zrj {ρ:Ren} {ks:List CK} {k:List Value}:∀ (es fs:List MapEntry) (i:Nat) (r:Option (Nat×Value)),es.length=fs.length→(∀ (j:Nat) (e f:MapEntry),es[j]? = some e→fs[j]? = some f→e.key=f.key∧VRel ρ e.val f.val∧e.born=f.born)→zkv ks k es i=some r →
  ∃ r',zkv ks k fs i=some r'∧zsI ρ r r'
 | [],[],i,r,_,_,h=>by
  obtain rfl:=Option.some.inj h
  exact ⟨none,rfl,trivial⟩
 | [],_::_,i,r,hl,_,_=>by simp at hl
 | _::_,[],i,r,hl,_,_=>by simp at hl
 | e::es,f::fs,i,r,hl,hg,h=>by
  obtain ⟨h1,h2,_⟩:=hg 0 e f rfl rfl
  unfold zkv at h ⊢
  rw [← h1]
  split at h
  ·rename_i b hb
   split at h
   ·rename_i hc
    obtain rfl:=Option.some.inj h
    first
     | exact ⟨_,rfl,rfl,h2⟩
     | (simp only [hc]; exact ⟨_,rfl,rfl,h2⟩)
   ·rename_i hc
    try simp only [hc]
    exact zrj es fs (i+1) r (by simpa using hl) (fun j a b ha hb=>hg (j+1) a b (by simpa using ha) (by simpa using hb)) h
   ·simp at h
  ·simp at h
theorem ztb {ρ:Ren} {c:CK} {a b u:Value} {r:Bool} (h:zdZ c a b=some r) (k:VRel ρ a u):u=a:=by
 cases k<;>first
  | rfl
  | (cases c<;>simp [zdZ] at h; done)
theorem zlu {ρ:Ren}:∀ {ks:List CK} {a b us:List Value} {r:Bool},zcl ks a b=some r→LRel ρ a us→us=a
 | [],[],b,us,r,h,hu=>by
  have:=hu.len
  cases us with
  | nil=>rfl
  | cons=>simp at this
 | [],_::_,b,us,r,h,hu=>by cases b<;>simp [zcl] at h
 | _::_,[],b,us,r,h,hu=>by cases b<;>simp [zcl] at h
 | c::ks,x::a,b,us,r,h,hu=>by
  cases b with
  | nil=>simp [zcl] at h
  | cons y b=>
   cases us with
   | nil=>have:=hu.len; simp at this
   | cons u us=>
    unfold zcl at h
    split at h
    ·simp at h
    ·rename_i t1 h1
     split at h
     ·simp at h
     ·rename_i t2 h2
      rw [ztb h1 (hu.get 0 x u rfl rfl),zlu (us:=us) h2 ⟨by have:=hu.len; simpa using this,fun i v w hv hw=>hu.get (i+1) v w (by simpa using hv) (by simpa using hw)⟩]
theorem zlV (K:EnvOK E) {kt:TypeId} {k:Array Value} {es:List MapEntry} {r:Option (Nat×Value)} (h:zmY E kt k.toList es=some r) {ρ:Ren} {v:Value} (hv:VRel ρ (.agg k) v):v=.agg k:=by
 obtain ⟨c,rfl,hc⟩:=hv.agg_inv
 unfold zmY at h
 cases hk:E.keyT kt with
 | false=>rw [hk] at h; simp at h
 | true=>
  rw [hk,cond_true] at h
  split at h
  ·split at h
   ·rename_i b hb
    have:=zlu hb hc
    rw [Array.toList_inj.1 this]
   ·simp at h
  ·simp at h
theorem zod (K:EnvOK E) {kt:TypeId} {k:Array Value} {es fs:List MapEntry} {ρ:Ren} {r:Option (Nat×Value)} (hl:es.length=fs.length) (hg:∀ (j:Nat) (e f:MapEntry),es[j]? = some e→fs[j]? = some f→e.key=f.key∧VRel ρ e.val f.val∧e.born=f.born) (h:zmY E kt k.toList es=some r) (w:World) (empty:Bool) :
  (Instr.checkKey empty 10000 kt (.agg k)).run E.P w=.ok () w∧∃ r',(Instr.findKey kt (.agg k) fs).run E.P w=.ok r' w∧zsI ρ r r':=by
 unfold zmY at h
 cases hk:E.keyT kt with
 | false=>rw [hk] at h; simp at h
 | true=>
  rw [hk,cond_true] at h
  obtain ⟨⟨fd,hu⟩,hck⟩:=K.keyT kt hk
  split at h
  ·rename_i ks hq
   split at h
   ·rename_i b hb
    refine ⟨hck ks k b hq hb empty w,?_⟩
    obtain ⟨r',h1,h2⟩:=zrj es fs 0 r hl hg h
    refine ⟨r',?_,h2⟩
    unfold Instr.findKey
    rw [Sem.run_bind,run_underlying hu]
    simp only [Result.andThen_ok]
    cases fs with
    | nil=>
     obtain rfl:=Option.some.inj h1
     rfl
    | cons f fs=>
     have e:Instr.findNow (.struct fd) (.agg k) (f::fs) 0=none:=by
      unfold Instr.findNow
      have:Instr.sameNow (.struct fd) (.agg k) f.key=none:=rfl
      rw [this]
     rw [e]
     exact zlo K hq k w _ 0 r' h1
   ·simp at h
  ·simp at h
theorem zpc (K:EnvOK E) (t:TypeId) (m k:Operand) (c:Bool):zdJ E (zgj t m k c) (.lookup t m k c):=by
 intro ev eval ρ h w o n h' ho hev hw hok
 unfold zgj zkE at hok
 split at hok
 ·rename_i kt et b1 b2 b3 r ks ht hm hk
  split at hok
  ·rename_i es cl eti hg het
   obtain ⟨s,κ,hb,hme⟩:=(hev m _ hm).map_inv
   obtain ⟨fs,hfs,hmr⟩:=zeG hw hg hb
   split at hok
   ·rename_i j v hf
    obtain ⟨rfl,rfl⟩:=zaq hok
    have hke:eval k=.agg ks:=zlV K hf (hev k _ hk)
    obtain ⟨h1,r',h2,h3⟩:=zod K hmr.list.1 hmr.list.2 hf w fs.isEmpty
    cases r' with
    | none=>exact h3.elim
    | some y=>
     obtain ⟨j',u⟩:=y
     obtain ⟨_,hvu⟩:=h3
     rw [zju ho,hme,hke]
     have:(Instr.lookup t (.map (some s)) (.agg ks) c).run E.P w=.ok (if c=true then .tuple #[u,.bool true] else u) w:=by
      unfold Instr.lookup
      simp only [Sem.run_bind,K.und ht w,Result.andThen_ok,zch E.P hfs,Sem.run_pure,h1,h2]
     rw [zaw _ _ _ _ _ this]
     cases c
     ·exact .val hvu
     ·exact .val (zfn hvu true)
   ·rename_i z hf hz
    obtain ⟨rfl,rfl⟩:=zaq hok
    have hke:eval k=.agg ks:=zlV K hf (hev k _ hk)
    obtain ⟨h1,r',h2,h3⟩:=zod K hmr.list.1 hmr.list.2 hf w fs.isEmpty
    cases r' with
    | some y=>exact h3.elim
    | none=>
     rw [zju ho,hme,hke]
     have:(Instr.lookup t (.map (some s)) (.agg ks) c).run E.P w=.ok (if c=true then .tuple #[z,.bool false] else z) w:=by
      unfold Instr.lookup
      simp only [Sem.run_bind,K.und ht w,Result.andThen_ok,zch E.P hfs,Sem.run_pure,h1,h2,K.zero het hz w]
     rw [zaw _ _ _ _ _ this]
     have hzr:=(K.zeroRel het hz ρ).1
     cases c
     ·exact .val hzr
     ·exact .val (zfn hzr false)
   ·simp at hok
  ·simp at hok
 ·rename_i kt et b1 b2 b3 r kk i ht hm hk
  split at hok
  ·rename_i es cl kti eti hg hkt het
   cases hd:zeU kti.desc with
   | false=>rw [hd] at hok; simp at hok
   | true=>
    rw [hd] at hok
    simp only [Bool.not_true,cond_false] at hok
    obtain ⟨s,κ,hb,hme⟩:=(hev m _ hm).map_inv
    have hke:=(hev k _ hk).int_inv
    obtain ⟨fs,hfs,hmr⟩:=zeG hw hg hb
    have hrel:=zjJ (ρ:=ρ) kti.desc (.int kk i) es.toList fs.toList 0 hmr.list.1 hmr.list.2
    rw [zju ho,hme,hke]
    split at hok
    ·rename_i j v hf
     rw [hf] at hrel
     cases hf2:Instr.findNow kti.desc (.int kk i) fs.toList 0 with
     | none=>rw [hf2] at hrel; exact hrel.elim
     | some x=>cases x with
      | none=>rw [hf2] at hrel; exact hrel.elim
      | some y=>
       obtain ⟨j',u⟩:=y
       rw [hf2] at hrel
       obtain ⟨_,hvu⟩:=hrel
       obtain ⟨rfl,rfl⟩:=zaq hok
       have:(Instr.lookup t (.map (some s)) (.int kk i) c).run E.P w=.ok (if c=true then .tuple #[u,.bool true] else u) w:=by
        unfold Instr.lookup
        simp only [Sem.run_bind,K.und ht w,Result.andThen_ok,zch E.P hfs,Sem.run_pure,zeo K hkt hd,zgk K hkt _ _ hf2]
       rw [zaw _ _ _ _ _ this]
       cases c
       ·exact .val hvu
       ·exact .val (zfn hvu true)
    ·rename_i z hf hz
     rw [hf] at hrel
     cases hf2:Instr.findNow kti.desc (.int kk i) fs.toList 0 with
     | none=>rw [hf2] at hrel; exact hrel.elim
     | some x=>cases x with
      | some y=>rw [hf2] at hrel; exact hrel.elim
      | none=>
       obtain ⟨rfl,rfl⟩:=zaq hok
       have:(Instr.lookup t (.map (some s)) (.int kk i) c).run E.P w=.ok (if c=true then .tuple #[z,.bool false] else z) w:=by
        unfold Instr.lookup
        simp only [Sem.run_bind,K.und ht w,Result.andThen_ok,zch E.P hfs,Sem.run_pure,zeo K hkt hd,zgk K hkt _ _ hf2,K.zero het hz w]
       rw [zaw _ _ _ _ _ this]
       have hzr:=(K.zeroRel het hz ρ).1
       cases c
       ·exact .val hzr
       ·exact .val (zfn hzr false)
    ·simp at hok
  ·simp at hok
 ·rename_i kt et b1 b2 b3 kk i ht hm hk
  split at hok
  ·rename_i kti eti hkt het
   cases hd:zeU kti.desc with
   | false=>rw [hd] at hok; simp at hok
   | true=>
    rw [hd] at hok
    simp only [Bool.not_true,cond_false] at hok
    have hme:=(hev m _ hm).mapNil_inv
    have hke:=(hev k _ hk).int_inv
    rw [zju ho,hme,hke]
    split at hok
    ·rename_i z hz
     obtain ⟨rfl,rfl⟩:=zaq hok
     have:(Instr.lookup t (.map none) (.int kk i) c).run E.P w=.ok (if c=true then .tuple #[z,.bool false] else z) w:=by
      unfold Instr.lookup
      simp only [Sem.run_bind,K.und ht w,Result.andThen_ok,Sem.run_pure,zeo K hkt hd,zgk K hkt (.int kk i) [] (r:=none) rfl,K.zero het hz w]
     rw [zaw _ _ _ _ _ this]
     have hzr:=(K.zeroRel het hz ρ).1
     cases c
     ·exact .val hzr
     ·exact .val (zfn hzr false)
    ·simp at hok
  ·simp at hok
 ·simp at hok
theorem zuW {d:TypeDesc} (hd:zeU d=true) {kk:IntKind} {i:Int} {v:Value} (h:Instr.sameNow d (.int kk i) v=some true):v=.int kk i:=by
 obtain ⟨dk,rfl⟩:=znG hd
 cases v with
 | int k n=>
  simp only [Instr.sameNow] at h
  split at h
  ·rename_i e
   simp only [Option.some.injEq,beq_iff_eq] at h
   rw [e,h]
  ·simp at h
 | _=>simp [Instr.sameNow] at h
theorem znF {d:TypeDesc} {kk:IntKind} {i:Int} (hd:zeU d=true):∀ (es:List MapEntry) (a j:Nat) (v:Value),Instr.findNow d (.int kk i) es a=some (some (j,v))→a≤j∧∃ e,es[j-a]? = some e∧e.key=.int kk i
 | [],a,j,v,h=>by simp [Instr.findNow] at h
 | e::es,a,j,v,h=>by
  unfold Instr.findNow at h
  split at h
  ·rename_i hs
   simp only [Option.some.injEq,Prod.mk.injEq] at h
   obtain ⟨rfl,rfl⟩:=h
   exact ⟨Nat.le_refl _,e,by simp,zuW hd hs⟩
  ·obtain ⟨h1,e',h2,h3⟩:=znF hd es (a+1) j v h
   refine ⟨by omega,e',?_,h3⟩
   rw [show j-a=(j-(a+1))+1 by omega]
   simpa using h2
  ·simp at h
theorem zCB {P:Program} {kk:IntKind} {i:Int} {w:World}:(Instr.keyThatStays (.int kk i) (.int kk i)).run P w=.ok (.int kk i) w:=by
 unfold Instr.keyThatStays
 rw [if_pos (by simp [Instr.sameBits])]
 rfl
theorem zkf (K:EnvOK E) (t:TypeId) (m k x:Operand) {ev:Ev} {eval:Operand→Value} {ρ:Ren} {h:SHeap} {w:World} {o:Oper} {n:SNext} {h':SHeap}
  (hex:execOp eval o=(do Instr.mapUpdate t (eval m) (eval k) (eval x); pure .skip)) (hev:zcE ρ ev eval) (hw:WRel E ρ h w) (hok:zeB t m k x E ev o h=.ok (n,h')):zeE E ρ h w n h' ((execOp eval o).run E.P w):=by
 unfold zeB znt at hok
 split at hok
 ·rename_i kt et b1 b2 b3 r ks v ht hm hk hx
  split at hok
  ·rename_i es cl hg
   split at hok
   ·rename_i hf
    cases hpl:(zcR ks.toList&&zaP 3 (.agg ks)) with
    | false=>rw [hpl] at hok; simp at hok
    | true=>
     rw [hpl,cond_true] at hok
     obtain ⟨rfl,rfl⟩:=zaq hok
     obtain ⟨s,κ,hb,hme⟩:=(hev m _ hm).map_inv
     have hxr:=hev x _ hx
     obtain ⟨fs,hfs,hmr⟩:=zeG hw hg hb
     have hke:eval k=.agg ks:=zlV K hf (hev k _ hk)
     obtain ⟨q1,r',q2,q3⟩:=zod K hmr.list.1 hmr.list.2 hf w false
     cases r' with
     | some y=>exact q3.elim
     | none=>
      rw [hex,hme,hke]
      have hrun:(Instr.mapUpdate t (.map (some s)) (.agg ks) (eval x)).run E.P w=.ok () { w with heap:=w.heap.setIfInBounds s (.map (fs.push { key:=.agg ks,val:=eval x,born:=cl }) (cl+1)) }:=by
       unfold Instr.mapUpdate
       simp only [Sem.run_bind,K.und ht w,Result.andThen_ok,zch E.P hfs,q1,q2]
       exact zgc E.P hfs _
      have hlt:s<w.heap.size:=by
       rcases Nat.lt_or_ge s w.heap.size with h | h
       ·exact h
       ·rw [Array.getElem?_eq_none h] at hfs; simp at hfs
      obtain ⟨h1,h2⟩:=hw.set (w':={ w with heap:=w.heap.setIfInBounds s (.map (fs.push { key:=.agg ks,val:=eval x,born:=cl }) (cl+1)) })
       (o':=.map (es.push { key:=.agg ks,val:=v,born:=cl }) (cl+1)) hg hb trivial (by simp) (fun q hq=>by simp [Array.getElem?_setIfInBounds,Ne.symm hq]) ⟨fs.push { key:=.agg ks,val:=eval x,born:=cl },by simp [hlt],by
        refine ⟨by simp [hmr.size],fun j e f he hf => ?_⟩
        rw [Array.getElem?_push] at he hf
        rw [← hmr.size] at hf
        split at he
        ·rename_i hj
         rw [if_pos hj] at hf
         obtain rfl:=Option.some.inj he
         obtain rfl:=Option.some.inj hf
         exact ⟨rfl,hxr,rfl⟩
        ·rename_i hj
         rw [if_neg hj] at hf
         exact hmr.get j e f he hf⟩ rfl rfl rfl
      refine ⟨ρ,_,_,.skip,h1,h2,?_⟩
      simp only [Sem.run_bind,hrun,Result.andThen_ok,Sem.run_pure]
   ·simp at hok
  ·simp at hok
 ·rename_i kt et b1 b2 b3 r kk i v ht hm hk hx
  split at hok
  ·rename_i es cl kti hg hkt
   cases hd:zeU kti.desc with
   | false=>rw [hd] at hok; simp at hok
   | true=>
    rw [hd] at hok
    simp only [Bool.not_true,cond_false] at hok
    obtain ⟨s,κ,hb,hme⟩:=(hev m _ hm).map_inv
    have hke:=(hev k _ hk).int_inv
    have hxr:=hev x _ hx
    obtain ⟨fs,hfs,hmr⟩:=zeG hw hg hb
    have hrel:=zjJ (ρ:=ρ) kti.desc (.int kk i) es.toList fs.toList 0 hmr.list.1 hmr.list.2
    rw [hex,hme,hke]
    split at hok
    ·rename_i hf
     rw [hf] at hrel
     cases hf2:Instr.findNow kti.desc (.int kk i) fs.toList 0 with
     | none=>rw [hf2] at hrel; exact hrel.elim
     | some y=>cases y with
      | some y=>rw [hf2] at hrel; exact hrel.elim
      | none=>
       obtain ⟨rfl,rfl⟩:=zaq hok
       have hrun:(Instr.mapUpdate t (.map (some s)) (.int kk i) (eval x)).run E.P w=.ok () { w with heap:=w.heap.setIfInBounds s (.map (fs.push { key:=.int kk i,val:=eval x,born:=cl }) (cl+1)) }:=by
        unfold Instr.mapUpdate
        simp only [Sem.run_bind,K.und ht w,Result.andThen_ok,zch E.P hfs,zeo K hkt hd,zgk K hkt _ _ hf2]
        exact zgc E.P hfs _
       have hlt:s<w.heap.size:=by
        rcases Nat.lt_or_ge s w.heap.size with h | h
        ·exact h
        ·rw [Array.getElem?_eq_none h] at hfs; simp at hfs
       obtain ⟨h1,h2⟩:=hw.set (w':={ w with heap:=w.heap.setIfInBounds s (.map (fs.push { key:=.int kk i,val:=eval x,born:=cl }) (cl+1)) })
        (o':=.map (es.push { key:=.int kk i,val:=v,born:=cl }) (cl+1)) hg hb trivial (by simp) (fun q hq=>by simp [Array.getElem?_setIfInBounds,Ne.symm hq]) ⟨fs.push { key:=.int kk i,val:=eval x,born:=cl },by simp [hlt],by
         refine ⟨by simp [hmr.size],fun j e f he hf => ?_⟩
         rw [Array.getElem?_push] at he hf
         rw [← hmr.size] at hf
         split at he
         ·rename_i hj
          rw [if_pos hj] at hf
          obtain rfl:=Option.some.inj he
          obtain rfl:=Option.some.inj hf
          exact ⟨rfl,hxr,rfl⟩
         ·rename_i hj
          rw [if_neg hj] at hf
          exact hmr.get j e f he hf⟩ rfl rfl rfl
       refine ⟨ρ,_,_,.skip,h1,h2,?_⟩
       simp only [Sem.run_bind,hrun,Result.andThen_ok,Sem.run_pure]
    ·rename_i j v0 hf
     rw [hf] at hrel
     cases hf2:Instr.findNow kti.desc (.int kk i) fs.toList 0 with
     | none=>rw [hf2] at hrel; exact hrel.elim
     | some y=>cases y with
      | none=>rw [hf2] at hrel; exact hrel.elim
      | some y=>
       obtain ⟨j',u0⟩:=y
       rw [hf2] at hrel
       obtain ⟨rfl,_⟩:=hrel
       obtain ⟨rfl,rfl⟩:=zaq hok
       obtain ⟨_,fe,hfe,hkey⟩:=znF hd _ _ _ _ hf2
       rw [Nat.sub_zero,Array.getElem?_toList] at hfe
       have hrun:(Instr.mapUpdate t (.map (some s)) (.int kk i) (eval x)).run E.P w=.ok () { w with heap:=w.heap.setIfInBounds s (.map (fs.modify j fun e=>{ e with key:=.int kk i,val:=eval x }) cl) }:=by
        unfold Instr.mapUpdate
        simp only [Sem.run_bind,K.und ht w,Result.andThen_ok,zch E.P hfs,zeo K hkt hd,zgk K hkt _ _ hf2,hfe,Option.map_some,Option.getD_some,hkey,zCB]
        exact zgc E.P hfs _
       have hlt:s<w.heap.size:=by
        rcases Nat.lt_or_ge s w.heap.size with h | h
        ·exact h
        ·rw [Array.getElem?_eq_none h] at hfs; simp at hfs
       obtain ⟨h1,h2⟩:=hw.set (w':={ w with heap:=w.heap.setIfInBounds s (.map (fs.modify j fun e=>{ e with key:=.int kk i,val:=eval x }) cl) })
        (o':=.map (es.modify j fun e=>{ e with key:=.int kk i,val:=v }) cl) hg hb trivial (by simp) (fun q hq=>by simp [Array.getElem?_setIfInBounds,Ne.symm hq]) ⟨fs.modify j fun e=>{ e with key:=.int kk i,val:=eval x },by simp [hlt],by
         refine ⟨by simp [hmr.size],fun q e f he hf => ?_⟩
         rw [Array.getElem?_modify] at he hf
         split at he
         ·rename_i hj
          rw [if_pos hj] at hf
          obtain ⟨e0,g1,rfl⟩:=Option.map_eq_some_iff.1 he
          obtain ⟨f0,g2,rfl⟩:=Option.map_eq_some_iff.1 hf
          exact ⟨rfl,hxr,(hmr.get q e0 f0 g1 g2).2.2⟩
         ·rename_i hj
          rw [if_neg hj] at hf
          exact hmr.get q e f he hf⟩ rfl rfl rfl
       refine ⟨ρ,_,_,.skip,h1,h2,?_⟩
       simp only [Sem.run_bind,hrun,Result.andThen_ok,Sem.run_pure]
    ·simp at hok
  ·simp at hok
 ·simp at hok
theorem zrQ (K:EnvOK E) (t:TypeId) (m k x:Operand):zdN E (zeB t m k x) (.mapUpdate t m k x):=by
 intro ev eval ρ h w o n h' ho hev hw hok
 exact zkf K t m k x (ztk ho) hev hw hok
theorem zyC {ρ:Operand→Value} {o:Oper} {t:TypeId} {m k x:Operand} (ho:o.op=.insert t m k x):execOp ρ o=(do Instr.mapUpdate t (ρ m) (ρ k) (ρ x); pure .skip):=by unfold execOp; rw [ho]
theorem zxE (K:EnvOK E) (t:TypeId) (m k x:Operand):zdN E (zeB t m k x) (.insert t m k x):=by
 intro ev eval ρ h w o n h' ho hev hw hok
 exact zkf K t m k x (zyC ho) hev hw hok
end Go.Sim

/- The tables of the simulator and the program. The simulator's tables over this program. -/
import Derived.Test.YtghhpeemloeljaaGreatTab
import Derived.Test.YtghhpeemloeljaaGreatOpsA
import Derived.Test.YtghhpeemloeljaaGreatMemA
set_option linter.unusedVariables false
set_option linter.unusedSimpArgs false
namespace Go.Proofs.YtghhpeemloeljaaGreat
open Go Go.Sim
set_option maxRecDepth 100000
def zyP (t:Nat) (ti:TI):Prop:=(∃ i,Tryz.prog.info? t=some i∧i.size=ti.size∧i.bytes=ti.bytes∧∀ z,ti.zero=some z→i.zero=some z)∧Tryz.prog.underlying t=some ti.desc∧zpg ti=true
def ztc (f:Nat) (fn:Func):Prop:=Tryz.prog.funcs[f]? = some fn∧(fn.body.isSome=true→∀ args w,(callFunc f args).run Tryz.prog w=.ok (.enter f args) w)
inductive AllFrom {α:Type} (Q:Nat→α→Prop):Nat→List α→Prop
 | nil (i:Nat):AllFrom Q i []
 | cons {i:Nat} {x:α} {l:List α}:Q i x→AllFrom Q (i+1) l→AllFrom Q i (x::l)
theorem AllFrom.get {α:Type} {Q:Nat→α→Prop}:∀ {i:Nat} {l:List α},AllFrom Q i l→∀ j x,l[j]? = some x→Q (i+j) x
 | _,_,.nil _,j,x,h=>by simp at h
 | i,_,.cons hq hr,0,x,h=>by simp only [List.getElem?_cons_zero,Option.some.injEq] at h; subst h; exact hq
 | i,_,.cons hq hr,j+1,x,h=>by
  have:=hr.get j x (by simpa using h)
  rw [show i+(j+1)=i+1+j by omega]
  exact this
theorem AllFrom.append {α:Type} {Q:Nat→α→Prop}:∀ {i:Nat} {l m:List α},AllFrom Q i l→AllFrom Q (i+l.length) m→AllFrom Q i (l++m)
 | i,_,_,.nil _,h=>by simpa using h
 | i,_,_,.cons (l:=l) hq hr,h=>.cons hq (hr.append (by
  rw [List.length_cons] at h
  have e:i+1+l.length=i+(l.length+1):=by omega
  rw [e]
  exact h))
noncomputable def tyL:Nat→List TI→List (Option (Nat×Nat×Option Value)×Option TypeDesc×Bool)
 | _,[]=>[]
 | t,ti::r=>((Tryz.prog.info? t).map fun i=>(i.size,i.bytes,bif ti.zero.isSome then i.zero else none),Tryz.prog.underlying t,zpg ti)::tyL (t+1) r
def tyR:List TI→List (Option (Nat×Nat×Option Value)×Option TypeDesc×Bool)
 | []=>[]
 | ti::r=>(some (ti.size,ti.bytes,ti.zero),some ti.desc,true)::tyR r
theorem zgZ:∀ {l:List TI} {t:Nat},tyL t l=tyR l→AllFrom zyP t l
 | [],t,_=>.nil t
 | ti::r,t,h=>by
  simp only [tyL,tyR,List.cons.injEq,Prod.mk.injEq] at h
  obtain ⟨⟨h1,h2,h3⟩,h4⟩:=h
  refine .cons ⟨?_,h2,h3⟩ (zgZ h4)
  cases e:Tryz.prog.info? t with
  | none=>rw [e] at h1; cases h1
  | some i=>
   rw [e] at h1
   simp only [Option.map_some,Option.some.injEq,Prod.mk.injEq] at h1
   refine ⟨i,rfl,h1.1,h1.2.1,fun z hz => ?_⟩
   have:=h1.2.2
   rw [hz] at this
   exact this
theorem zyY:∀ {l:List Func} {t:Nat},(∀ j x,l[j]? = some x→ztc (t+j) x)→AllFrom ztc t l
 | [],t,_=>.nil t
 | x::r,t,h=>.cons (h 0 x rfl) (zyY fun j y hy=>by
  have:=h (j+1) y (by simpa using hy)
  rw [show t+1+j=t+(j+1) by omega]
  exact this)
theorem zIb {f:Nat} {fn:Func} (h:Tryz.prog.funcs[f]? = some fn) (hn:(fn.name == "runtime.NumGoroutine")=false) (hb:fn.body.isSome=true) (args:Array Value) (w:World):(callFunc f args).run Tryz.prog w=.ok (.enter f args) w:=by
 have hn':¬ fn.name = "runtime.NumGoroutine" := by simpa using hn
 have hb':¬ fn.body=none:=fun e=>by rw [e] at hb; cases hb
 simp [callFunc,program,bind,pure,Sem.bind,Sem.run,h,hn',hb']
theorem zEC:Tryz.prog.funcs.toList=Tab.funcList:=by kernel_rfl
theorem zzM:(Tab.funcList.all fun fn => !(fn.name == "runtime.NumGoroutine"))=true:=by kernel_rfl
theorem zDl:AllFrom ztc 0 Tab.funcList:=zyY fun j x hx=>by
 have hm:=List.mem_of_getElem? hx
 have hn:=List.all_eq_true.1 zzM x hm
 rw [Nat.zero_add]
 have h:Tryz.prog.funcs[j]? = some x:=by rw [← Array.getElem?_toList,zEC]; exact hx
 exact ⟨h,fun hb args w=>zIb h (by simpa using hn) hb args w⟩
theorem zVg:tyL 0 Tab.ta0=tyR Tab.ta0:=by kernel_rfl
theorem zUR:tyL 64 Tab.ta1=tyR Tab.ta1:=by kernel_rfl
theorem zWP:tyL 128 Tab.ta2=tyR Tab.ta2:=by kernel_rfl
theorem zPd:tyL 192 Tab.ta3=tyR Tab.ta3:=by kernel_rfl
theorem zRj:tyL 256 Tab.ta4=tyR Tab.ta4:=by kernel_rfl
theorem zRD:tyL 320 Tab.ta5=tyR Tab.ta5:=by kernel_rfl
theorem zSz:tyL 384 Tab.ta6=tyR Tab.ta6:=by kernel_rfl
theorem zPt:tyL 448 Tab.ta7=tyR Tab.ta7:=by kernel_rfl
theorem zMy:AllFrom zyP 0 Tab.typeList:=((zgZ zVg).append ((zgZ zUR).append ((zgZ zWP).append ((zgZ zPd).append ((zgZ zRj).append ((zgZ zRD).append ((zgZ zSz).append (zgZ zPt))))))))
theorem zAr:Tab.types=Tr.ofL 33 Tab.typeList:=rfl
theorem ztf:Tab.funcs=Tr.ofL 33 Tab.funcList:=rfl
end Go.Proofs.YtghhpeemloeljaaGreat
namespace Go.Proofs.YtghhpeemloeljaaGreat
open Go Go.Sim
set_option maxRecDepth 100000
theorem zxP (n:Nat) (a c:Int) (w:World):(Op.equalIn (n+1) 3 (.int .i64 a) (.int .i64 c)).run Tryz.prog w=.ok (a==c) w:=by
 unfold Op.equalIn
 rw [Sem.run_bind,run_underlying Tryz.underlying3]
 simp
theorem zEA (a b c d:Int) (w:World):(Op.equal 133 (.agg #[.int .i64 a,.int .i64 b]) (.agg #[.int .i64 c,.int .i64 d])).run Tryz.prog w=.ok ((a==c)&&(b==d)) w:=by
 unfold Op.equal Op.maxDepth Op.equalIn
 rw [Sem.run_bind,run_underlying Tryz.underlying133]
 simp only [Result.andThen_ok]
 simp [part,run_underlying Tryz.underlying3,zxP,Go.isAgg,Go.sizeOf]
 by_cases h1:a=c<;>by_cases h2:b=d<;>simp [h1,h2]
theorem zzt (a b e c d f:Int) (w:World):(Op.equal 148 (.agg #[.int .i64 a,.int .i64 b,.int .i64 e]) (.agg #[.int .i64 c,.int .i64 d,.int .i64 f])).run Tryz.prog w=.ok ((a==c)&&((b==d)&&(e==f))) w:=by
 unfold Op.equal Op.maxDepth Op.equalIn
 rw [Sem.run_bind,run_underlying Tryz.underlying148]
 simp only [Result.andThen_ok]
 simp [part,run_underlying Tryz.underlying3,zxP,Go.isAgg,Go.sizeOf]
 by_cases h1:a=c<;>by_cases h2:b=d<;>by_cases h3:e=f<;>simp [h1,h2,h3]
theorem zBn (a b:Int) (empty:Bool) (w:World):(Instr.checkKey empty 10000 133 (.agg #[.int .i64 a,.int .i64 b])).run Tryz.prog w=.ok () w:=by
 unfold Instr.checkKey
 rw [Sem.run_bind,run_underlying Tryz.underlying133]
 simp only [Result.andThen_ok]
 have h3:∀ n (x:Int),(Instr.checkKey empty (n+1) 3 (.int .i64 x)).run Tryz.prog w=.ok () w:=fun n x=>by
  unfold Instr.checkKey
  rw [Sem.run_bind,run_underlying Tryz.underlying3]
  simp
 simp [part,run_underlying Tryz.underlying3,h3,Go.isAgg,Go.sizeOf]
theorem zjl (x y:Int):zdZ.intEq x y=(x==y):=by
 cases x with
 | ofNat a=>cases y with
  | ofNat b=>
   simp only [zdZ.intEq]
   rw [Bool.eq_iff_iff]
   simp only [zaF,decide_eq_true_eq,beq_iff_eq]
   exact ⟨fun e=>by rw [e],fun e=>Int.ofNat.inj e⟩
  | negSucc b=>simp [zdZ.intEq]
 | negSucc a=>cases y with
  | ofNat b=>simp [zdZ.intEq]
  | negSucc b=>
   simp only [zdZ.intEq]
   rw [Bool.eq_iff_iff]
   simp [zaF]
theorem zoa {a b:Value} {r:Bool} (h:zdZ (.int .i64) a b=some r):∃ x y,a=.int .i64 x∧b=.int .i64 y∧r=(x==y):=by
 unfold zdZ at h
 split at h
 ·rename_i k k1 x k2 y e
  cases e
  split at h
  ·rename_i e1
   split at h
   ·rename_i e2
    have e1:k1=.i64:=by have:=eq_of_beq e1; exact this.symm
    have e2:k2=.i64:=by have:=eq_of_beq e2; exact this.symm
    subst e1 e2
    exact ⟨x,y,rfl,rfl,by rw [← zjl]; exact (Option.some.inj h).symm⟩
   ·simp at h
  ·simp at h
 ·rename_i e; cases e
 ·rename_i e; cases e
 ·simp at h
theorem zla {c:CK} {ks:List CK} {xs ys:List Value} {r:Bool} (h:zcl (c::ks) xs ys=some r):∃ x xs' y ys' t u,xs=x::xs'∧ys=y::ys'∧zdZ c x y=some t∧zcl ks xs' ys'=some u∧r=(t&&u):=by
 cases xs with
 | nil=>cases ys<;>simp [zcl] at h
 | cons x xs=>
  cases ys with
  | nil=>simp [zcl] at h
  | cons y ys=>
   unfold zcl at h
   split at h
   ·simp at h
   ·rename_i t h1
    split at h
    ·simp at h
    ·rename_i u h2
     exact ⟨x,xs,y,ys,t,u,rfl,rfl,h1,h2,(Option.some.inj h).symm⟩
theorem zxX {xs ys:List Value} {r:Bool} (h:zcl [] xs ys=some r):xs=[]∧ys=[]∧r=true:=by
 cases xs<;>cases ys<;>simp [zcl] at h ⊢
 exact h
theorem zkK {xs ys:List Value} {r:Bool} (h:zcl [.int .i64,.int .i64] xs ys=some r):∃ a b c d,xs=[.int .i64 a,.int .i64 b]∧ys=[.int .i64 c,.int .i64 d]∧r=((a==c)&&(b==d)):=by
 obtain ⟨x1,xs1,y1,ys1,t1,u1,rfl,rfl,h1,h2,rfl⟩:=zla h
 obtain ⟨x2,xs2,y2,ys2,t2,u2,rfl,rfl,h3,h4,rfl⟩:=zla h2
 obtain ⟨rfl,rfl,rfl⟩:=zxX h4
 obtain ⟨a,c,rfl,rfl,rfl⟩:=zoa h1
 obtain ⟨b,d,rfl,rfl,rfl⟩:=zoa h3
 exact ⟨a,b,c,d,rfl,rfl,by rw [Bool.and_true]⟩
theorem zuu {xs ys:List Value} {r:Bool} (h:zcl [.int .i64,.int .i64,.int .i64] xs ys=some r):∃ a b e c d f,xs=[.int .i64 a,.int .i64 b,.int .i64 e]∧ys=[.int .i64 c,.int .i64 d,.int .i64 f]∧r=((a==c)&&((b==d)&&(e==f))):=by
 obtain ⟨x1,xs1,y1,ys1,t1,u1,rfl,rfl,h1,h2,rfl⟩:=zla h
 obtain ⟨b,e,d,f,rfl,rfl,rfl⟩:=zkK h2
 obtain ⟨a,c,rfl,rfl,rfl⟩:=zoa h1
 exact ⟨a,b,e,c,d,f,rfl,rfl,rfl⟩
noncomputable def Eo (O:OT):Env:=
 { P:=Tryz.prog,T:=Tab.types.get,F:=Tab.funcs.get,X:=fun _=>none,O,lies:=fun _ _ _ _=>false,eqT:=fun t=>bif Nat.beq t 133 then some [.int .i64,.int .i64] else bif Nat.beq t 148 then some [.int .i64,.int .i64,.int .i64] else none,keyT:=fun t=>Nat.beq t 133,bytesLie:=fun _ _=>false,M:=fun _ _=>none,A:=fun _ _=>none,Q:=fun _=>none,G:=1 }
theorem zcz (O:OT):EnvOK (Eo O) where
 type:=fun t ti h=>by
  have h:(Tr.ofL 33 Tab.typeList).get t=some ti:=by rw [← zAr]; exact h
  have:=zMy.get t ti (zcX h)
  rw [Nat.zero_add] at this
  exact this
 func:=fun f fn h=>by
  have h:(Tr.ofL 33 Tab.funcList).get f=some fn:=by rw [← ztf]; exact h
  have:=zDl.get f fn (zcX h)
  rw [Nat.zero_add] at this
  exact this.1
 call:=fun f fn h=>by
  have h:(Tr.ofL 33 Tab.funcList).get f=some fn:=by rw [← ztf]; exact h
  have:=zDl.get f fn (zcX h)
  rw [Nat.zero_add] at this
  exact this.2
 same:=fun f h x w=>by cases h
 makeNoZero:=fun f e h=>by cases h
 lies:=fun e n o u h=>by cases h
 eqT:=fun t ks h=>by
  simp only [Eo] at h
  cases e:Nat.beq t 133 with
  | false=>
   rw [e,cond_false] at h
   cases e2:Nat.beq t 148 with
   | false=>rw [e2] at h; simp at h
   | true=>
    rw [e2,cond_true] at h
    obtain rfl:=Nat.eq_of_beq_eq_true e2
    obtain rfl:=Option.some.inj h
    refine ⟨by kernel_rfl,fun xs ys b hb w => ?_⟩
    obtain ⟨a1,a2,a3,a4,a5,a6,h1,h2,rfl⟩:=zuu hb
    obtain ⟨xs⟩:=xs
    obtain ⟨ys⟩:=ys
    simp only at h1 h2
    subst h1 h2
    exact zzt a1 a2 a3 a4 a5 a6 w
  | true=>
   rw [e,cond_true] at h
   obtain rfl:=Nat.eq_of_beq_eq_true e
   obtain rfl:=Option.some.inj h
   refine ⟨by kernel_rfl,fun xs ys b hb w => ?_⟩
   obtain ⟨a1,a2,a3,a4,h1,h2,rfl⟩:=zkK hb
   obtain ⟨xs⟩:=xs
   obtain ⟨ys⟩:=ys
   simp only at h1 h2
   subst h1 h2
   exact zEA a1 a2 a3 a4 w
 keyT:=fun t h=>by
  have h:Nat.beq t 133=true:=h
  obtain rfl:=Nat.eq_of_beq_eq_true h
  refine ⟨⟨_,Tryz.underlying133⟩,fun ks xs b hq hb empty w => ?_⟩
  have hq:some [CK.int .i64,CK.int .i64]=some ks:=hq
  obtain rfl:=Option.some.inj hq
  obtain ⟨a1,a2,a3,a4,h1,_,_⟩:=zkK hb
  obtain ⟨xs⟩:=xs
  simp only at h1
  subst h1
  exact zBn a1 a2 empty w
 bytesLie:=fun e u h=>by cases h
 outer:=fun f g h=>by cases h
 meth:=fun t name f b h=>by cases h
 asks:=fun t a b h=>by cases h
 held:=fun t e h=>by cases h
theorem zNB:Tryz.prog.follows .mixedOrders=true:=by kernel_rfl
end Go.Proofs.YtghhpeemloeljaaGreat

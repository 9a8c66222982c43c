/- Regions that draw their order: an operation looks at its operands alone. Regions that draw their order: what the plan's check says. Regions that draw their order: new variables and rows, wherever they are made. Regions that draw their order: the canonical run, step by step. Regions that draw their order: one operation, whenever it may be done. -/
import Derived.Test.YtghhpeemloeljaaGreatCtlA
import Derived.Orders
set_option linter.unusedVariables false
set_option linter.unusedSimpArgs false
namespace Go.Sim
variable {E:Env}
theorem zfH {e1 e2:Ev}:∀ (l:List Operand),(∀ x∈l,e1 x=e2 x)→zaj e1 l=zaj e2 l
 | [],_=>rfl
 | x::r,h=>by simp only [zaj,h x (by simp),zfH r fun y hy=>h y (by simp [hy])]
theorem zgu {e1 e2:Ev}:∀ (l:List (Nat×Operand)),(∀ p∈l,e1 p.2=e2 p.2)→zaN e1 l=zaN e2 l
 | [],_=>rfl
 | (i,x)::r,h=>by simp only [zaN,h (i,x) (by simp),zgu r fun y hy=>h y (by simp [hy])]
theorem zsm {P:Program} {e1 e2:Ev} {o:Oper} {h:SHeap} (hs:∀ cs b,o.op ≠ .select cs b) (he:∀ x∈o.op.operands.toList,e1 x=e2 x):zbZ P e1 o h=zbZ P e2 o h:=by
 unfold zbZ
 have h2:execOp (fun x=>(e1 x).getD (.tuple #[])) o=execOp (fun x=>(e2 x).getD (.tuple #[])) o:=execOp_congr o hs fun x hx=>by
  simp only [he x (by simpa using hx)]
 rw [h2]
 split
 ·rename_i ha
  rw [if_pos]
  rw [List.all_eq_true] at ha ⊢
  intro x hx
  rw [← he x hx]
  exact ha x hx
 ·rename_i ha
  rw [if_neg]
  intro hb
  refine ha ?_
  rw [List.all_eq_true] at hb ⊢
  intro x hx
  rw [he x hx]
  exact hb x hx
theorem zkD {e1 e2:Ev} (l:Option Operand) (h:∀ x∈l.toList,e1 x=e2 x):l.map e1=l.map e2:=by
 cases l with
 | none=>rfl
 | some x=>simp [h x (by simp)]
theorem zpH {e1 e2:Ev} {o:Oper} {c:Call} {b:Builtin} {a:Option (List Value)} {h:SHeap} (hp:zbZ E.P e1 o h=zbZ E.P e2 o h):zcH E e1 o c b a h=zcH E e2 o c b a h:=by
 unfold zcH zks zhj
 simp only [hp]
theorem zqb (op:Op) {e1 e2:Ev} {o:Oper} {h:SHeap} (ho:o.op=op) (he:∀ x∈op.operands.toList,e1 x=e2 x):zac op E e1 o h=zac op E e2 o h:=by
 have hp:(∀ cs b,o.op ≠ .select cs b)→zbZ E.P e1 o h=zbZ E.P e2 o h:=fun hs=>zsm hs (by rw [ho]; exact he)
 cases op with
 | move x=>simp only [zac,zao,he x (by simp [Op.operands])]
 | assign x=>simp only [zac,zao,he x (by simp [Op.operands])]
 | pick c a b=>simp only [zac,zas,he c (by simp [Op.operands]),he a (by simp [Op.operands]),he b (by simp [Op.operands])]
 | alloc t=>rfl
 | box t x=>simp only [zac,zco,he x (by simp [Op.operands])]
 | build t ps=>simp only [zac,zbC,zgu ps.toList fun p hp=>he p.2 (by simp [Op.operands]; exact ⟨_,by simpa using hp⟩)]
 | buildSlice t n ps=>simp only [zac,zcG,zgu ps.toList fun p hp=>he p.2 (by simp [Op.operands]; exact ⟨_,by simpa using hp⟩)]
 | load t a=>simp only [zac,zar,he a (by simp [Op.operands])]
 | store t a x=>simp only [zac,zap,he a (by simp [Op.operands]),he x (by simp [Op.operands])]
 | nilCheck x=>simp only [zac,zaf,he x (by simp [Op.operands])]
 | binOp op t x y u=>
  have hp:=hp (by rw [ho]; simp)
  simp only [zac,zau,he x (by simp [Op.operands]),he y (by simp [Op.operands]),zcZ,zhH,zpv,zlW,zol,zlL,hp]
 | unOp op t x=>
  have hp:=hp (by rw [ho]; simp)
  simp only [zac,dUn,he x (by simp [Op.operands]),zpV,hp]
 | convert a b x=>
  have hp:=hp (by rw [ho]; simp)
  simp only [zac,zfl,he x (by simp [Op.operands]),zfK,hp]
 | makeInterface t x=>simp only [zac,ziA,he x (by simp [Op.operands])]
 | makeFunc fn a b=>simp only [zac,zeg,zfH a.toList fun x hx=>he x (by simp [Op.operands]; exact .inl (by simpa using hx)),zfH b.toList fun x hx=>he x (by simp [Op.operands]; exact .inr (by simpa using hx))]
 | makeMap t r=>cases r<;>rfl
 | makeSlice t l c=>simp only [zac,zhe,he l (by simp [Op.operands]),he c (by simp [Op.operands])]
 | slice t x l g m=>
  have hp:=hp (by rw [ho]; simp)
  simp only [zac,zfc,he x (by simp [Op.operands]),zkD l fun y hy=>he y (by simp [Op.operands]; right; left; simpa using hy),zkD g fun y hy=>he y (by simp [Op.operands]; right; right; left; simpa using hy),
   zkD m fun y hy=>he y (by simp [Op.operands]; right; right; right; simpa using hy),ziG,hp]
 | fieldAddr t x f=>simp only [zac,zae,he x (by simp [Op.operands])]
 | field t x f=>simp only [zac,zjP,he x (by simp [Op.operands])]
 | indexAddr t x i=>simp only [zac,zad,he x (by simp [Op.operands]),he i (by simp [Op.operands])]
 | index t x i=>
  have hp:=hp (by rw [ho]; simp)
  simp only [zac,zeP,he x (by simp [Op.operands]),he i (by simp [Op.operands]),zjN,hp]
 | lookup t m k ok=>simp only [zac,zgj,he m (by simp [Op.operands]),he k (by simp [Op.operands])]
 | mapUpdate t m k x=>simp only [zac,zeB,he m (by simp [Op.operands]),he k (by simp [Op.operands]),he x (by simp [Op.operands])]
 | insert t m k x=>simp only [zac,zeB,he m (by simp [Op.operands]),he k (by simp [Op.operands]),he x (by simp [Op.operands])]
 | range t x=>simp only [zac,zoU,he x (by simp [Op.operands])]
 | next x b=>cases b<;>simp only [zac,zpF,he x (by simp [Op.operands])]
 | entry x=>simp only [zac,zoI,he x (by simp [Op.operands])]
 | typeAssert x s t ok=>
  have hp:=hp (by rw [ho]; simp)
  simp only [zac,zhz,he x (by simp [Op.operands]),ziW,hp]
 | extract x i=>simp only [zac,zeJ,he x (by simp [Op.operands])]
 | call c=>
  have hp:=hp (by rw [ho]; simp)
  have ha:zaj e1 c.args.toList=zaj e2 c.args.toList:=zfH _ fun x hx=>he x (by simp [Op.operands,Call.operands]; right; simpa using hx)
  simp only [zac,zat,zbY]
  cases hc:c.callee with
  | builtin b=>simp only [ha]; exact zpH hp
  | value f=>
   have hf:e1 f=e2 f:=he f (by simp [Op.operands,Call.operands,hc])
   simp only [zen,ha,hc,hf]
  | invoke r n=>
   have hf:e1 r=e2 r:=he r (by simp [Op.operands,Call.operands,hc])
   simp only [ha,hf]
 | defer c=>
  have ha:zaj e1 c.args.toList=zaj e2 c.args.toList:=zfH _ fun x hx=>he x (by simp [Op.operands,Call.operands]; right; simpa using hx)
  simp only [zac,zov,zgd]
  cases hc:c.callee with
  | builtin b=>simp only [zen,ha,hc]
  | value f=>
   have hf:e1 f=e2 f:=he f (by simp [Op.operands,Call.operands,hc])
   simp only [zen,ha,hc,hf]
  | invoke r n=>simp only [zen,ha,hc]
 | _=>rfl
end Go.Sim
namespace Go.Sim
variable {E:Env}
def zjf (ops:Array Oper) (D:Nat→Prop):Prop:=∀ j o,D j→ops[j]? = some o→∀ e∈o.after,Region.binds .any e=true→D e.on
def Bef (ops:Array Oper) (i j:Nat):Prop:=∀ D,zjf ops D→D j→D i
theorem zuf (k:Nat):zeb [] k=0:=by cases k<;>rfl
theorem znA (k:Nat) (x:Nat):∀ (l:List Nat) (i:Nat),zeb (l++[x]) i=if i<l.length then zeb l i else if i=l.length then x else 0
 | [],i=>by cases i<;>simp [zeb,zuf]
 | y::l,0=>by simp [zeb]
 | y::l,i+1=>by simp only [List.cons_append,zeb,znA k x l i,List.length_cons,Nat.add_lt_add_iff_right,Nat.add_right_cancel_iff]
theorem ziS (ms:List Nat) (i:Nat):∀ (l:List Edge),(zgD ms l).testBit i=true→∃ e∈l,Region.binds .any e=true∧(e.on=i∨(zeb ms e.on).testBit i=true)
 | [],h=>by simp [zgD] at h
 | e::r,h=>by
  simp only [zgD] at h
  cases hb:Region.binds .any e with
  | false=>
   rw [hb,cond_false] at h
   obtain ⟨f,h1,h2⟩:=ziS ms i r h
   exact ⟨f,by simp [h1],h2⟩
  | true=>
   rw [hb,cond_true] at h
   have h:((2^e.on ||| zeb ms e.on) ||| zgD ms r).testBit i=true:=h
   rw [Nat.testBit_or,Nat.testBit_or,Nat.testBit_two_pow,Bool.or_eq_true,Bool.or_eq_true,decide_eq_true_eq] at h
   rcases h with (h | h) | h
   ·exact ⟨e,by simp,hb,.inl h⟩
   ·exact ⟨e,by simp,hb,.inr h⟩
   ·obtain ⟨f,h1,h2⟩:=ziS ms i r h
    exact ⟨f,by simp [h1],h2⟩
theorem ztz (ops:Array Oper):∀ (l:List Oper) (ms:List Nat),ops.toList.drop ms.length=l→(∀ j i,(zeb ms j).testBit i=true→Bef ops i j)→∀ j i,(zeb (zjp ms l) j).testBit i=true→Bef ops i j
 | [],ms,_,h=>h
 | o::r,ms,hl,h=>by
  simp only [zjp]
  have ho:ops[ms.length]? = some o:=by
   have:(ops.toList.drop ms.length)[0]? = some o:=by rw [hl]; rfl
   rw [List.getElem?_drop] at this
   simpa using this
  refine ztz ops r _ ?_ ?_
  ·have:ops.toList.drop (ms.length+1)=(ops.toList.drop ms.length).drop 1:=by rw [List.drop_drop]
   simp only [List.length_append,List.length_singleton]
   rw [this,hl]
   rfl
  ·intro j i hb
   rw [znA 0] at hb
   split at hb
   ·exact h j i hb
   ·split at hb
    ·rename_i hj
     subst hj
     obtain ⟨e,h1,h2,h3⟩:=ziS ms i _ hb
     intro D hD hd
     have he:D e.on:=hD _ o hd ho e (by simpa using h1) h2
     rcases h3 with rfl | h3
     ·exact he
     ·exact h _ _ h3 D hD he
    ·simp at hb
theorem zhp (ops:Array Oper) {i j:Nat} (h:(zeb (zkS ops.toList) j).testBit i=true):Bef ops i j:=
 ztz ops ops.toList [] (by simp) (fun j i h=>by rw [zuf] at h; simp at h) j i h
structure SF (ops:Array Oper) (m res:Nat) (done effs:List Nat) (s:PStep):Prop where
 lt:s.i<m
 there:∃ o,ops[s.i]? = some o
 new:s.i ∉ done
 use:∀ o,ops[s.i]? = some o→∀ t,Operand.tmp t∈o.op.operands.toList→∀ j oj,j<m→ops[j]? = some oj→oj.dst=some t→(j∈done∧Bef ops j s.i)∨(j ∉ done∧(j=s.i∨Bef ops s.i j))
 dst:∀ o d,ops[s.i]? = some o→o.dst=some d→∀ j oj,j<m→ops[j]? = some oj→oj.dst=some d→j=s.i
 guard:∀ o g b,ops[s.i]? = some o→o.guard=some (g,b)→g<m∧g∈done∧Bef ops g s.i
 eff:s.kind=.eff→∀ j∈done,Bef ops j s.i
 read:s.kind=.read→∀ l,s.lo=l+1→∃ e,effs[l]? = some e∧Bef ops e s.i∧e≠s.i
 touch:∀ j,s.kind=.touch j→Bef ops j s.i∧j≠s.i
 alloc:s.kind=.alloc→s.i<res
theorem zff (x:Nat):∀ l:List Nat,zgp x l=true↔x∈l
 | []=>by simp [zgp]
 | y::r=>by
  simp only [zgp,List.mem_cons]
  cases h:Nat.beq x y with
  | true=>rw [zaF,decide_eq_true_eq] at h; simp [h]
  | false=>rw [zaF,decide_eq_false_iff_not] at h; simp [h,zff x r]
theorem zrL (ops:Array Oper) (self:Nat) (done:List Nat) (ts:List Tmp):∀ (n i:Nat),zpm ops.toList (zkS ops.toList) self done ts i n=true→∀ j oj t,i≤j→j<i+n→ops[j]? = some oj→oj.dst=some t→t∈ts →
  (j∈done∧Bef ops j self)∨(j ∉ done∧(j=self∨Bef ops self j))
 | 0,i,_,j,oj,t,h1,h2,_,_,_=>by omega
 | n+1,i,h,j,oj,t,h1,h2,ho,hd,ht=>by
  simp only [zpm,Bool.and_eq_true] at h
  obtain ⟨h3,h4⟩:=h
  by_cases e:j=i
  ·subst e
   have:ops.toList[j]? = some oj:=by simpa using ho
   rw [this] at h3
   simp only [hd,(zff t ts).2 ht,cond_true] at h3
   cases hn:zgp j done with
   | true=>
    rw [hn,cond_true] at h3
    exact .inl ⟨(zff _ _).1 hn,zhp ops h3⟩
   | false=>
    rw [hn,cond_false,Bool.or_eq_true,zaF,decide_eq_true_eq] at h3
    refine .inr ⟨fun hm=>by rw [(zff _ _).2 hm] at hn; simp at hn,?_⟩
    exact h3.imp id (zhp ops)
  ·exact zrL ops self done ts n (i+1) h4 j oj t (by omega) (by omega) ho hd ht
theorem ztF (ops:Array Oper) (d:Tmp) (self:Nat):∀ (n i:Nat),zsd ops.toList d self i n=true→∀ j oj,i≤j→j<i+n→ops[j]? = some oj→oj.dst=some d→j=self
 | 0,i,_,j,oj,h1,h2,_,_=>by omega
 | n+1,i,h,j,oj,h1,h2,ho,hd=>by
  simp only [zsd,Bool.and_eq_true] at h
  obtain ⟨h3,h4⟩:=h
  by_cases e:j=i
  ·subst e
   have:ops.toList[j]? = some oj:=by simpa using ho
   rw [this] at h3
   have e2:Nat.beq d d=true:=by rw [zaF]; simp
   simp only [hd,e2,cond_true] at h3
   rw [zaF,decide_eq_true_eq] at h3
   exact h3
  ·exact ztF ops d self n (i+1) h4 j oj (by omega) (by omega) ho hd
theorem zma (ops:Array Oper) (j:Nat):∀ l:List Nat,zjs (zeb (zkS ops.toList) j) l=true→∀ i∈l,Bef ops i j
 | [],_,i,h=>by simp at h
 | x::r,h,i,hi=>by
  simp only [zjs,Bool.and_eq_true] at h
  rcases List.mem_cons.1 hi with rfl | hi
  ·exact zhp ops h.1
  ·exact zma ops j r h.2 i hi
theorem zrb:∀ (l:List Nat) (n:Nat),zka l n=l[n]?
 | [],n=>by simp [zka]
 | x::r,0=>rfl
 | x::r,n+1=>by simp [zka,zrb r n]
theorem zuM {o:Oper} {t:Tmp} (h:Operand.tmp t∈o.op.operands.toList):t∈zmV o:=by
 unfold zmV
 exact List.mem_filterMap.2 ⟨.tmp t,h,rfl⟩
theorem zzJ (ops:Array Oper) {m res:Nat} {done effs:List Nat} {s:PStep} (h:zsL ops.toList (zkS ops.toList) m res done effs s=true):SF ops m res done effs s:=by
 unfold zsL at h
 cases ho:ops.toList[s.i]? with
 | none=>rw [ho] at h; simp at h
 | some o=>
  have ho':ops[s.i]? = some o:=by simpa using ho
  rw [ho] at h
  simp only [Bool.and_eq_true] at h
  obtain ⟨⟨⟨⟨⟨h1,h2⟩,h3⟩,h4⟩,h5⟩,h6⟩:=h
  refine ⟨zaB h1,⟨o,ho'⟩,fun hm=>by rw [(zff _ _).2 hm] at h2; simp at h2,?_,?_,?_,?_,?_,?_,?_⟩
  ·intro o2 ho2 t ht j oj hj hoj hd
   rw [ho'] at ho2
   obtain rfl:=Option.some.inj ho2
   exact zrL ops s.i done (zmV o) m 0 h3 j oj t (Nat.zero_le _) (by omega) hoj hd (zuM ht)
  ·intro o2 d ho2 hd j oj hj hoj hdj
   rw [ho'] at ho2
   obtain rfl:=Option.some.inj ho2
   rw [hd] at h4
   exact ztF ops d s.i m 0 h4 j oj (Nat.zero_le _) (by omega) hoj hdj
  ·intro o2 g b ho2 hg
   rw [ho'] at ho2
   obtain rfl:=Option.some.inj ho2
   rw [hg] at h5
   simp only [Bool.and_eq_true] at h5
   exact ⟨zaB h5.1.1,(zff _ _).1 h5.1.2,zhp ops h5.2⟩
  ·intro hk
   rw [hk] at h6
   exact zma ops s.i done h6
  ·intro hk l hl
   rw [hk] at h6
   simp only [hl] at h6
   cases he:zka effs l with
   | none=>rw [he] at h6; simp at h6
   | some e=>
    rw [he] at h6
    rw [zrb] at he
    simp only [Bool.and_eq_true,Bool.not_eq_true',zaF,decide_eq_false_iff_not] at h6
    exact ⟨e,he,zhp ops h6.1,h6.2⟩
  ·intro j hk
   rw [hk] at h6
   simp only [Bool.and_eq_true,Bool.not_eq_true',zaF,decide_eq_false_iff_not] at h6
   exact ⟨zhp ops h6.1,h6.2⟩
  ·intro hk
   rw [hk] at h6
   exact zaB h6
inductive StepsF (ops:Array Oper) (m res:Nat):List Nat→List Nat→List PStep→Prop
 | nil {done effs:List Nat}:(∀ i,i<m→i∈done)→StepsF ops m res done effs []
 | cons {done effs:List Nat} {s:PStep} {r:List PStep}:SF ops m res done effs s→StepsF ops m res (done++[s.i]) (if s.kind.isEff then effs++[s.i] else effs) r→StepsF ops m res done effs (s::r)
theorem zpL (done:List Nat):∀ n,zmS done n=true→∀ i,i<n→i∈done
 | 0,_,i,h=>by omega
 | n+1,h,i,hi=>by
  simp only [zmS,Bool.and_eq_true] at h
  by_cases e:i=n
  ·subst e; exact (zff _ _).1 h.1
  ·exact zpL done n h.2 i (by omega)
theorem zpl (ops:Array Oper) {m res:Nat}:∀ (r:List PStep) (done effs:List Nat),zmO ops.toList (zkS ops.toList) m res done effs r=true→StepsF ops m res done effs r
 | [],done,effs,h=>.nil (zpL done m h)
 | s::r,done,effs,h=>by
  simp only [zmO,Bool.and_eq_true] at h
  refine .cons (zzJ ops h.1) ?_
  have:=zpl ops r _ _ h.2
  cases hk:s.kind<;>simp only [hk,PKind.isEff] at this ⊢ <;> exact this
structure PF (E:Env) (ops:Array Oper) (p:Plan):Prop where
 quiet:∀ s∈p.steps,(s.kind=.pure∨s.kind=.read)→∀ o,ops[s.i]? = some o→zhZ E o.op=true
 le:p.m≤ops.size
 edges:∀ j o,ops[j]? = some o→∀ e∈o.after,Region.binds .any e=true→e.on<j
 tail:∀ j,p.m≤j→j<ops.size→∀ i,i<j→Bef ops i j
 steps:StepsF ops p.m p.res [] [] p.steps
theorem zpw:∀ (l:List Oper) (i:Nat),zng i l=true→∀ j o,l[j]? = some o→∀ e∈o.after,Region.binds .any e=true→e.on<i+j
 | [],i,_,j,o,h=>by simp at h
 | x::r,i,h,j,o,ho=>by
  simp only [zng,Bool.and_eq_true] at h
  intro e he hb
  cases j with
  | zero=>
   simp only [List.getElem?_cons_zero,Option.some.injEq] at ho
   subst ho
   have:=List.all_eq_true.1 h.1 e (by simpa using he)
   rw [hb] at this
   simpa using zaB (by simpa using this)
  | succ j=>
   have:=zpw r (i+1) h.2 j o (by simpa using ho) e he hb
   omega
theorem zrF (ops:Array Oper) (m:Nat):∀ n,zpb (zkS ops.toList) m n=true→∀ j,m≤j→j<m+n→∀ i,i<j→Bef ops i j
 | 0,_,j,h1,h2=>by omega
 | n+1,h,j,h1,h2=>by
  simp only [zpb,Bool.and_eq_true] at h
  intro i hi
  by_cases e:j=m+n
  ·subst e
   have h3:=h.1
   rw [zaF,decide_eq_true_eq] at h3
   refine zhp ops ?_
   rw [h3,Nat.testBit_two_pow_sub_one]
   simpa using hi
  ·exact zrF ops m n h.2 j h1 (by omega) i hi
theorem zzm {ops:Array Oper} {p:Plan} (h:zdb E ops.toList=some p):PF E ops p:=by
 unfold zdb at h
 simp only at h
 cases hc:zuF E ops.toList (zyu E ops.toList) with
 | false=>rw [hc] at h; simp at h
 | true=>
  rw [hc,cond_true] at h
  obtain rfl:=Option.some.inj h
  unfold zuF at hc
  simp only [Bool.and_eq_true] at hc
  obtain ⟨⟨⟨⟨h0,h1⟩,h2⟩,h3⟩,h4⟩:=hc
  have h1:=zdA h1
  simp only [Array.length_toList] at h1 h3
  refine ⟨fun s hs hk o ho=>by
   have:=List.all_eq_true.1 h0 s hs
   unfold zrG at this
   have ho':ops.toList[s.i]? = some o:=by simpa using ho
   rcases hk with hk | hk<;>(rw [hk] at this; simpa [ho'] using this),h1,fun j o ho e he hb=>by have:=zpw ops.toList 0 h2 j o (by simpa using ho) e he hb; omega,fun j hj hj2=>zrF ops _ _ h3 j hj (by omega),zpl ops _ _ _ h4⟩
end Go.Sim
namespace Go.Sim
variable {E:Env}
theorem zAw {ρ:Ren} {av:AV} (hav:∀ l c,av=.slc l c→c<openCap) {b R κ:Nat} (hb:ρ b=some (R,κ)):VRel ρ (zlR av b) (zlR av R):=by
 cases av with
 | ptr=>exact .ptr hb
 | mp=>exact .map hb
 | slc l c=>exact .slc (hav l c rfl) hb
def zpe (elem:TypeId) (ds:Array Value):AV→Obj
 | .mp=>.map #[] 0
 | .ptr=>.cells ds elem
 | .slc _ _=>.cells ds elem
theorem zzf (KE:EnvOK E) {ev:Ev} {eval:Operand→Value} {ρ:Ren} (hev:zcE ρ ev eval) {o:Oper} {elem:TypeId} {cs:List Value} {av:AV} (ha:zbW E ev o.op=some (elem,cs,av)) :
  (∀ l c,av=.slc l c→c<openCap)∧∃ ds:Array Value,LRel ρ cs ds.toList∧∀ w:World,(execOp eval o).run E.P w=.ok (.value (zlR av w.heap.size)) { w with heap:=w.heap.push (zpe elem ds av),drawn:=w.drawn }:=by
 cases ho:o.op with
 | alloc t=>
  rw [ho] at ha
  simp only [zbW] at ha
  split at ha
  ·rename_i b1 b2 b3 z ht
   simp only [Option.some.injEq,Prod.mk.injEq] at ha
   obtain ⟨rfl,rfl,rfl⟩:=ha
   have hz:=KE.zeroRel ht (z:=z) rfl ρ
   refine ⟨fun l c e=>by simp at e,z.cells,⟨rfl,fun i v w hv hw=>by rw [hv] at hw; obtain rfl:=Option.some.inj hw; exact (hz.2.2 v (List.mem_of_getElem? hv)).1⟩,fun w => ?_⟩
   rw [zsr ho]
   have:(Instr.alloc t true (.tuple #[])).run E.P w=.ok (.pointer (some ⟨w.heap.size,0,none⟩)) { w with heap:=w.heap.push (.cells z.cells t),drawn:=w.drawn }:=by
    unfold Instr.alloc
    rw [Sem.run_bind,KE.zero ht rfl w]
    simp [newVar,newRow]
   exact zaw _ _ _ _ _ this
  ·simp at ha
 | box t x=>
  rw [ho] at ha
  simp only [zbW] at ha
  split at ha
  ·rename_i v hx
   simp only [Option.some.injEq,Prod.mk.injEq] at ha
   obtain ⟨rfl,rfl,rfl⟩:=ha
   refine ⟨fun l c e=>by simp at e,(eval x).cells,(hev x v hx).cells,fun w => ?_⟩
   rw [zzl ho]
   have:(Instr.box t (eval x)).run E.P w=.ok (.pointer (some ⟨w.heap.size,0,none⟩)) { w with heap:=w.heap.push (.cells (eval x).cells t),drawn:=w.drawn }:=by
    simp [Instr.box,newVar,newRow]
   exact zaw _ _ _ _ _ this
  ·simp at ha
 | buildSlice t len ps=>
  rw [ho] at ha
  simp only [zbW,zkR] at ha
  split at ha
  ·rename_i elem' b1 b2 b3 parts ht hp
   obtain ⟨g1,g2⟩:=zgn hev _ _ hp
   split at ha
   ·rename_i d size bytes z hel
    cases hlong:(Nat.ble (len*size) 16777216&&Nat.ble len 16777216) with
    | false=>rw [hlong] at ha; simp at ha
    | true=>
     rw [hlong,cond_true] at ha
     simp only [Bool.and_eq_true] at hlong
     have hl1:=zdA hlong.1
     have hl2:=zdA hlong.2
     split at ha
     ·rename_i cs' hf
      simp only [Option.some.injEq,Prod.mk.injEq] at ha
      obtain ⟨rfl,rfl,rfl⟩:=ha
      have hz:=KE.zeroRel hel (z:=z) rfl ρ
      have hsz:z.cells.size=size:=hz.2.1
      have hm:=zkN (ρ:=ρ) z.cells (fun v hv=>(hz.2.2 v hv).1) len
      rw [hsz] at hm
      have hl0:(List.replicate len z.cells.toList).flatten.length=len*size:=by rw [hm.len]; simp [madeCells]
      obtain ⟨eo,he,hr⟩:=ziU (ρ:=ρ) (fun i=>some (i*size,size)) (len*size) parts _ _ _ cs' g1 g2 hl0 hm hf
      refine ⟨fun l c e=>by injection e with e1 e2; subst e2; unfold openCap; omega,eo,hr,fun w => ?_⟩
      rw [zlq ho]
      have hrun:(Instr.buildSlice t len (ps.map fun (i,x)=>(i,eval x))).run E.P w=.ok (.slice (some ⟨w.heap.size,0,none⟩) len len) { w with heap:=w.heap.push (.cells eo elem'),drawn:=w.drawn }:=by
       unfold Instr.buildSlice
       have hs:(Go.sizeOf elem').run E.P w=.ok size w:=KE.sizeOf hel w
       have hnl:¬ (len*size>2^24):=by omega
       simp only [Sem.run_bind,KE.und ht w,Result.andThen_ok,hs,if_neg hnl]
       by_cases h0:len*size=0
       ·rw [h0] at he
        simp only [h0,if_true,Sem.run_pure,Result.andThen_ok]
        have e0:madeCells z.cells 0 = #[]:=by simp [madeCells,Array.range_zero']
        rw [e0] at he
        rw [zgK]
        simp [he,newRow,Array.range_zero']
       ·simp only [h0,if_false,Sem.run_bind,KE.zero hel rfl w,Sem.run_pure,Result.andThen_ok]
        rw [zgK]
        unfold madeCells at he
        simp [he,newRow]
      exact zaw _ _ _ _ _ hrun
     ·simp at ha
   ·simp at ha
  ·simp at ha
 | makeSlice t l c=>
  rw [ho] at ha
  simp only [zbW,zlF] at ha
  split at ha
  ·rename_i elem' b1 b2 b3 ln cn ht hl hc
   split at ha
   ·rename_i d size bytes z hel
    cases hg:(Nat.ble ln cn&&Nat.ble (bytes*cn) 1099511627776&&Nat.ble cn 1099511627776) with
    | false=>rw [hg] at ha; simp at ha
    | true=>
     rw [hg,cond_true] at ha
     simp only [Bool.and_eq_true] at hg
     have q1:=zdA hg.1.1
     have q2:=zdA hg.1.2
     have q3:=zdA hg.2
     simp only [Option.some.injEq,Prod.mk.injEq] at ha
     obtain ⟨rfl,rfl,rfl⟩:=ha
     obtain ⟨kl,hle⟩:=zeD hev hl
     obtain ⟨kc,hce⟩:=zeD hev hc
     obtain ⟨i,hi,hs,hby,hz⟩:=KE.info hel
     simp only at hs hby hz
     have hbb:(i.bytes:Int)*(Int.ofNat cn)≤281474976710656:=by
      rw [hby]
      show (bytes:Int)*(cn:Int)≤281474976710656
      rw [← Int.natCast_mul]
      omega
     have hcc:(Int.ofNat cn)≤9223372036854775807:=by
      show (cn:Int)≤9223372036854775807
      omega
     have hlc:Int.ofNat ln≤Int.ofNat cn:=Int.ofNat_le.2 q1
     have hzr:=KE.zeroRel hel (z:=z) rfl ρ
     have hsz:z.cells.size=i.size:=by rw [hs]; exact hzr.2.1
     have hm:=zkN (ρ:=ρ) z.cells (fun v hv=>(hzr.2.2 v hv).1) cn
     rw [hsz] at hm
     refine ⟨fun l c e=>by injection e with e1 e2; subst e2; unfold openCap; omega,madeCells z.cells (cn*i.size),hm,fun w => ?_⟩
     rw [zme ho,hle,hce]
     have hrun:=run_make (P:=E.P) w t elem' i z (KE.type _ _ ht).2.1 hi (hz _ rfl) kl kc (Int.ofNat ln) (Int.ofNat cn) (Int.natCast_nonneg _) hlc hbb hcc
     exact zaw _ _ _ _ _ hrun
   ·simp at ha
  ·simp at ha
 | makeMap t r=>
  rw [ho] at ha
  cases r with
  | some x=>simp [zbW] at ha
  | none=>
   simp only [zbW,Option.some.injEq,Prod.mk.injEq] at ha
   obtain ⟨rfl,rfl,rfl⟩:=ha
   refine ⟨fun l c e=>by simp at e,#[],.nil _,fun w => ?_⟩
   rw [zpz ho]
   have:(Instr.makeMap t ((none:Option Operand).map eval)).run E.P w=.ok (.map (some w.heap.size)) { w with heap:=w.heap.push (.map #[] 0),drawn:=w.drawn }:=by
    simp [Instr.makeMap]
   exact zaw _ _ _ _ _ this
 | _=>rw [ho] at ha; simp [zbW] at ha
theorem zuP {ev:Ev} {op:Op} {elem:TypeId} {cs:List Value} {av:AV} (ha:zbW E ev op=some (elem,cs,av)) (hm:zmq op=false):av ≠ .mp:=by
 rintro rfl
 cases op with
 | makeMap t r=>simp [zmq] at hm
 | alloc t=>simp only [zbW] at ha; split at ha<;>simp at ha
 | box t x=>simp only [zbW] at ha; split at ha<;>simp at ha
 | buildSlice t len ps=>
  simp only [zbW,zkR] at ha
  split at ha
  ·split at ha
   ·rename_i d size bytes z hel
    cases hg:(Nat.ble (len*size) 16777216&&Nat.ble len 16777216) with
    | false=>rw [hg] at ha; simp at ha
    | true=>
     rw [hg,cond_true] at ha
     split at ha<;>simp at ha
   ·simp at ha
  ·simp at ha
 | makeSlice t l c=>
  simp only [zbW,zlF] at ha
  split at ha
  ·rename_i elem' b1 b2 b3 ln cn ht hl hc
   split at ha
   ·rename_i d size bytes z hel
    cases hg:(Nat.ble ln cn&&Nat.ble (bytes*cn) 1099511627776&&Nat.ble cn 1099511627776) with
    | false=>rw [hg] at ha; simp at ha
    | true=>rw [hg,cond_true] at ha; simp at ha
   ·simp at ha
  ·simp at ha
 | _=>simp [zbW] at ha
theorem znn {elem:TypeId} {cs:List Value} {av:AV} (h:av ≠ .mp):zhE elem cs av=.cells (Tr.ofL 33 cs) cs.length elem false false:=by
 cases av with
 | mp=>exact absurd rfl h
 | ptr=>rfl
 | slc=>rfl
theorem zlt {e1 e2:Ev} {op:Op} (he:∀ x∈op.operands.toList,e1 x=e2 x):zbW E e1 op=zbW E e2 op:=by
 cases op with
 | box t x=>simp only [zbW,he x (by simp [Op.operands])]
 | buildSlice t n ps=>simp only [zbW,zgu ps.toList fun p hp=>he p.2 (by simp [Op.operands]; exact ⟨_,by simpa using hp⟩)]
 | makeSlice t l c=>simp only [zbW,he l (by simp [Op.operands]),he c (by simp [Op.operands])]
 | makeMap t r=>cases r<;>rfl
 | _=>rfl
theorem zvf {ρ:Ren} {w:World} {cs:List Value} {ds:Array Value} {elem:TypeId} (h:LRel ρ cs ds.toList):zcq E ρ { w with heap:=w.heap.push (.cells ds elem),drawn:=w.drawn } w.heap.size 0 (.cells (Tr.ofL 33 cs) cs.length elem false false):=by
 have hn:({ w with heap:=w.heap.push (.cells ds elem),drawn:=w.drawn }:World).heap[w.heap.size]? = some (.cells ds elem (0,0)):=by simp
 have hl:=h.len
 simp only [Array.length_toList] at hl
 refine ⟨ds.size,?_,by omega,fun i v hv=>ztA hv,fun _=>by omega,fun e=>by simp at e,fun i v hv => ?_,fun _ i _ => ?_,fun _=>⟨_,_,0,0,hn,.inl rfl⟩⟩
 ·unfold World.shape?; rw [hn]
 ·obtain ⟨u,hu,hr⟩:=h.some (zcX hv)
  refine ⟨u,?_,hr⟩
  unfold World.cell?
  simp only [hn]
  simpa using hu
 ·unfold World.frozen?
  simp only [hn]
  simp
theorem zzv {ρ:Ren} {w:World} {cs:List Value} {ds:Array Value} {elem:TypeId} {av:AV} (h:LRel ρ cs ds.toList):zcq E ρ { w with heap:=w.heap.push (zpe elem ds av),drawn:=w.drawn } w.heap.size 0 (zhE elem cs av):=by
 cases av with
 | mp=>exact ⟨#[],by simp [zpe],rfl,by simp⟩
 | ptr=>exact zvf h
 | slc=>exact zvf h
theorem WRel.other {ρ:Ren} {h:SHeap} {w w':World} (k:WRel E ρ h w) (hk:∀ r,zce ρ h r→w'.heap[r]? = w.heap[r]?):WRel E ρ h w':=
 ⟨k.dom,fun b o hb=>let ⟨r,κ,h1,h2⟩:=k.live b o hb; ⟨r,κ,h1,h2.move (Le.refl ρ) (hk r ⟨b,o,κ,hb,h1⟩)⟩,k.inj,k.glob⟩
theorem WRel.more {ρ ρ':Ren} {h:SHeap} {w w':World} (k:WRel E ρ h w) (hl:Le ρ ρ') (hd:∀ b p,ρ' b=some p→b<h.next) (hk:∀ r,zce ρ h r→w'.heap[r]? = w.heap[r]?):WRel E ρ' h w':=by
 have same:∀ b o p,h.t.get b=some o→ρ' b=some p→ρ b=some p:=by
  intro b o p hb hp
  obtain ⟨r,κ,h1,_⟩:=k.live b o hb
  rw [hl b _ h1] at hp
  rw [h1]
  exact hp
 refine ⟨hd,fun b o hb => ?_,fun b b' o o' r κ κ' hb hb' h1 h2 hs=>k.inj b b' o o' r κ κ' hb hb' (same b o _ hb h1) (same b' o' _ hb' h2) hs,k.glob.mono hl⟩
 obtain ⟨r,κ,h1,h2⟩:=k.live b o hb
 exact ⟨r,κ,hl b _ h1,h2.move hl (hk r ⟨b,o,κ,hb,h1⟩)⟩
theorem zce.of_le {ρ ρ':Ren} {h:SHeap} {w:World} (k:WRel E ρ h w) (hl:Le ρ ρ') {r:Nat} (hm:zce ρ' h r):zce ρ h r:=by
 obtain ⟨b,o,κ,hb,h1⟩:=hm
 obtain ⟨r',κ',h2,_⟩:=k.live b o hb
 rw [hl b _ h2] at h1
 simp only [Option.some.injEq,Prod.mk.injEq] at h1
 obtain ⟨rfl,rfl⟩:=h1
 exact ⟨b,o,κ',hb,h2⟩
theorem WRel.adopt {ρ:Ren} {h:SHeap} {w:World} (k:WRel E ρ h w) {b R κ:Nat} {o:SObj} (hb:ρ b=some (R,κ)) (ho:zcq E ρ w R κ o) (hR:¬ zce ρ h R):WRel E ρ (h.set b (some o)) w∧∀ r,r≠R→zce ρ (h.set b (some o)) r→zce ρ h r:=by
 have get:∀ d x,(h.set b (some o)).t.get d=some x→(d=b∧x=o)∨(d≠b∧h.t.get d=some x):=by
  intro d x hd
  unfold SHeap.set at hd
  simp only [zaa] at hd
  split at hd
  ·rename_i e; exact .inl ⟨e.1,(Option.some.inj hd).symm⟩
  ·rename_i e
   by_cases hdb:d=b
   ·exfalso
    subst hdb
    obtain ⟨r,κ',h1,_⟩:=k.live _ _ hd
    have:d<lim:=zbU hd
    exact e ⟨rfl,this⟩
   ·exact .inr ⟨hdb,hd⟩
 refine ⟨⟨k.dom,fun d x hd => ?_,fun d d' x x' s κ1 κ2 hd hd' e1 e2 hsn => ?_,k.glob⟩,fun r hr hM => ?_⟩
 ·rcases get d x hd with ⟨rfl,rfl⟩ | ⟨_,hd⟩
  ·exact ⟨R,κ,hb,ho⟩
  ·exact k.live d x hd
 ·rcases get d x hd with ⟨e,_⟩ | ⟨e,g⟩<;>rcases get d' x' hd' with ⟨e',_⟩ | ⟨e',g'⟩
  ·rw [e,e']
  ·rw [e,hb] at e1
   simp only [Option.some.injEq,Prod.mk.injEq] at e1
   obtain ⟨rfl,rfl⟩:=e1
   exact absurd ⟨d',x',κ2,g',e2⟩ hR
  ·rw [e',hb] at e2
   simp only [Option.some.injEq,Prod.mk.injEq] at e2
   obtain ⟨rfl,rfl⟩:=e2
   exact absurd ⟨d,x,κ1,g,e1⟩ hR
  ·exact k.inj _ _ _ _ s κ1 κ2 g g' e1 e2 hsn
 ·obtain ⟨d,x,κ',hd,e1⟩:=hM
  rcases get d x hd with ⟨rfl,rfl⟩ | ⟨_,hd⟩
  ·rw [hb] at e1
   simp only [Option.some.injEq,Prod.mk.injEq] at e1
   exact absurd e1.1.symm hr
  ·exact ⟨d,x,κ',hd,e1⟩
theorem zxT (KE:EnvOK E) {a b e:TypeId} {x:Operand} {o:Oper} (ho:o.op=.convert a b x) (hab:a=b) {b1 b2 c1 c2:Nat} {b3 c3:Option Value} (ha:E.T a=some ⟨.slice e,b1,b2,b3⟩) (he:E.T e=some ⟨.int .u8,c1,c2,c3⟩)
  {eval:Operand→Value} {R l n:Nat} (hx:eval x=.slice (some ⟨R,0,none⟩) l n) {ρ:Ren} {w:World} {κ:Nat} {c:Tr Value} {m:Nat} {el:TypeId} {op:Bool} (hobj:zcq E ρ w R κ (.cells c m el op false)) :
  ∃ w',(execOp eval o).run E.P w=.ok (.value (.slice (some ⟨R,0,none⟩) l n)) w'∧zcq E ρ w' R κ (.cells c m el op false)∧(∀ r,r≠R→w'.heap[r]? = w.heap[r]?)∧w'.heap.size=w.heap.size∧w'.os=w.os∧w'.output=w.output∧w'.tape=w.tape:=by
 obtain ⟨m',hm⟩:=hobj
 subst hab
 have hrun:(convert a a (.slice (some ⟨R,0,none⟩) l n)).run E.P w=.ok (.slice (some ⟨R,0,none⟩) l n) (w.freeze ⟨R,m',none⟩ 1):=by
  simp [convert,KE.und ha w,KE.und he w,markStringish,hm.shape]
 obtain ⟨q1,q2⟩:=znC (hm.calm rfl)
 refine ⟨_,by rw [zcw ho,hx]; exact zaw _ _ _ _ _ hrun,⟨m',by rw [ziR]; exact hm.shape,hm.le,hm.lt,hm.shut,hm.room,fun i v hv=>by rw [zjL]; exact hm.get i v hv,fun _=>q2,fun _=>q1⟩,
  fun r hr=>zfJ w R m' 1 r hr,zjA _ _ _,?_,?_,?_⟩<;>(unfold World.freeze; split<;>rfl)
end Go.Sim
namespace Go.Sim
variable {E:Env}
theorem zvO {f g:FloatKind} (h:zwz f g=true):f=g:=by cases f<;>cases g<;>first | rfl | cases h
theorem zgC:∀ (n:Nat),(∀ v w:Value,zdz n v w=true→v=w)∧(∀ a b:List Value,zdz.valsEq n a b=true→a=b)
 | 0=>by
  refine ⟨fun v w h=>by simp [zdz] at h,fun a b h => ?_⟩
  cases a<;>cases b<;>simp [zdz.valsEq] at h ⊢
 | n+1=>by
  obtain ⟨ih1,ih2⟩:=zgC n
  have arr:∀ a b:Array Value,zdz.valsEq n a.toList b.toList=true→a=b:=fun a b h=>Array.toList_inj.1 (ih2 _ _ h)
  refine ⟨fun v w h => ?_,fun a b h => ?_⟩
  ·unfold zdz at h
   split at h
   ·simp at h; rw [h]
   ·simp only [Bool.and_eq_true,decide_eq_true_eq,beq_iff_eq] at h; rw [h.1,h.2]
   ·rename_i a b
    have:a.data.toList=b.data.toList:=by simpa using h
    have h2:=Array.toList_inj.1 this
    obtain ⟨a⟩:=a
    obtain ⟨b⟩:=b
    simp only at h2
    rw [h2]
   ·rfl
   ·simp only [decide_eq_true_eq] at h; rw [h]
   ·simp only [Bool.and_eq_true,beq_iff_eq] at h; rw [h.1,h.2]
   ·simp only [Bool.and_eq_true,decide_eq_true_eq,beq_iff_eq] at h; rw [h.1.1,h.1.2,h.2]
   ·rfl
   ·simp only [beq_iff_eq] at h; rw [h]
   ·rfl
   ·rfl
   ·rw [Nat.eq_of_beq_eq_true h]
   ·simp only [Bool.and_eq_true] at h; rw [zvO h.1.1,Nat.eq_of_beq_eq_true h.1.2,Nat.eq_of_beq_eq_true h.2]
   ·simp only [Bool.and_eq_true,beq_iff_eq] at h; rw [h.1,ih1 _ _ h.2]
   ·rw [arr _ _ h]
   ·rw [arr _ _ h]
   ·simp only [Bool.and_eq_true,beq_iff_eq] at h; rw [h.1.1,arr _ _ h.1.2,arr _ _ h.2]
   ·simp only [Bool.and_eq_true,beq_iff_eq] at h; rw [h.1.1,arr _ _ h.1.2,arr _ _ h.2]
   ·simp at h
  ·cases a with
   | nil=>cases b with
    | nil=>rfl
    | cons=>simp [zdz.valsEq] at h
   | cons x a=>cases b with
    | nil=>simp [zdz.valsEq] at h
    | cons y b=>
     simp only [zdz.valsEq,Bool.and_eq_true] at h
     rw [ih1 _ _ h.1,ih2 _ _ h.2]
theorem zrp {r:R} {v:Value} (h:zdP r=.ok v):∃ h',r=.ok (.value v,h'):=by
 unfold zdP at h
 split at h
 ·simp only [Except.ok.injEq] at h; subst h; exact ⟨_,rfl⟩
 ·simp at h
 ·simp at h
theorem zlA {ev:Ev} {o:Oper} {v:Value}:∀ (l:List SHeap),zdl E ev o v l=true→∀ H∈l,∃ h',zdi E ev o H=.ok (.value v,h')
 | [],_,H,h=>by simp at h
 | x::r,h,H,hH=>by
  simp only [zdl] at h
  split at h
  ·rename_i u h1 hs
   simp only [Bool.and_eq_true] at h
   have:=(zgC 200).1 _ _ h.1
   subst this
   rcases List.mem_cons.1 hH with rfl | hH
   ·exact ⟨_,hs⟩
   ·exact zlA r h.2 H hH
  ·simp at h
inductive FL (E:Env) (all:Array Oper) (base:Nat) (s:PStep) (o:Oper) (ph:Ph):Value→SHeap→List Nat→Prop
 | pure {v:Value} {h':SHeap}:s.kind=.pure→zdi E (evT E.G ph.tm) o zhL=.ok (.value v,h')→FL E all base s o ph v ph.h ph.cur
 | read {v:Value}:s.kind=.read→(∀ H∈ph.heaps.take (ph.heaps.length-s.lo),∃ h',zdi E (evT E.G ph.tm) o H=.ok (.value v,h'))→FL E all base s o ph v ph.h ph.cur
 | alloc {elem:TypeId} {cs:List Value} {av:AV}:s.kind=.alloc→zbW E (evT E.G ph.tm) o.op=some (elem,cs,av) →
   FL E all base s o ph (zlR av (base+s.i)) (ph.h.set (base+s.i) (some (zhE elem cs av))) (s.i::ph.cur)
 | touch {j:Nat} {v:Value}:s.kind=.touch j→zqD E (evT E.G ph.tm) all base j ph.cur o.op=some v→FL E all base s o ph v ph.h ph.cur
inductive DS (E:Env) (ih:K) (all:Array Oper) (nt base:Nat) (s:PStep) (o:Oper) (ph:Ph):Value→Ph→Prop
 | skipE:s.kind=.eff→zah all ph.tm o.guard=some false→DS E ih all nt base s o ph (.tuple #[]) ⟨ph.h::ph.heaps,zcr ph.tm nt o.dst (.tuple #[]),ph.h,[]⟩
 | skipF:s.kind ≠ .eff→zah all ph.tm o.guard=some false→DS E ih all nt base s o ph (.tuple #[]) ⟨ph.heaps,zcr ph.tm nt o.dst (.tuple #[]),ph.h,ph.cur⟩
 | eff {out:SNext×SHeap} {v:Value} {h:SHeap}:s.kind=.eff→zah all ph.tm o.guard=some true→zdi E (evT E.G ph.tm) o ph.h=.ok out→callOut ih out=.ok (v,h)→h.next≤lim →
   DS E ih all nt base s o ph v ⟨h::ph.heaps,zcr ph.tm nt o.dst v,h,[]⟩
 | float {v:Value} {h:SHeap} {cur:List Nat}:s.kind ≠ .eff→zah all ph.tm o.guard=some true→FL E all base s o ph v h cur→DS E ih all nt base s o ph v ⟨ph.heaps,zcr ph.tm nt o.dst v,h,cur⟩
theorem zez (k:PKind):k.isEff=true↔k=.eff:=by cases k<;>simp [PKind.isEff]
theorem zzb {all:Array Oper} {base:Nat} {s:PStep} {o:Oper} {ph:Ph} {v:Value} {h:SHeap} {cur:List Nat} (hok:zhg E all base s o ph=.ok (v,h,cur)):FL E all base s o ph v h cur:=by
 obtain ⟨heaps,tm,hh,cu⟩:=ph
 obtain ⟨i,kind,lo⟩:=s
 unfold zhg at hok
 simp only at hok
 split at hok
 ·split at hok
  ·rename_i v' hv
   simp only [Except.ok.injEq,Prod.mk.injEq] at hok
   obtain ⟨rfl,rfl,rfl⟩:=hok
   obtain ⟨h',hv⟩:=zrp hv
   exact .pure rfl hv
  ·simp at hok
 ·split at hok
  ·simp at hok
  ·rename_i H old
   split at hok
   ·rename_i v' hv
    obtain ⟨h',hv⟩:=zrp hv
    cases hr:zdl E (evT E.G tm) o v' (old.take (old.length-lo)) with
    | false=>rw [hr] at hok; simp at hok
    | true=>
     rw [hr,cond_true] at hok
     simp only [Except.ok.injEq,Prod.mk.injEq] at hok
     obtain ⟨rfl,rfl,rfl⟩:=hok
     refine .read rfl fun X hX => ?_
     simp only [List.length_cons] at hX
     by_cases hlo:lo≤old.length
     ·rw [show old.length+1-lo=(old.length-lo)+1 by omega,List.take_succ_cons] at hX
      rcases List.mem_cons.1 hX with rfl | hX
      ·exact ⟨_,hv⟩
      ·exact zlA _ hr X hX
     ·rw [show old.length+1-lo=0 by omega] at hX
      simp at hX
   ·simp at hok
 ·split at hok
  ·rename_i elem cs av ha
   simp only [Except.ok.injEq,Prod.mk.injEq] at hok
   obtain ⟨rfl,rfl,rfl⟩:=hok
   exact .alloc rfl ha
  ·simp at hok
 ·rename_i j
  split at hok
  ·rename_i v' hv
   simp only [Except.ok.injEq,Prod.mk.injEq] at hok
   obtain ⟨rfl,rfl,rfl⟩:=hok
   exact .touch rfl hv
  ·simp at hok
 ·simp at hok
theorem zym {ih:K} {all:Array Oper} {nt base:Nat} {s:PStep} {ph ph1:Ph} (hok:zcc E ih all nt base s ph=.ok ph1):∃ o v,all[s.i]? = some o∧DS E ih all nt base s o ph v ph1:=by
 unfold zcc at hok
 split at hok
 ·simp at hok
 ·rename_i o ho
  refine ⟨o,?_⟩
  split at hok
  ·simp at hok
  ·rename_i w hw
   cases w with
   | false=>
    simp only at hok
    cases he:s.kind.isEff with
    | true=>
     rw [he,cond_true,Except.ok.injEq] at hok
     subst hok
     exact ⟨_,ho,.skipE ((zez _).1 he) hw⟩
    | false=>
     rw [he,cond_false,Except.ok.injEq] at hok
     subst hok
     exact ⟨_,ho,.skipF (fun e=>by rw [(zez _).2 e] at he; simp at he) hw⟩
   | true=>
    simp only at hok
    cases he:s.kind.isEff with
    | true=>
     rw [he,cond_true] at hok
     split at hok
     ·simp at hok
     ·rename_i out hs
      split at hok
      ·simp at hok
      ·rename_i v h hc
       cases hn:Nat.ble h.next lim with
       | false=>rw [hn] at hok; simp at hok
       | true=>
        rw [hn,cond_true,Except.ok.injEq] at hok
        subst hok
        exact ⟨_,ho,.eff ((zez _).1 he) hw hs hc (zdA hn)⟩
    | false=>
     rw [he,cond_false] at hok
     split at hok
     ·simp at hok
     ·rename_i v h cur hf
      rw [Except.ok.injEq] at hok
      subst hok
      exact ⟨_,ho,.float (fun e=>by rw [(zez _).2 e] at he; simp at he) hw (zzb hf)⟩
theorem zDH (ph:Ph) (k:Ph→Ex Ph):zxF ph k=k ph:=by
 obtain ⟨a,b,⟨t,n⟩,c⟩:=ph
 simp only [zxF,zav,zaD]
theorem ziu {ih:K} {all:Array Oper} {nt base:Nat} {s:PStep} {r:List PStep} {ph phf:Ph} (hok:zdR E ih all nt base (s::r) ph=.ok phf) :
  ∃ o v ph1,all[s.i]? = some o∧DS E ih all nt base s o ph v ph1∧zdR E ih all nt base r ph1=.ok phf:=by
 simp only [zdR] at hok
 split at hok
 ·simp at hok
 ·rename_i ph1 h1
  rw [zDH] at hok
  obtain ⟨o,v,h2,h3⟩:=zym h1
  exact ⟨o,v,ph1,h2,h3,hok⟩
theorem DS.tm {ih:K} {all:Array Oper} {nt base:Nat} {s:PStep} {o:Oper} {ph ph1:Ph} {v:Value} (h:DS E ih all nt base s o ph v ph1):ph1.tm=zcr ph.tm nt o.dst v:=by cases h<;>rfl
theorem zll {tm:Tr Value} {nt:Nat} {dst:Option Tmp} {v:Value} {t:Nat} (h:dst≠some t∨nt≤t):(zcr tm nt dst v).get t=tm.get t:=by
 cases dst with
 | none=>rfl
 | some d=>
  simp only [zcr]
  cases hd:Nat.blt d nt with
  | false=>rfl
  | true=>
   rw [cond_true,zaa]
   have:=zaB hd
   split
   ·rename_i e
    exfalso
    rcases h with h | h
    ·exact h (by rw [e.1])
    ·omega
   ·rfl
theorem zrI {tm:Tr Value} {nt:Nat} {d:Tmp} {v u:Value} (hd:d<nt) (h:(zcr tm nt (some d) v).get d=some u):u=v:=by
 simp only [zcr,zaI hd,cond_true,zaa] at h
 split at h
 ·exact (Option.some.inj h).symm
 ·rename_i e
  exact absurd ⟨trivial,zbU h⟩ e
theorem zlc {ih:K} {all:Array Oper} {nt base:Nat} {t:Nat}:∀ (r:List PStep) (ph phf:Ph),zdR E ih all nt base r ph=.ok phf→((∀ s∈r,∀ o,all[s.i]? = some o→o.dst≠some t)∨nt≤t)→phf.tm.get t=ph.tm.get t
 | [],ph,phf,h,_=>by simp only [zdR,Except.ok.injEq] at h; rw [h]
 | s::r,ph,phf,h,hw=>by
  obtain ⟨o,v,ph1,h1,h2,h3⟩:=ziu h
  rw [zlc r ph1 phf h3 (hw.imp (fun g s' hs'=>g s' (by simp [hs'])) id),h2.tm]
  exact zll (hw.imp (fun g=>g s (by simp) o h1) id)
structure TmAt (all:Array Oper) (tm0 tmf:Tr Value) (done:List Nat) (tm:Tr Value):Prop where
 old:∀ t,(∀ j∈done,∀ o,all[j]? = some o→o.dst≠some t)→tm.get t=tm0.get t
 new:∀ j∈done,∀ o t,all[j]? = some o→o.dst=some t→tm.get t=tmf.get t
theorem StepsF.fresh {ops:Array Oper} {m res:Nat} {done effs:List Nat} {r:List PStep} (h:StepsF ops m res done effs r):∀ s∈r,s.i ∉ done∧s.i<m:=by
 induction h with
 | nil=>intro s hs; simp at hs
 | cons hs _ ih=>
  intro s' h'
  rcases List.mem_cons.1 h' with rfl | h'
  ·exact ⟨hs.new,hs.lt⟩
  ·exact ⟨fun hd=>(ih s' h').1 (by simp [hd]),(ih s' h').2⟩
theorem TmAt.step {ih:K} {ops:Array Oper} {nt base m res:Nat} {tm0:Tr Value} {done effs:List Nat} {s:PStep} {r:List PStep} {o:Oper} {ph ph1 phf:Ph} {v:Value} (hs:SF ops m res done effs s) (hr:∀ s'∈r,s'.i≠s.i∧s'.i<m)
  (ho:ops[s.i]? = some o) (hd:DS E ih ops nt base s o ph v ph1) (hc:zdR E ih ops nt base r ph1=.ok phf) (hdm:∀ j∈done,j<m) (k:TmAt ops tm0 phf.tm done ph.tm):TmAt ops tm0 phf.tm (done++[s.i]) ph1.tm:=by
 refine ⟨fun t ht => ?_,fun j hj o' t ho' hdst => ?_⟩
 ·rw [hd.tm,zll (.inl (ht s.i (by simp) o ho))]
  exact k.old t fun j hj=>ht j (by simp [hj])
 ·rcases List.mem_append.1 hj with hj | hj
  ·rw [hd.tm,zll (.inl fun e=>hs.new (by rw [← hs.dst o t ho e j o' (hdm j hj) ho' hdst]; exact hj))]
   exact k.new j hj o' t ho' hdst
  ·simp only [List.mem_singleton] at hj
   subst hj
   symm
   refine zlc r ph1 phf hc (.inl fun s' hs' o2 ho2 e2 => ?_)
   rw [ho] at ho'
   obtain rfl:=Option.some.inj ho'
   exact (hr s' hs').1 (hs.dst o t ho hdst s'.i o2 (hr s' hs').2 ho2 e2)
theorem zlx {all:Array Oper} {tm tm':Tr Value} {g:Option (Nat×Bool)} (h:∀ j b,g=some (j,b)→∀ o d,all[j]? = some o→o.dst=some d→tm.get d=tm'.get d):zah all tm g=zah all tm' g:=by
 unfold zah
 cases g with
 | none=>rfl
 | some p=>
  obtain ⟨j,b⟩:=p
  simp only
  cases hd:(all[j]?).bind (·.dst) with
  | none=>rfl
  | some d=>
   simp only
   cases ho:all[j]? with
   | none=>rw [ho] at hd; simp at hd
   | some o=>rw [ho] at hd; rw [h j b rfl o d ho (by simpa using hd)]
theorem DS.heaps {ih:K} {all:Array Oper} {nt base:Nat} {s:PStep} {o:Oper} {ph ph1:Ph} {v:Value} (h:DS E ih all nt base s o ph v ph1) :
  (s.kind=.eff∧ph1.heaps=ph1.h::ph.heaps∧ph1.cur=[])∨(s.kind ≠ .eff∧ph1.heaps=ph.heaps∧∀ j∈ph1.cur,j∈ph.cur∨(j=s.i∧s.kind=.alloc∧zah all ph.tm o.guard=some true)):=by
 cases h with
 | skipE hk=>exact .inl ⟨hk,rfl,rfl⟩
 | skipF hk=>exact .inr ⟨hk,rfl,fun j hj=>.inl hj⟩
 | eff hk=>exact .inl ⟨hk,rfl,rfl⟩
 | float hk hw hf=>
  refine .inr ⟨hk,rfl,fun j hj => ?_⟩
  cases hf with
  | pure=>exact .inl hj
  | read=>exact .inl hj
  | alloc ha=>exact (List.mem_cons.1 hj).elim (fun e=>.inr ⟨e,ha,hw⟩) .inl
  | touch=>exact .inl hj
theorem zfM {ih:K} {ops:Array Oper} {nt base m res:Nat} {tm0:Tr Value} {phf:Ph}:∀ (r:List PStep) (done effs:List Nat) (ph:Ph),StepsF ops m res done effs r→zdR E ih ops nt base r ph=.ok phf→TmAt ops tm0 phf.tm done ph.tm→(∀ j∈done,j<m) →
  ph.heaps.length=effs.length+1 →
  ∀ s∈r,∃ done' effs' ph' ph1 o v more,SF ops m res done' effs' s∧ops[s.i]? = some o∧DS E ih ops nt base s o ph' v ph1∧TmAt ops tm0 phf.tm done' ph'.tm∧(∀ j∈done',j<m)∧done <+: done' ∧
   ph'.heaps=more++ph.heaps∧ph'.heaps.length=effs'.length+1∧(∃ me,effs'=effs++me∧∀ e∈me,∃ s'∈r,s'.i=e∧s'.kind=.eff)∧(∀ d u,o.dst=some d→d<nt→phf.tm.get d=some u→u=v) ∧
   (∀ j∈ph'.cur,j∈ph.cur∨∃ s'∈r,s'.i=j∧s'.kind=.alloc∧∀ oj,ops[j]? = some oj→zah ops phf.tm oj.guard=some true)
 | [],_,_,_,_,_,_,_,_,s,hs=>by simp at hs
 | s0::r,done,effs,ph,hF,hok,ht,hdm,hl,s,hs=>by
  cases hF with
  | cons hS hR=>
   obtain ⟨o,v,ph1,ho,hd,hc⟩:=ziu hok
   have hfr:∀ s'∈r,s'.i≠s0.i∧s'.i<m:=fun s' hs'=>by
    have:=hR.fresh s' hs'
    exact ⟨fun e=>this.1 (by simp [e]),this.2⟩
   have ht1:=ht.step hS hfr ho hd hc hdm
   rcases List.mem_cons.1 hs with rfl | hs
   ·refine ⟨done,effs,ph,ph1,o,v,[],hS,ho,hd,ht,hdm,List.prefix_refl _,rfl,hl,⟨[],by simp,by simp⟩,fun d u hdd hlt hu => ?_,fun j hj=>.inl hj⟩
    rw [← ht1.new s.i (by simp) o d ho hdd,hd.tm,hdd] at hu
    exact zrI hlt hu
   ·have hl1:ph1.heaps.length=(if s0.kind.isEff then effs++[s0.i] else effs).length+1:=by
     rcases hd.heaps with ⟨hk,hh,_⟩ | ⟨hk,hh,_⟩
     ·rw [hh,(zez _).2 hk]; simp [hl]
     ·have:s0.kind.isEff=false:=by
       cases he:s0.kind.isEff with
       | false=>rfl
       | true=>exact absurd ((zez _).1 he) hk
      rw [hh,this]; simpa using hl
    obtain ⟨done',effs',ph',ph2,o',v',more,a1,a2,a3,a4,a5,a6,a7,a8,a9,a10,a11⟩:=zfM r _ _ ph1 hR hc ht1 (fun j hj=>by
     rcases List.mem_append.1 hj with hj | hj
     ·exact hdm j hj
     ·simp only [List.mem_singleton] at hj; rw [hj]; exact hS.lt) hl1 s hs
    have hpe:∃ me,effs'=effs++me∧∀ e∈me,∃ s'∈s0::r,s'.i=e∧s'.kind=.eff:=by
     obtain ⟨me,h1,h2⟩:=a9
     cases he:s0.kind.isEff with
     | true=>
      rw [he,if_pos rfl] at h1
      refine ⟨s0.i::me,by rw [h1]; simp,fun e hm => ?_⟩
      rcases List.mem_cons.1 hm with rfl | hm
      ·exact ⟨s0,by simp,rfl,(zez _).1 he⟩
      ·obtain ⟨s',h3,h4⟩:=h2 e hm
       exact ⟨s',by simp [h3],h4⟩
     | false=>
      rw [he,if_neg (by simp)] at h1
      refine ⟨me,h1,fun e hm => ?_⟩
      obtain ⟨s',h3,h4⟩:=h2 e hm
      exact ⟨s',by simp [h3],h4⟩
    have hpd:done <+: done':=(List.prefix_append _ _).trans a6
    rcases hd.heaps with ⟨hk,hh,hcur⟩ | ⟨hk,hh,hcur⟩
    ·refine ⟨done',effs',ph',ph2,o',v',more++[ph1.h],a1,a2,a3,a4,a5,hpd,by rw [a7,hh]; simp,a8,hpe,a10,fun j hj => ?_⟩
     rcases a11 j hj with h | ⟨s',h1,h2⟩
     ·rw [hcur] at h; simp at h
     ·exact .inr ⟨s',by simp [h1],h2⟩
    ·refine ⟨done',effs',ph',ph2,o',v',more,a1,a2,a3,a4,a5,hpd,by rw [a7,hh],a8,hpe,a10,fun j hj => ?_⟩
     rcases a11 j hj with h | ⟨s',h1,h2⟩
     ·rcases hcur j h with h | ⟨e1,e2,e3⟩
      ·exact .inl h
      ·refine .inr ⟨s0,by simp,e1.symm,e2,fun oj hoj => ?_⟩
       rw [e1,ho] at hoj
       obtain rfl:=Option.some.inj hoj
       rw [← e3]
       refine (zlx fun g b hg og d hog hdg => ?_).symm
       obtain ⟨g1,g2,_⟩:=hS.guard o g b ho hg
       exact ht.new g g2 og d hog hdg
     ·exact .inr ⟨s',by simp [h1],h2⟩
end Go.Sim
namespace Go.Sim
variable {E:Env}
theorem zye {ops:Array Oper} (he:∀ j o,ops[j]? = some o→∀ e∈o.after,Region.binds .any e=true→e.on<j) {i j:Nat} (h:Bef ops i j):i≤j:=
 h (fun k=>k≤j) (fun k o hk ho e hm hb=>by have:=he k o ho e hm hb; omega) (Nat.le_refl j)
theorem zfR {ops:Array Oper} {L:Nat→Prop} (hc:zjf ops L) {i:Nat} (hr:∀ o,ops[i]? = some o→∀ e∈o.after,Region.binds .any e=true→L e.on) {j:Nat} (h:Bef ops j i):L j∨j=i:=by
 refine h (fun k=>L k∨k=i) (fun k o hk ho e hm hb=>.inl ?_) (.inr rfl)
 rcases hk with hk | rfl
 ·exact hc k o hk ho e hm hb
 ·exact hr o ho e hm hb
theorem zyW {ops:Array Oper} {m res:Nat} (he:∀ j o,ops[j]? = some o→∀ e∈o.after,Region.binds .any e=true→e.on<j) {s:PStep} {d1 e1 d2 e2:List Nat} {tm0 tmf tm1 tm2:Tr Value} (h1:SF ops m res d1 e1 s) (h2:SF ops m res d2 e2 s)
  (m1:∀ j∈d1,j<m) (m2:∀ j∈d2,j<m) (t1:TmAt ops tm0 tmf d1 tm1) (t2:TmAt ops tm0 tmf d2 tm2) {o:Oper} (ho:ops[s.i]? = some o) {t:Nat} (ht:Operand.tmp t∈o.op.operands.toList):tm1.get t=tm2.get t:=by
 have key:∀ {d d' e e':List Nat},SF ops m res d e s→SF ops m res d' e' s→(∀ j∈d,j<m)→∀ j∈d,∀ oj,ops[j]? = some oj→oj.dst=some t→j∈d':=by
  intro d d' e e' h h' hm j hj oj hoj hd
  rcases h'.use o ho t ht j oj (hm j hj) hoj hd with ⟨h3,_⟩ | ⟨h3,h4⟩
  ·exact h3
  ·exfalso
   rcases h4 with rfl | h4
   ·exact h.new hj
   ·rcases h.use o ho t ht j oj (hm j hj) hoj hd with ⟨_,h5⟩ | ⟨h5,_⟩
    ·have a:=zye he h4
     have b:=zye he h5
     have:j=s.i:=by omega
     subst this
     exact h.new hj
    ·exact h5 hj
 by_cases hw:∃ j∈d1,∃ oj,ops[j]? = some oj∧oj.dst=some t
 ·obtain ⟨j,hj,oj,hoj,hd⟩:=hw
  rw [t1.new j hj oj t hoj hd,t2.new j (key h1 h2 m1 j hj oj hoj hd) oj t hoj hd]
 ·have n1:∀ j∈d1,∀ o,ops[j]? = some o→o.dst≠some t:=fun j hj oj hoj hd=>hw ⟨j,hj,oj,hoj,hd⟩
  have n2:∀ j∈d2,∀ o,ops[j]? = some o→o.dst≠some t:=fun j hj oj hoj hd=>hw ⟨j,key h2 h1 m2 j hj oj hoj hd,oj,hoj,hd⟩
  rw [t1.old t n1,t2.old t n2]
open Classical in
noncomputable def evR (G:Nat) (tm:Tr Value) (o:Oper):Ev:=fun x=>if x∈o.op.operands.toList then evT G tm x else none
theorem zsK (G:Nat) (tm:Tr Value) (o:Oper):∀ x∈o.op.operands.toList,evT G tm x=evR G tm o x:=fun x hx=>by
 unfold evR; rw [if_pos hx]
theorem zro {tm:Tr Value} {o:Oper} {h:SHeap}:zdi E (evT E.G tm) o h=zdi E (evR E.G tm o) o h:=by
 obtain ⟨dst,op,ty,pos,after,guard⟩:=o
 exact zqb op rfl (zsK E.G tm ⟨dst,op,ty,pos,after,guard⟩)
theorem zvb {tm:Tr Value} {o:Oper}:zbW E (evT E.G tm) o.op=zbW E (evR E.G tm o) o.op:=zlt (zsK E.G tm o)
structure Tmps (ops:Array Oper) (tm0 tmf:Tr Value) (nt:Nat) (L:Nat→Prop) (ρ:Ren) (tma:Array Value):Prop where
 size:tma.size=nt
 outer:∀ t v,tm0.get t=some v→(∀ j o,L j→ops[j]? = some o→o.dst≠some t)→∃ u,tma[t]? = some u∧VRel ρ v u
 val:∀ j o d v,L j→ops[j]? = some o→o.dst=some d→tmf.get d=some v→∃ u,tma[d]? = some u∧VRel ρ v u
theorem Tmps.mono {ops:Array Oper} {tm0 tmf:Tr Value} {nt:Nat} {L:Nat→Prop} {ρ ρ':Ren} {tma:Array Value} (h:Le ρ ρ') (k:Tmps ops tm0 tmf nt L ρ tma):Tmps ops tm0 tmf nt L ρ' tma:=
 ⟨k.size,fun t v a b=>let ⟨u,c,d⟩:=k.outer t v a b; ⟨u,c,d.mono h⟩,fun j o d v a b c e=>let ⟨u,f,g⟩:=k.val j o d v a b c e; ⟨u,f,g.mono h⟩⟩
theorem zsO {ops:Array Oper} {m res:Nat} {tm0 tmf:Tr Value} {nt:Nat} {L:Nat→Prop} {ρ:Ren} {tma:Array Value} (k:Tmps ops tm0 tmf nt L ρ tma) (g:zeu E ρ) (hc:zjf ops L) (low:∀ j,L j→j<m) {s:PStep} {o:Oper} (ho:ops[s.i]? = some o)
  (hn:¬ L s.i) (hr:∀ o,ops[s.i]? = some o→∀ e∈o.after,Region.binds .any e=true→L e.on) {done effs:List Nat} (hs:SF ops m res done effs s) (hdm:∀ j∈done,j<m) {tm:Tr Value} (ht:TmAt ops tm0 tmf done tm) :
  zcE ρ (evR E.G tm o) (zcA tma)∧∀ b,zah ops tm o.guard=some b→Region.wanted o (yielded ops tma)=b:=by
 have slot:∀ t v,tm.get t=some v→(∀ j oj,j<m→ops[j]? = some oj→oj.dst=some t→(j∈done∧Bef ops j s.i)∨(j ∉ done∧(j=s.i∨Bef ops s.i j)))→∃ u,tma[t]? = some u∧VRel ρ v u:=by
  intro t v hv hu
  by_cases hw:∃ j∈done,∃ oj,ops[j]? = some oj∧oj.dst=some t
  ·obtain ⟨j,hj,oj,hoj,hd⟩:=hw
   rw [ht.new j hj oj t hoj hd] at hv
   rcases hu j oj (hdm j hj) hoj hd with ⟨_,hb⟩ | ⟨h2,_⟩
   ·rcases zfR hc hr hb with h3 | rfl
    ·exact k.val j oj t v h3 hoj hd hv
    ·exact absurd hj hs.new
   ·exact absurd hj h2
  ·rw [ht.old t fun j hj oj hoj hd=>hw ⟨j,hj,oj,hoj,hd⟩] at hv
   refine k.outer t v hv fun j oj hL hoj hd => ?_
   rcases hu j oj (low j hL) hoj hd with ⟨h2,_⟩ | ⟨_,h2⟩
   ·exact hw ⟨j,h2,oj,hoj,hd⟩
   ·rcases h2 with rfl | h2
    ·exact hn hL
    ·exact hn (h2 L hc hL)
 refine ⟨fun x v hx => ?_,fun b hb => ?_⟩
 ·unfold evR at hx
  split at hx
  ·rename_i hm
   cases x with
   | tmp t=>
    obtain ⟨u,hu,hr⟩:=slot t v hx (fun j oj hj hoj hd=>hs.use o ho t hm j oj hj hoj hd)
    simp only [zcA]
    rw [Array.getD_eq_getD_getElem?,hu]
    exact hr
   | const c=>
    simp only [evT] at hx
    cases hp:zaP 4 c with
    | false=>rw [hp] at hx; simp at hx
    | true=>
     rw [hp,cond_true] at hx
     obtain rfl:=Option.some.inj hx
     exact zdu 4 c hp
   | global q=>
    simp only [evT] at hx
    cases hp:Nat.blt q E.G with
    | false=>rw [hp] at hx; simp at hx
    | true=>
     rw [hp,cond_true] at hx
     obtain rfl:=Option.some.inj hx
     obtain ⟨κ,hk,_⟩:=g q (zaB hp)
     exact .ptr hk
   | func f=>
    simp only [evT] at hx
    obtain rfl:=Option.some.inj hx
    exact .func' (.func f) (.nil ρ) (.nil ρ)
  ·simp at hx
 ·unfold zah at hb
  unfold Region.wanted
  cases hg:o.guard with
  | none=>rw [hg] at hb; simpa using hb
  | some p=>
   obtain ⟨j,want⟩:=p
   rw [hg] at hb
   simp only at hb ⊢
   unfold yielded
   cases hd:(ops[j]?).bind (·.dst) with
   | none=>
    rw [hd] at hb
    simp at hb
    simp [hb]
   | some d=>
    rw [hd] at hb
    simp only at hb ⊢
    cases hv:tm.get d with
    | none=>rw [hv] at hb; simp at hb
    | some v=>
     rw [hv] at hb
     obtain ⟨g1,g2,g3⟩:=hs.guard o j want ho hg
     cases hoj:ops[j]? with
     | none=>rw [hoj] at hd; simp at hd
     | some oj=>
      rw [hoj] at hd
      have hd:oj.dst=some d:=by simpa using hd
      rw [ht.new j g2 oj d hoj hd] at hv
      have hL:L j:=by
       rcases zfR hc hr g3 with h3 | rfl
       ·exact h3
       ·exact absurd g2 hs.new
      obtain ⟨u,hu,hr⟩:=k.val j oj d v hL hoj hd hv
      simp only [Option.bind_some,hu]
      cases hr<;>simp at hb<;>simp [← hb]
theorem Tmps.write {ops:Array Oper} {tm0 tmf:Tr Value} {nt m res:Nat} {L:Nat→Prop} {ρ:Ren} {tma:Array Value} (k:Tmps ops tm0 tmf nt L ρ tma) (low:∀ j,L j→j<m) {s:PStep} {o:Oper} (ho:ops[s.i]? = some o) {done effs:List Nat} (hs:SF ops m res done effs s)
  (big:∀ d,nt≤d→tmf.get d=none) {v u:Value} (hv:∀ d u',o.dst=some d→d<nt→tmf.get d=some u'→u'=v) (hu:VRel ρ v u) (hn:¬ L s.i):Tmps ops tm0 tmf nt (fun j=>L j∨j=s.i) ρ (zfz tma o.dst u):=by
 have other:∀ t,o.dst≠some t→(zfz tma o.dst u)[t]? = tma[t]? := by
  intro t ht
  cases hd:o.dst with
  | none=>rfl
  | some d=>
   simp only [zfz]
   rw [Array.getElem?_setIfInBounds_ne]
   rintro rfl
   exact ht hd
 refine ⟨?_,fun t v' hv' hno => ?_,fun j oj d v' hj hoj hd hv' => ?_⟩
 ·cases o.dst<;>simp [zfz,k.size]
 ·rw [other t (hno s.i o (.inr rfl) ho)]
  exact k.outer t v' hv' fun j oj hj=>hno j oj (.inl hj)
 ·rcases hj with hj | rfl
  ·rw [other d (fun e=>hn (by rw [← hs.dst o d ho e j oj (low j hj) hoj hd]; exact hj))]
   exact k.val j oj d v' hj hoj hd hv'
  ·rw [ho] at hoj
   obtain rfl:=Option.some.inj hoj
   have hlt:d<nt:=by
    rcases Nat.lt_or_ge d nt with h | h
    ·exact h
    ·rw [big d h] at hv'; simp at hv'
   have:=hv d v' hd hlt hv'
   subst this
   refine ⟨u,?_,hu⟩
   rw [hd]
   simp [zfz,k.size,hlt]
theorem zzx {ev:Ev} {o:Oper} {h h':SHeap} {v:Value} (hs:zdi E ev o h=.ok (.value v,h')):∀ c,o.op ≠ .defer c:=by
 intro c e
 obtain ⟨dst,op,ty,pos,after,guard⟩:=o
 simp only at e
 subst e
 have hs:zgd ev c h=.ok (.value v,h'):=hs
 unfold zgd at hs
 split at hs<;>simp at hs
theorem zyl (KE:EnvOK E) {ev:Ev} {eval:Operand→Value} {ρ:Ren} {h:SHeap} {w:World} {o:Oper} {n:SNext} {h':SHeap} (hq:zhZ E o.op=true) (hev:zcE ρ ev eval) (hw:WRel E ρ h w) (hok:zdi E ev o h=.ok (n,h')) :
  zfh ρ h w n h' ((execOp eval o).run E.P w):=by
 obtain ⟨dst,op,ty,pos,after,guard⟩:=o
 have hok:zac op E ev ⟨dst,op,ty,pos,after,guard⟩ h=.ok (n,h'):=hok
 cases op with
 | move x=>exact ztS x ev eval ρ h w _ n h' rfl hev hw hok
 | assign x=>exact zpy x ev eval ρ h w _ n h' rfl hev hw hok
 | pick c a b=>exact zsH c a b ev eval ρ h w _ n h' rfl hev hw hok
 | build t ps=>exact zrH KE t ps ev eval ρ h w _ n h' rfl hev hw hok
 | load t a=>exact zsJ KE t a ev eval ρ h w _ n h' rfl hev hw hok
 | nilCheck x=>exact zml x ev eval ρ h w _ n h' rfl hev hw hok
 | binOp op t x y u=>exact zvx KE op t u x y ev eval ρ h w _ n h' rfl hev hw hok
 | unOp op t x=>exact zyt op t x ev eval ρ h w _ n h' rfl hev hw hok
 | makeInterface t x=>exact zls KE t x ev eval ρ h w _ n h' rfl hev hw hok
 | makeFunc fn a b=>exact zlX fn a b ev eval ρ h w _ n h' rfl hev hw hok
 | slice t x l g m=>exact zqW KE t x l g m ev eval ρ h w _ n h' rfl hev hw hok
 | fieldAddr t x f=>exact zly KE t x f ev eval ρ h w _ n h' rfl hev hw hok
 | field t x f=>exact zrh KE t x f ev eval ρ h w _ n h' rfl hev hw hok
 | indexAddr t x i=>exact zlv KE t x i ev eval ρ h w _ n h' rfl hev hw hok
 | index t x i=>exact zqT KE t x i ev eval ρ h w _ n h' rfl hev hw hok
 | lookup t m k ok=>exact zpc KE t m k ok ev eval ρ h w _ n h' rfl hev hw hok
 | typeAssert x s t ok=>exact zjX KE x s t ok ev eval ρ h w _ n h' rfl hev hw hok
 | extract x i=>exact znE x i ev eval ρ h w _ n h' rfl hev hw hok
 | convert a b x=>exact zwq KE a b x (fun e y1 y2 y3 ht=>by simp only [zhZ,ht] at hq; simp at hq) ev eval ρ h w _ n h' rfl hev hw hok
 | call c=>
  have hc:c.callee=.builtin .len∨c.callee=.builtin .min:=by
   simp only [zhZ] at hq
   split at hq
   ·exact .inl (by assumption)
   ·exact .inr (by assumption)
   ·simp at hq
  rcases hc with hc | hc
  ·simp only [zac,zat,zbY,hc] at hok
   unfold zcH at hok
   split at hok
   ·simp at hok
   ·rename_i args hargs
    split at hok
    ·exact zzI KE hev hw rfl hc hargs hok
    all_goals (first | (rename_i hb; simp at hb; done) | skip)
    all_goals (first | (exact zhV hev rfl hc hok) | skip)
  ·simp only [zac,zat,zbY,hc] at hok
   unfold zcH at hok
   split at hok
   ·simp at hok
   ·rename_i args hargs
    split at hok
    all_goals (first | (rename_i hb; simp at hb; done) | skip)
    all_goals (first | (exact ztC hev hw false rfl hc hargs hok) | (exact zhV hev rfl hc hok) | skip)
 | _=>simp [zhZ] at hq
end Go.Sim

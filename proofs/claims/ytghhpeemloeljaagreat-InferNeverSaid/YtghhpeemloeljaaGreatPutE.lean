/- Oracles on tables whose numbers hang on unknown ones. (The numbers of functions and types are the caller's.) The simulator on the two sums over bytes. (Written by genhsh.py.) Oracles for functions with jumps: from a run of all outcomes. The simulator on one step of the machine at a jump back to itself, and on mach.Run. (Written by genmch.py.) mach.Run at a machine that jumps back to itself, as an oracle: proof. (Written by genmch.py.) The oracles answer rightly, level by level; the whole call. -/
import Derived.Test.YtghhpeemloeljaaGreatPutC
import Derived.Test.YtghhpeemloeljaaGreatMemA
import Derived.Test.YtghhpeemloeljaaGreatQA
import Derived.Test.YtghhpeemloeljaaGreatOrcA
import Derived.Test.YtghhpeemloeljaaGreatMemD
import Derived.Test.YtghhpeemloeljaaGreatDrwB
set_option linter.unusedVariables false
set_option linter.unusedSimpArgs false
set_option linter.unusedSimpArgs false
set_option linter.unusedVariables false
namespace Go.Proofs.YtghhpeemloeljaaGreat
open Go Go.Sim
noncomputable def evZ (κ:Nat) (v:Value):Int:=match v with
 | .int _ n=>n
 | .complex .f64 re im=>(zdy re im).ev κ
 | _=>0
theorem ztT {f:SyF} (h:inZ f=true):f.k=.i64 ∧ -1152921504606846976≤f.lo∧f.hi≤1152921504606846976:=by
 unfold inZ at h
 simp only [Bool.and_eq_true,decide_eq_true_eq] at h
 refine ⟨?_,h.1.2,h.2⟩
 have:=h.1.1
 split at this
 ·assumption
 ·cases this
theorem zdm {κ:Nat} {v:Value} (h:zaO v=true):ph κ v=.int .i64 (evZ κ v):=by
 unfold zaO at h
 split at h
 ·split at h
  ·rfl
  ·cases h
 ·rename_i re im
  show Value.int (zdy re im).k ((zdy re im).ev κ)=_
  rw [(ztT h).1]; rfl
 ·cases h
theorem zjb {κ:Nat} (hb:zbH κ=true) {v:Value} (h:zaO v=true):∃ f,zeX v=some f∧f.k=.i64∧f.ev κ=evZ κ v:=by
 unfold zaO at h
 split at h
 ·split at h
  ·exact ⟨_,rfl,rfl,by simp [SyF.ev,evZ]⟩
  ·cases h
 ·exact ⟨_,rfl,(ztT h).1,rfl⟩
 ·cases h
theorem zvE {κ:Nat} (hb:zbH κ=true) {re im:Nat} (h:zaO (.complex .f64 re im)=true) : -1152921504606846976≤evZ κ (.complex .f64 re im)∧evZ κ (.complex .f64 re im)≤1152921504606846976:=by
 obtain ⟨_,a,b⟩:=ztT (show inZ (zdy re im)=true from h)
 obtain ⟨c,d⟩:=(zdy re im).rng hb
 constructor
 ·show _≤(zdy re im).ev κ; omega
 ·show (zdy re im).ev κ≤_; omega
theorem zhN {κ:Nat} {c:Tr Value} {i:Nat}:fv (c.mapT (ph κ)) i=evZ κ (gv c i):=by
 unfold fv gv
 rw [zfS]
 cases c.get i with
 | none=>rfl
 | some v=>
  cases v with
  | complex k a b=>cases k<;>rfl
  | _=>rfl
theorem zfU {κ:Nat} (hb:zbH κ=true) {a b:Value} {r:Bool} (h:vLt a b=some r) (ha:zaO a=true) (hbb:zaO b=true):r=decide (evZ κ a<evZ κ b):=by
 have F:ltF a b=some r→r=decide (evZ κ a<evZ κ b):=by
  intro h
  obtain ⟨f,f1,f2,f3⟩:=zjb hb ha
  obtain ⟨g,g1,g2,g3⟩:=zjb hb hbb
  unfold ltF at h
  simp only [f1,g1] at h
  rw [zij h hb,f3,g3]
 unfold vLt at h
 split at h
 ·split at h
  ·exact (Option.some.inj h).symm
  ·exact F h
 ·exact F h
theorem ziM {κ:Nat} (hb:zbH κ=true) {v:Value} (h:zaO v=true):zjV v=zbA (evZ κ v):=by
 unfold zaO at h
 split at h
 ·rfl
 ·rename_i re im
  obtain ⟨a,b⟩:=zvE hb (show zaO (.complex .f64 re im)=true from h)
  show false=_
  cases q:evZ κ (.complex .f64 re im) with
  | negSucc=>rfl
  | ofNat n=>
   rw [q] at b
   simp only [Int.ofNat_eq_natCast] at b
   show false=Nat.beq n 2305843009213693952
   cases e:Nat.beq n 2305843009213693952 with
   | false=>rfl
   | true=>have:=Nat.eq_of_beq_eq_true e; omega
 ·cases h
theorem zgQ {n:Int}:zbA n=(n==2305843009213693952):=by
 cases n with
 | ofNat m=>
  show Nat.beq m 2305843009213693952=_
  cases e:Nat.beq m 2305843009213693952 with
  | true=>rw [Nat.eq_of_beq_eq_true e]; rfl
  | false=>
   have:=Nat.ne_of_beq_eq_false e
   symm
   simp only [beq_eq_false_iff_ne,ne_eq,Int.ofNat_eq_natCast]
   omega
 | negSucc=>rfl
theorem zEF {f:SyF} {v:Value} (h:f.val=some v) {κ:Nat} (hb:zbH κ=true) (hk:f.k=.i64) (h1 : -1152921504606846976≤f.lo) (h2:f.hi≤1152921504606846976):zaO v=true∧evZ κ v=f.ev κ:=by
 have hv:=SyF.val_ok h (ρ:=fun _=>some (0,κ)) rfl hb
 unfold SyF.val at h
 cases hf:zhC f.k f.lo f.hi with
 | false=>rw [hf] at h; simp at h
 | true=>
  rw [hf,cond_true] at h
  cases hc:(f.b==0&&f.c==0) with
  | true=>
   rw [hc,cond_true] at h
   obtain rfl:=Option.some.inj h
   have:=hv.1.int_inv
   injection this with e1 e2
   exact ⟨by rw [hk]; rfl,e2.symm⟩
  | false=>
   rw [hc,cond_false] at h
   split at h
   ·rename_i k a b c q1 q2 q3 q4
    simp only [zaD] at h
    have e:=SyF.val_sym q1 q2 q3 q4
    obtain rfl:=Option.some.inj h
    refine ⟨?_,?_⟩
    ·show inZ (zdy _ _)=true
     rw [e]; unfold inZ
     rw [hk,decide_eq_true h1,decide_eq_true h2]; rfl
    ·show (zdy _ _).ev κ=_
     rw [e]
   ·simp at h
theorem zuo {κ:Nat} (hb:zbH κ=true) {a b s:Value} (h:zxm a b=some s) (ha:zaO a=true) (hbb:zaO b=true):zaO s=true∧evZ κ s=zaM (evZ κ a) (evZ κ b):=by
 unfold zxm at h
 rw [ziM hb ha,ziM hb hbb] at h
 cases hn:(zbA (evZ κ a)||zbA (evZ κ b)) with
 | true=>
  rw [hn,cond_true] at h
  obtain rfl:=Option.some.inj h
  refine ⟨rfl,?_⟩
  unfold zaM
  rw [← zgQ,← zgQ,hn]; rfl
 | false=>
  rw [hn,cond_false] at h
  obtain ⟨f,f1,f2,f3⟩:=zjb hb ha
  obtain ⟨g,g1,g2,g3⟩:=zjb hb hbb
  simp only [f1,g1] at h
  cases q:(decide (-1152921504606846976≤SyF.lo ⟨.i64,f.a+g.a,f.b+g.b,f.c+g.c⟩)&&decide (SyF.hi ⟨.i64,f.a+g.a,f.b+g.b,f.c+g.c⟩≤1152921504606846976)) with
  | false=>rw [q] at h; simp at h
  | true=>
   rw [q,cond_true] at h
   simp only [Bool.and_eq_true,decide_eq_true_eq] at q
   obtain ⟨v1,v2⟩:=zEF h hb rfl q.1 q.2
   obtain ⟨r1,r2⟩:=SyF.rng ⟨.i64,f.a+g.a,f.b+g.b,f.c+g.c⟩ hb
   rw [zzG,f3,g3] at v2 r1 r2
   refine ⟨v1,v2.trans ?_⟩
   unfold zaM
   rw [← zgQ,← zgQ,hn,cond_false,zdC,zrv (k:=.i64) (lo:=evZ κ a+evZ κ b) (hi:=evZ κ a+evZ κ b) (by
    show (decide _&&decide _)=true
    rw [decide_eq_true (by omega),decide_eq_true (by omega)]; rfl) (Int.le_refl _) (Int.le_refl _),decide_eq_false (by omega),cond_false,decide_eq_false (by omega),cond_false]
theorem ziE {κ:Nat} (hb:zbH κ=true) {a b s:Value} (h:zlH a b=some s) (ha:zaO a=true) (hbb:zaO b=true):zaO s=true∧evZ κ s=zaM (evZ κ a) (evZ κ b):=by
 unfold zlH at h
 split at h
 ·split at h
  ·rw [zbF] at h
   obtain rfl:=Option.some.inj h
   exact ⟨rfl,rfl⟩
  ·exact zuo hb h ha hbb
 ·exact zuo hb h ha hbb
theorem zEW {κ:Nat} (hb:zbH κ=true) {a b s:Value} (h:zCc a b=some s) (ha:zaO a=true) (hbb:zaO b=true):zaO s=true∧evZ κ s=zie (evZ κ a) (evZ κ b):=by
 unfold zCc at h
 split at h
 ·rename_i q
  obtain rfl:=Option.some.inj h
  refine ⟨hbb,?_⟩
  unfold zie
  rw [show decide (evZ κ b>evZ κ a)=true from (zfU hb q ha hbb).symm]; rfl
 ·rename_i q
  obtain rfl:=Option.some.inj h
  refine ⟨ha,?_⟩
  unfold zie
  rw [show decide (evZ κ b>evZ κ a)=false from (zfU hb q ha hbb).symm]; rfl
 ·cases h
theorem zEY {κ:Nat} (hb:zbH κ=true) {a b s:Value} (h:zAu a b=some s) (ha:zaO a=true) (hbb:zaO b=true):zaO s=true∧evZ κ s=zid (evZ κ a) (evZ κ b):=by
 unfold zAu at h
 split at h
 ·rename_i q
  obtain rfl:=Option.some.inj h
  refine ⟨rfl,?_⟩
  unfold zid
  rw [show decide (evZ κ b>evZ κ a)=true from (zfU hb q ha hbb).symm]; rfl
 ·rename_i q
  obtain rfl:=Option.some.inj h
  refine ⟨ha,?_⟩
  unfold zid
  rw [show decide (evZ κ b>evZ κ a)=false from (zfU hb q ha hbb).symm]; rfl
 ·cases h
/-! ## trees under the map -/
theorem zjr {α β:Type} {f:α→β} {x:Option α}:∀ (p:List Bool) (t:Tr α),(Tr.put' x p t).mapT f=Tr.put' (x.map f) p (t.mapT f)
 | [],.nil=>rfl
 | [],.node l v r=>rfl
 | b::p,.nil=>by
  have:=zjr (f:=f) (x:=x) p .nil
  cases b<;>simp only [pqz,pqn,pqy,pqc,cond_true,cond_false,zav,Tr.mapT,Option.map,this]
 | b::p,.node l v r=>by
  have h1:=zjr (f:=f) (x:=x) p l
  have h2:=zjr (f:=f) (x:=x) p r
  cases b<;>simp only [pqz,pqn,pqy,pqc,cond_true,cond_false,zav,Tr.mapT,h1,h2]
theorem zBW {α β:Type} {f:α→β} {t:Tr α} {k:Nat} {x:Option α}:(t.put k x).mapT f=(t.mapT f).put k (x.map f):=by
 unfold Tr.put
 cases Nat.blt k lim with
 | true=>exact zjr _ t
 | false=>rfl
theorem zrg {α β:Type} {f:α→β}:∀ (l:List α),split (l.map f)=((split l).1.map f,(split l).2.map f)
 | []=>rfl
 | [x]=>rfl
 | x::y::r=>by
  have:=zrg (f:=f) r
  simp only [List.map,split,this]
theorem zqK {α β:Type} {f:α→β}:∀ (g:Nat) (l:List α),Tr.ofL g (l.map f)=(Tr.ofL g l).mapT f
 | 0,l=>rfl
 | g+1,[]=>rfl
 | g+1,[x]=>rfl
 | g+1,x::y::ys=>by
  have hs:=zrg (f:=f) (y::ys)
  have h1:=zqK (f:=f) g (split (y::ys)).1
  have h2:=zqK (f:=f) g (x::(split (y::ys)).2)
  simp only [List.map] at hs h2
  simp only [List.map,Tr.ofL,hs,zav]
  rw [h1]
  cases e:(split (y::ys)).2 with
  | nil=>rfl
  | cons z zs=>
   rw [e] at h2
   simp only [List.map] at h2 ⊢
   rw [h2]; rfl
theorem zkA:∀ (f:Nat) (t:Tr Value) (n:Nat) (c:Bool),zfT f t n c=true→∃ l,t.toL f n=some l∧l.length=n∧∀ x∈(bif c then l else l.tail),zaO x=true
 | 0,t,n,c,h=>by simp [zfT] at h
 | f+1,t,0,c,h=>⟨[],rfl,rfl,fun x hx=>by cases c<;>simp at hx⟩
 | f+1,.nil,m+1,c,h=>by simp [zfT] at h
 | f+1,.node l none r,m+1,c,h=>by simp [zfT] at h
 | f+1,.node l (some x) r,0+1,c,h=>by
  refine ⟨[x],rfl,rfl,fun y hy => ?_⟩
  cases c with
  | false=>simp at hy
  | true=>
   simp only [zfT,cond_true,Bool.and_true] at h
   simp only [cond_true,List.mem_singleton] at hy
   rw [hy]; exact h
 | f+1,.node l (some x) r,1+1,c,h=>by
  simp only [zfT,Bool.and_eq_true,Bool.and_true] at h
  obtain ⟨o,o1,o2,o3⟩:=zkA f l (0/2+1) true h.2
  refine ⟨x::o,by simp only [Tr.toL,o1],by simp [o2],fun y hy => ?_⟩
  cases c with
  | false=>exact o3 y hy
  | true=>
   rcases List.mem_cons.1 hy with rfl | hy
   ·exact h.1
   ·exact o3 y hy
 | f+1,.node l (some x) r,j+1+1+1,c,h=>by
  simp only [zfT,Bool.and_eq_true] at h
  obtain ⟨o,o1,o2,o3⟩:=zkA f l ((j+1)/2+1) true h.2.1
  obtain ⟨e,e1,e2,e3⟩:=zkA f r (j/2+2) false h.2.2
  match e,e2 with
  | z::e,e2=>
   have hl:=(zhk (f+1) (.node l (some x) r) (j+1+1+1) (x::merge o e) (by simp only [Tr.toL,o1,e1])).1
   refine ⟨x::merge o e,by simp only [Tr.toL,o1,e1],hl,fun y hy => ?_⟩
   have rest:y∈merge o e→zaO y=true:=fun hy=>by
    rcases zlC hy with hy | hy
    ·exact o3 y hy
    ·exact e3 y hy
   cases c with
   | false=>exact rest hy
   | true=>
    rcases List.mem_cons.1 hy with rfl | hy
    ·exact h.1
    ·exact rest hy
theorem znR {κ:Nat}:∀ (f:Nat) (t:Tr Value) (n:Nat) (c:Bool),zfT f t n c=true→zet f (t.mapT (ph κ)) n c=true
 | 0,t,n,c,h=>by simp [zfT] at h
 | f+1,t,0,c,h=>by cases t<;>rfl
 | f+1,.nil,m+1,c,h=>by simp [zfT] at h
 | f+1,.node l none r,m+1,c,h=>by simp [zfT] at h
 | f+1,.node l (some x) r,m+1,c,h=>by
  simp only [zfT,Bool.and_eq_true] at h
  simp only [Tr.mapT,Option.map,cqs,Bool.and_eq_true]
  refine ⟨?_,?_⟩
  ·cases c with
   | false=>rfl
   | true=>
    have:=h.1
    rw [cond_true] at this ⊢
    rw [zdm this]; rfl
  ·cases m with
   | zero=>rfl
   | succ k=>
    have h2:=h.2
    simp only [Bool.and_eq_true] at h2 ⊢
    refine ⟨znR f l _ _ h2.1,?_⟩
    cases k with
    | zero=>rfl
    | succ j=>exact znR f r _ _ h2.2
structure RowS (b:Bool) (c:Tr Value) (cs:List Value):Prop where
 row:c.toL 32 3601=some (.bool b::cs)
 len:cs.length=3600
 num:∀ v∈cs,zaO v=true
 zero:c.get 0=some (.bool b)
theorem RowS.at_ {b:Bool} {c:Tr Value} {cs:List Value} (h:RowS b c cs) {k:Nat} (hk:k<3600):cs[k]? = c.get (1+k):=by
 have:=(zcF h.row).2 (1+k) (by omega) (by unfold lim; omega)
 rwa [show 1+k=k+1 by omega,List.getElem?_cons_succ,show k+1=1+k by omega] at this
theorem RowS.cell {b:Bool} {c:Tr Value} {cs:List Value} (h:RowS b c cs) {k:Nat} (hk:k<3600):c.get (1+k)=some (gv c (1+k))∧zaO (gv c (1+k))=true:=by
 have h1:=h.at_ hk
 cases q:c.get (1+k) with
 | none=>rw [q,List.getElem?_eq_none_iff] at h1; have:=h.len; omega
 | some v=>
  have e:gv c (1+k)=v:=by unfold gv; rw [q]
  rw [e]
  exact ⟨rfl,h.num v (List.mem_of_getElem? (h1.trans q))⟩
theorem zul {b:Bool} {l r:Tr Value} (h:zfT 32 (.node l (some (.bool b)) r) 3601 false=true):∃ cs,RowS b (.node l (some (.bool b)) r) cs:=by
 obtain ⟨L,h1,h2,h3⟩:=zkA _ _ _ _ h
 obtain ⟨_,g⟩:=zcF h1
 have g0:=g 0 (by omega) (by unfold lim; omega)
 match L,h2 with
 | x::cs,h2=>
  have g0:some x=(Tr.node l (some (Value.bool b)) r).get 0:=g0
  have e0:(Tr.node l (some (Value.bool b)) r).get 0=some (.bool b):=rfl
  rw [e0] at g0
  obtain rfl:=Option.some.inj g0
  exact ⟨cs,h1,by simpa using h2,h3,rfl⟩
theorem zko {κ:Nat} {c:Tr Value} (h:zif c=true):(∃ cs,RowS false c cs)∧zfG (c.mapT (ph κ))=true:=by
 unfold zif at h
 split at h
 ·cases h
 ·rename_i l v r
  split at h
  ·refine ⟨zul h,?_⟩
   have:=znR (κ:=κ) 32 _ _ _ h
   exact this
  ·cases h
theorem zAh {c:Tr Value} (h:zrU c=true):∃ b cs,RowS b c cs:=by
 unfold zrU at h
 split at h
 ·cases h
 ·rename_i l v r
  split at h
  ·rename_i b; exact ⟨b,zul h⟩
  ·cases h
theorem ziy {κ:Nat} {l:List Value} (h:∀ v∈l,zaO v=true):zbu (l.map (ph κ))=true:=zjo fun x hx=>by
 obtain ⟨v,hv,rfl⟩:=List.mem_map.1 hx
 rw [zdm (h v hv)]; rfl
theorem zpi {κ:Nat} {h:SHeap} {b n e:Nat} {r:Tr Value} {op ro:Bool}:∀ q o,(h.t.put b (some (.cells r n e op ro))).get q=some o→∃ o2,((phH κ h).t.put b (some (.cells (r.mapT (ph κ)) n e op ro))).get q=some o2∧OL κ o2 o:=by
 intro q o hq
 rw [zaa] at hq
 by_cases w:q=b∧b<lim
 ·rw [if_pos w] at hq
  obtain rfl:=(Option.some.inj hq).symm
  exact ⟨phO κ (.cells r n e op ro),by rw [zaa,if_pos w]; rfl,OL.refl κ _⟩
 ·rw [if_neg w] at hq
  exact ⟨_,by rw [zaa,if_neg w]; exact zoz hq,OL.refl κ o⟩
theorem ziD {κ:Nat} {h:SHeap}:∀ q o,h.t.get q=some o→∃ o2,(phH κ h).t.get q=some o2∧OL κ o2 o:=fun q o hq=>⟨_,zoz hq,OL.refl κ o⟩
theorem znQ {κ:Nat} {r:Tr Value} {k:Nat} {x:Value} (h:zaO x=true):(zud r k x).mapT (ph κ)=zjK (r.mapT (ph κ)) k (evZ κ x):=by
 unfold zud zjK
 rw [zeF,zbF,zBW]
 simp only [Option.map,zdm h]
theorem zqy {κ:Nat} {v:Value} (h:zaO v=true):phV κ v=.int .i64 (evZ κ v):=by
 rw [← zdm h]
 unfold phV
 split
 ·simp [zaO] at h
 ·simp [zaO] at h
 ·rfl
theorem zAm {E:Env} {f:FuncId} (hG:0<E.G) (hQ:zaz E f sumQ):zaz E f sumVS:=zfI hG hQ fun κ hb args h v h' hlow hcell hok=>by
 unfold sumVS at hok
 split at hok
 ·rename_i a b
  cases e3:(zaO a&&zaO b) with
  | false=>rw [e3] at hok; simp at hok
  | true=>
   rw [e3,cond_true] at hok
   rw [Bool.and_eq_true] at e3
   split at hok
   ·rename_i s hs
    obtain ⟨rfl,rfl⟩:=zaq hok
    obtain ⟨s1,s2⟩:=ziE hb hs e3.1 e3.2
    refine ⟨phH κ h,?_,rfl,fun q o hq=>ziD q o hq⟩
    show sumQ [phV κ a,phV κ b] (phH κ h)=_
    rw [zqy e3.1,zqy e3.2,zqy s1,s2]
    rfl
   ·simp at hok
 ·simp at hok
/-! ## Bound -/
theorem zxZ {E:Env} {f:FuncId} (hG:0<E.G) (hQ:zaz E f boundQ):zaz E f boundS:=zfI hG hQ fun κ hb args h v h' hlow hcell hok=>by
 unfold boundS at hok
 split at hok
 ·rename_i b x y
  unfold zHn at hok
  split at hok
  ·rename_i c n e op ro hz
   cases e3:(Nat.beq n 3601&&Nat.blt x 60&&Nat.blt y 60&&Nat.blt h.next lim) with
   | false=>rw [e3] at hok; simp at hok
   | true=>
   rw [e3,cond_true] at hok
   split at hok
   ·rename_i h0
    split at hok
    ·rename_i u hu
     cases hn:zaO u with
     | false=>rw [hn] at hok; simp at hok
     | true=>
     rw [hn,cond_true] at hok
     obtain ⟨rfl,rfl⟩:=zaq hok
     refine ⟨⟨(phH κ h).t,(phH κ h).next+1⟩,?_,rfl,fun q o hq=>ziD q o hq⟩
     show zxM (phH κ h) x y ((phH κ h).t.get b)=_
     rw [zdO hz]
     unfold zxM
     simp only
     rw [show (Nat.beq n 3601&&Nat.blt x 60&&Nat.blt y 60&&Nat.blt (phH κ h).next lim)=true from e3,cond_true,zfS,h0]
     simp only [Option.map]
     rw [show ph κ (.bool false)=.bool false from rfl]
     simp only
     rw [zfS,hu]
     simp only [Option.map]
     rw [zdm hn]
     simp only
     unfold znT
     rw [ziM hb hn]
     cases zbA (evZ κ u) with
     | true=>rfl
     | false=>
      simp only [cond_false]
      show _=Except.ok (phV κ (.agg #[.bool true,u]),_)
      unfold phV
      simp only [List.map,zdm hn]
      rfl
    ·simp at hok
   ·simp at hok
  ·simp at hok
 ·simp at hok
/-! ## Join,Widen -/
theorem zCo {κ:Nat} {F:Int→Int→Int} {G:Value→Value→Option Value} (hFG:∀ a b s,G a b=some s→zaO a=true→zaO b=true→zaO s=true∧evZ κ s=F (evZ κ a) (evZ κ b)) {a b r:Option Value} (h:zAn G a b=some r) :
  zgA F (a.map (ph κ)) (b.map (ph κ))=r.map (ph κ):=by
 have keep:∀ {x:Value} {y:Option Value},zaO x=false→zey x=false→zgA F ((some x).map (ph κ)) y=(some x).map (ph κ):=by
  intro x y h1 h2
  have e:ph κ x=x:=by
   unfold ph
   split
   ·simp [zey] at h2
   ·rfl
  simp only [Option.map,e]
  unfold zgA
  split
  ·rename_i q
   obtain rfl:=Option.some.inj q
   simp [zaO] at h1
  ·rfl
 unfold zAn at h
 split at h
 ·rename_i x
  cases hx:zaO x with
  | false=>
   rw [hx,cond_false] at h
   cases hs:zey x with
   | true=>rw [hs] at h; simp at h
   | false=>
    rw [hs,cond_false] at h
    obtain rfl:=Option.some.inj h
    exact keep hx hs
  | true=>
   rw [hx,cond_true] at h
   split at h
   ·rename_i y
    cases hy:zaO y with
    | true=>
     rw [hy,cond_true] at h
     split at h
     ·rename_i z hz
      rw [zeF] at h
      obtain rfl:=Option.some.inj h
      obtain ⟨g1,g2⟩:=hFG x y z hz hx hy
      simp only [Option.map,zdm hx,zdm hy,zdm g1,g2]
      unfold zgA
      simp only [zbF]
     ·cases h
    | false=>
     rw [hy,cond_false] at h
     cases hs:zey y with
     | true=>rw [hs] at h; simp at h
     | false=>
      rw [hs,cond_false] at h
      obtain rfl:=Option.some.inj h
      have e:ph κ y=y:=by
       unfold ph
       split
       ·simp [zey] at hs
       ·rfl
      simp only [Option.map,e,zdm hx]
      unfold zgA
      simp only
      split
      ·rename_i q
       obtain rfl:=Option.some.inj q
       simp [zaO] at hy
      ·rfl
   ·obtain rfl:=Option.some.inj h
    simp only [Option.map,zdm hx]
    rfl
 ·obtain rfl:=Option.some.inj h
  rfl
theorem znZ {κ:Nat} {F:Int→Int→Int} {G:Value→Value→Option Value} (hFG:∀ a b s,G a b=some s→zaO a=true→zaO b=true→zaO s=true∧evZ κ s=F (evZ κ a) (evZ κ b)):∀ (a b r:Tr Value),ztn G a b=some r →
  zeH F (a.mapT (ph κ)) (b.mapT (ph κ))=r.mapT (ph κ)
 | .nil,b,r,h=>by obtain rfl:=Option.some.inj h; cases b<;>rfl
 | .node l v t,.nil,r,h=>by obtain rfl:=Option.some.inj h; rfl
 | .node l v t,.node l' v' t',r,h=>by
  unfold ztn at h
  split at h
  ·cases h
  ·rename_i a ha
   split at h
   ·cases h
   ·rename_i b hb
    split at h
    ·cases h
    ·rename_i x hx
     obtain rfl:=Option.some.inj h
     have h1:=znZ hFG l l' a ha
     have h2:=znZ hFG t t' b hb
     have h3:=zCo hFG hx
     simp only [Tr.mapT,zeH,zav,h1,h2,h3]
     cases x<;>rfl
theorem zvA {E:Env} {f:FuncId} {zt:Nat} {F:Int→Int→Int} {G:Value→Value→Option Value} (hG:0<E.G) (hFG:∀ κ,zbH κ=true→∀ a b s,G a b=some s→zaO a=true→zaO b=true→zaO s=true∧evZ κ s=F (evZ κ a) (evZ κ b))
  (hQ:zaz E f (zoh F zt)):zaz E f (zxH G zt):=zfI hG hQ fun κ hb args h v h' hlow hcell hok=>by
 unfold zxH at hok
 split at hok
 ·rename_i z o
  split at hok
  ·rename_i c n e hz
   split at hok
   ·rename_i c2 n2 e2 ho
    cases e3:(zif c&&zif c2&&Nat.beq n 3601&&Nat.beq e zt&&Nat.beq n2 3601&&Nat.beq e2 zt&&Nat.ble (h.next+1) lim) with
    | false=>rw [e3] at hok; simp at hok
    | true=>
    rw [e3,cond_true] at hok
    split at hok
    ·rename_i r hr
     obtain ⟨rfl,rfl⟩:=zaq hok
     simp only [Bool.and_eq_true] at e3
     obtain ⟨⟨⟨⟨⟨⟨f1,f2⟩,f3⟩,f4⟩,f5⟩,f6⟩,f7⟩:=e3
     refine ⟨⟨(phH κ h).t.put h.next (some (.cells (r.mapT (ph κ)) 3601 zt false false)),h.next+1⟩,?_,rfl,zpi⟩
     show zoh F zt [.pointer (some ⟨z,0,none⟩),.pointer (some ⟨o,0,none⟩)] (phH κ h)=_
     unfold zoh
     simp only
     rw [zdO hz]
     simp only
     rw [zdO ho]
     simp only
     rw [show (zfG (c.mapT (ph κ))&&zfG (c2.mapT (ph κ))&&Nat.beq n 3601&&Nat.beq e zt&&Nat.beq n2 3601&&Nat.beq e2 zt&&Nat.ble ((phH κ h).next+1) lim)=true by
      simp only [(zko (κ:=κ) f1).2,(zko (κ:=κ) f2).2,f3,f4,f5,f6,Bool.true_and]; exact f7,cond_true,zav,znZ (hFG κ hb) _ _ _ hr]
     rfl
    ·simp at hok
   ·simp at hok
  ·simp at hok
 ·simp at hok
/-! ## Within -/
theorem zjh:∀ {l:List Value},zkQ l=true→∀ v∈l,zaO v=true
 | [],_,v,hv=>by simp at hv
 | a::r,h,v,hv=>by
  unfold zkQ at h
  cases e:zaO a with
  | false=>rw [e] at h; cases h
  | true=>
   rw [e,cond_true] at h
   rcases List.mem_cons.1 hv with rfl | hv
   ·exact e
   ·exact zjh h v hv
theorem zte {κ:Nat} (hb:zbH κ=true):∀ {l m:List Value} {b:Bool},zqr l m=some b→(∀ v∈l,zaO v=true)→(∀ v∈m,zaO v=true)→zcu (l.map (ph κ)) (m.map (ph κ))=b
 | [],m,b,h,_,_=>by unfold zqr at h; obtain rfl:=Option.some.inj h; rfl
 | a::l,[],b,h,_,_=>by unfold zqr at h; obtain rfl:=Option.some.inj h; rfl
 | a::l,c::m,b,h,h1,h2=>by
  have ha:=h1 a (by simp)
  have hc:=h2 c (by simp)
  unfold zqr at h
  simp only at h
  simp only [List.map,zdm ha,zdm hc]
  unfold zcu
  simp only
  split at h
  ·rename_i q
   obtain rfl:=Option.some.inj h
   have:=zfU hb q hc ha
   have:=of_decide_eq_true this.symm
   rw [decide_eq_false (by omega)]; rfl
  ·rename_i q
   have:=of_decide_eq_false (zfU hb q hc ha).symm
   rw [decide_eq_true (by omega),cond_true]
   exact zte hb h (fun v hv=>h1 v (by simp [hv])) fun v hv=>h2 v (by simp [hv])
  ·cases h
theorem zwS {E:Env} {f:FuncId} (hG:0<E.G) (hQ:zaz E f withinQ):zaz E f withinS:=zfI hG hQ fun κ hb args h v h' hlow hcell hok=>by
 unfold withinS at hok
 split at hok
 ·rename_i b d
  unfold zuD at hok
  split at hok
  ·rename_i c n e op ro hz
   split at hok
   ·rename_i c' n' e' op' ro' hz'
    cases e3:(Nat.beq n 3601&&Nat.beq n' 3601&&Nat.ble h.next lim) with
    | false=>rw [e3] at hok; simp at hok
    | true=>
    rw [e3,cond_true] at hok
    unfold zsx at hok
    split at hok
    ·rename_i x l hl
     split at hok
     ·rename_i y l' hl'
      cases e4:(zkQ l&&zkQ l') with
      | false=>rw [e4] at hok; simp at hok
      | true=>
      rw [e4,cond_true] at hok
      rw [Bool.and_eq_true] at e4
      split at hok
      ·rename_i r hr
       obtain ⟨rfl,rfl⟩:=zaq hok
       refine ⟨phH κ h,?_,rfl,fun q o hq=>ziD q o hq⟩
       show znh (phH κ h) ((phH κ h).t.get b) ((phH κ h).t.get d)=_
       rw [zdO hz,zdO hz']
       unfold znh
       simp only
       rw [show (Nat.beq n 3601&&Nat.beq n' 3601&&Nat.ble (phH κ h).next lim)=true from e3,cond_true,zgI 32 c 3601 _ hl,zgI 32 c' 3601 _ hl']
       unfold zqP
       simp only [List.map]
       rw [show ph κ (.bool x)=.bool x from rfl,show ph κ (.bool y)=.bool y from rfl]
       simp only [ziy (κ:=κ) (zjh e4.1),ziy (κ:=κ) (zjh e4.2),Bool.and_self,cond_true,zte hb hr (zjh e4.1) (zjh e4.2)]
       rfl
      ·simp at hok
     ·simp at hok
    ·simp at hok
   ·simp at hok
  ·simp at hok
 ·simp at hok
/-! ## Forget -/
theorem zrJ {κ:Nat}:∀ {l:List Value} {xs:List Int},zit l=some xs→zit (l.map (ph κ))=some xs
 | [],xs,h=>h
 | v::r,xs,h=>by
  unfold zit at h
  split at h
  ·split at h
   ·rename_i l hl
    obtain rfl:=Option.some.inj h
    simp only [List.map]
    rw [show ph κ (.int .i64 _)=.int .i64 _ from rfl]
    unfold zit
    simp only [zrJ hl]
   ·cases h
  ·cases h
theorem zhx {α β:Type} {f:α→β} {t:Tr α}:∀ (n i:Nat) (l:List α),t.toListFrom i n=some l→(t.mapT f).toListFrom i n=some (l.map f)
 | 0,i,l,h=>by obtain rfl:=Option.some.inj h; rfl
 | n+1,i,l,h=>by
  unfold Tr.toListFrom at h
  split at h
  ·cases h
  ·rename_i x hx
   rw [zaD] at h
   split at h
   ·cases h
   ·rename_i xs hxs
    obtain rfl:=Option.some.inj h
    unfold Tr.toListFrom
    rw [zfS,hx]
    simp only [Option.map,zaD,zhx n (i+1) xs hxs,List.map]
theorem zys {κ:Nat} {sv:Value} {h:SHeap} {xs:List Int} (e:zhy sv h=some xs):zhy (phV κ sv) (phH κ h)=some xs∧phV κ sv=sv:=by
 unfold zhy at e
 split at e
 ·exact ⟨e,rfl⟩
 ·rename_i s o l _
  split at e
  ·rename_i c n el op ro hc
   split at e
   ·rename_i vs hvs
    refine ⟨?_,rfl⟩
    show zhy (.slice (some ⟨s,o,none⟩) l _) (phH κ h)=_
    unfold zhy
    simp only
    rw [zdO hc]
    simp only
    rw [zhx l o vs hvs]
    exact zrJ e
   ·cases e
  ·cases e
 ·cases e
theorem zFa {E:Env} {f:FuncId} {zt:Nat} (hG:0<E.G) (hQ:zaz E f (znI zt)):zaz E f (zCy zt):=zfI hG hQ fun κ hb args h v h' hlow hcell hok=>by
 unfold zCy at hok
 split at hok
 ·rename_i z sv
  split at hok
  ·rename_i c n e hz
   split at hok
   ·rename_i xs hxs
    cases e3:(zif c&&Nat.beq n 3601&&Nat.beq e zt&&Nat.ble (h.next+1) lim&&Nat.blt (zlb sv) 1000) with
    | false=>rw [e3] at hok; simp at hok
    | true=>
    rw [e3,cond_true,zav] at hok
    simp only [Bool.and_eq_true] at e3
    obtain ⟨⟨⟨⟨f1,f2⟩,f3⟩,f4⟩,f5⟩:=e3
    obtain ⟨⟨cs,hcs⟩,_⟩:=zko (κ:=κ) f1
    obtain rfl:=Nat.eq_of_beq_eq_true f2
    obtain ⟨rfl,rfl⟩:=zaq hok
    obtain ⟨x1,x2⟩:=zys (κ:=κ) hxs
    refine ⟨⟨(phH κ h).t.put h.next (some (.cells (Tr.ofL 33 (Value.bool false::zjI (zcO xs) 0 (cs.map (ph κ)))) 3601 zt false false)),h.next+1⟩,?_,rfl,?_⟩
    ·show znI zt [.pointer (some ⟨z,0,none⟩),phV κ sv] (phH κ h)=_
     unfold znI
     simp only
     rw [zdO hz]
     simp only [zgI 32 c 3601 _ hcs.row,List.map]
     rw [show ph κ (.bool false)=.bool false from rfl]
     simp only [x1]
     rw [x2,show (zbu (cs.map (ph κ))&&Nat.beq 3601 3601&&Nat.beq e zt&&Nat.ble ((phH κ h).next+1) lim&&Nat.blt (zlb sv) 1000)=true by
      simp only [ziy (κ:=κ) hcs.num,f3,f5,Bool.true_and,Bool.and_true]; exact f4,cond_true,zav]
     rfl
    ·intro q o hq
     rw [zaa] at hq
     by_cases w:q=h.next∧h.next<lim
     ·rw [if_pos w] at hq
      obtain rfl:=(Option.some.inj hq).symm
      refine ⟨_,by rw [zaa,if_pos w],_,rfl,fun i v hi => ?_⟩
      have hlt:∀ m,3601≤m→(zhf (zcO xs) (zcB true 0 1 c) c).get m=c.get m:=fun m hm=>(zgF _ _).far m hm
      have hz0:(zhf (zcO xs) (zcB true 0 1 c) c).get 0=c.get 0:=(zgF _ _).zero
      rcases Nat.lt_or_ge i 3601 with w | w
      ·cases i with
       | zero=>
        rw [hz0,hcs.zero] at hi
        obtain rfl:=Option.some.inj hi
        exact ziw
       | succ k=>
        have hk:k<3600:=by omega
        rw [show k+1=1+k by omega,zgy hk _ _] at hi
        obtain ⟨c1,c2⟩:=hcs.cell hk
        have hcell2:(cs.map (ph κ))[k]? = some (.int .i64 (evZ κ (gv c (1+k)))):=by
         rw [List.getElem?_map,hcs.at_ hk,c1]; simp only [Option.map,zdm c2]
        rw [zbv (by unfold lim; omega),List.getElem?_cons_succ,zlm hcell2,Nat.zero_add]
        unfold zqt
        have inl:¬ (1+k)∈zcB true 0 1 c→gv c (1+k)=.int .i64 2305843009213693952:=fun w=>by
         have hn:zcW (c.get (1+k))=false:=by
          cases q:zcW (c.get (1+k)) with
          | false=>rfl
          | true=>exact absurd (zmH (by unfold lim; omega) q) w
         rw [c1] at hn
         generalize gv c (1+k)=u at hn c2
         unfold zaO at c2
         split at c2
         ·split at c2
          ·rename_i x _
           unfold zcW at hn
           simp only at hn
           cases q:zbA x with
           | false=>rw [q] at hn; cases hn
           | true=>
            rw [zgQ] at q
            rw [eq_of_beq q]
          ·cases c2
         ·simp [zcW] at hn
         ·cases c2
        have plain:c.get (1+k)=some v→some (Value.int .i64 (evZ κ (gv c (1+k))))=some (ph κ v):=fun q=>by
         rw [c1] at q
         obtain rfl:=Option.some.inj q
         rw [zdm c2]
        by_cases a:k/60=k%60
        ·rw [zfF a,cond_true]
         rw [if_neg (fun w=>(zhv.1 w.2).1 a)] at hi
         exact plain hi
        ·rw [zfq a,cond_false]
         have hit:(k/60∈zcO xs∨k%60∈zcO xs)→v=.int .i64 2305843009213693952:=fun w=>by
          by_cases m:(1+k)∈zcB true 0 1 c
          ·rw [if_pos ⟨m,zhv.2 ⟨a,w⟩⟩] at hi; exact (Option.some.inj hi).symm
          ·rw [if_neg (fun w=>m w.1),c1,inl m] at hi; exact (Option.some.inj hi).symm
         cases e1:zgz (k/60) (zcO xs) with
         | true=>rw [cond_true,hit (.inl (zda.1 e1))]; rfl
         | false=>
          rw [cond_false]
          cases e2:zgz (k%60) (zcO xs) with
          | true=>rw [cond_true,hit (.inr (zda.1 e2))]; rfl
          | false=>
           rw [cond_false]
           rw [if_neg (fun w=>by
            rcases (zhv.1 w.2).2 with w | w
            ·rw [zda.2 w] at e1; cases e1
            ·rw [zda.2 w] at e2; cases e2)] at hi
           exact plain hi
      ·rw [hlt i w] at hi
       have:=hcell _ _ _ _ _ _ hz i v hi
       omega
     ·rw [if_neg w] at hq
      exact ⟨_,by rw [zaa,if_neg w]; exact zoz hq,OL.refl κ o⟩
   ·simp at hok
  ·simp at hok
 ·simp at hok
/-! ## Cons -/
theorem zuB {k:Nat} {v:Value} (h:zcW (some v)=false):zih k v=[]:=by
 unfold zih
 split
 ·rename_i x
  cases Nat.beq (k/60) (k%60) with
  | true=>rfl
  | false=>
   unfold zcW at h
   simp only at h
   cases q:zbA x with
   | true=>rfl
   | false=>rw [q] at h; cases h
 ·simp [zcW] at h
 ·rfl
noncomputable def zgP:Nat→List Value→List Value
 | _,[]=>[]
 | k,v::r=>zih k v++zci (k+1) fun k=>zgP k r
theorem ztZ {c:Tr Value} (hc:∀ i v,c.get i=some v→i<3601):∀ {l:List Nat},(∀ m∈l,3601≤m)→zje c l=[]
 | [],_=>rfl
 | 0::l,h=>by have:=h 0 (by simp); omega
 | (k+1)::l,h=>by
  have hn:c.get (k+1)=none:=by
   cases q:c.get (k+1) with
   | none=>rfl
   | some v=>have:=hc _ v q; have:=h (k+1) (by simp); omega
  simp only [zje,hn]
  exact ztZ hc fun m hm=>h m (by simp [hm])
theorem zvs {c:Tr Value} (hc:∀ i v,c.get i=some v→i<3601):∀ (cs:List Value) (k:Nat) (l:List Nat),k+cs.length=3600→(∀ i,i<cs.length→c.get (1+(k+i))=cs[i]?)→zee (k+1) l=true →
  (∀ i,k≤i→i<3600→zcW (c.get (1+i))=true→1+i∈l)→zje c l=zgP k cs
 | [],k,l,hk,_,hl,_=>by
  have hk:k=3600:=by simpa using hk
  exact ztZ hc fun m hm=>by have:=zeS hl m hm; omega
 | v::cs,k,l,hk,hcs,hl,hin=>by
  simp only [List.length_cons] at hk
  have h0:c.get (1+k)=some v:=by have:=hcs 0 (by simp); simpa using this
  have hcs':∀ i,i<cs.length→c.get (1+(k+1+i))=cs[i]? := fun i hi=>by
   have:=hcs (i+1) (by simp; omega)
   rw [List.getElem?_cons_succ] at this
   rw [← this,show k+1+i=k+(i+1) by omega]
  have drop:∀ l,zee (k+1+1) l=true→(∀ i,k+1≤i→i<3600→zcW (c.get (1+i))=true→1+i∈l)→zje c l=zgP (k+1) cs:=fun l a b=>zvs hc cs (k+1) l (by omega) hcs' a b
  simp only [zgP,zaD]
  match l,hl with
  | [],hl=>
   have e:zih k v=[]:=by
    have hn:zcW (some v)=false:=by
     cases q:zcW (some v) with
     | false=>rfl
     | true=>have:=hin k (Nat.le_refl _) (by omega) (by rw [h0]; exact q); simp at this
    exact zuB hn
   rw [e,List.nil_append]
   exact drop [] rfl fun i a b d=>by have:=hin i (by omega) b d; simp at this
  | m::l,hl=>
   by_cases hm:m=k+1
   ·subst hm
    simp only [zje]
    rw [show k+1=1+k by omega,h0]
    simp only
    congr 1
    rw [show 1+k=k+1 by omega]
    unfold zee at hl
    rw [Nat.ble_eq_true_of_le (Nat.le_refl _),cond_true] at hl
    refine drop l hl fun i a b d => ?_
    have:=hin i (by omega) b d
    exact (List.mem_cons.1 this).resolve_left (by omega)
   ·have ge:=zeS hl
    have e:zih k v=[]:=by
     have hn:zcW (some v)=false:=by
      cases q:zcW (some v) with
      | false=>rfl
      | true=>
       have w:=hin k (Nat.le_refl _) (by omega) (by rw [h0]; exact q)
       rcases List.mem_cons.1 w with w | w
       ·omega
       ·unfold zee at hl
        cases e:Nat.ble (k+1) m with
        | false=>rw [e] at hl; cases hl
        | true=>
         rw [e,cond_true] at hl
         have:=zeS hl _ w
         have:=Nat.le_of_ble_eq_true e
         omega
     exact zuB hn
    rw [e,List.nil_append]
    refine drop (m::l) (zrt hl fun q hq => ?_) fun i a b d=>hin i (by omega) b d
    rcases List.mem_cons.1 hq with rfl | hq
    ·have:=ge q (by simp); omega
    ·unfold zee at hl
     cases e:Nat.ble (k+1) m with
     | false=>rw [e] at hl; cases hl
     | true=>
      rw [e,cond_true] at hl
      have:=zeS hl _ hq
      have:=Nat.le_of_ble_eq_true e
      omega
theorem zyB {κ:Nat} (hb:zbH κ=true) {k:Nat} {v:Value} (h:zaO v=true):zfx k (ph κ v)=(zih k v).map (ph κ):=by
 have hn:=ziM hb h
 rw [zdm h]
 unfold zfx
 simp only
 unfold zaO at h
 split at h
 ·split at h
  ·rename_i x _
   unfold zih
   simp only
   show (bif Nat.beq (k/60) (k%60) then [] else bif zbA x then [] else _)=_
   cases Nat.beq (k/60) (k%60) with
   | true=>rfl
   | false=>cases zbA x<;>rfl
  ·cases h
 ·rename_i re im
  rw [← hn]
  unfold zih
  simp only
  cases Nat.beq (k/60) (k%60) with
  | true=>rfl
  | false=>
   show [_,_,_]=[_,_,_]
   rw [zdm (show zaO (.complex .f64 re im)=true from h)]
   rfl
 ·cases h
theorem zpr {κ:Nat} (hb:zbH κ=true):∀ (cs:List Value) (k:Nat),(∀ v∈cs,zaO v=true)→zdh k (cs.map (ph κ))=(zgP k cs).map (ph κ)
 | [],k,_=>rfl
 | v::r,k,h=>by
  simp only [List.map,zdh,zgP,zaD,List.map_append]
  rw [zyB hb (h v (by simp)),zpr hb r (k+1) fun x hx=>h x (by simp [hx])]
theorem zzQ {E:Env} {f:FuncId} (hG:0<E.G) (hQ:zaz E f consQ):zaz E f consS:=zfI hG hQ fun κ hb args h v h' hlow hcell hok=>by
 unfold consS at hok
 split at hok
 ·rename_i b
  unfold zzj at hok
  split at hok
  ·rename_i c n e hz
   cases e3:(zrU c&&Nat.beq n 3601&&Nat.ble (h.next+8000) lim&&Nat.blt b h.next&&zee 0 (zdT (zcB true 0 1 c))) with
   | false=>rw [e3] at hok; simp at hok
   | true=>
   rw [e3,cond_true] at hok
   simp only [Bool.and_eq_true] at e3
   obtain ⟨⟨⟨⟨f1,f2⟩,f3⟩,f4⟩,f5⟩:=e3
   obtain ⟨b0,cs,hcs⟩:=zAh f1
   obtain rfl:=Nat.eq_of_beq_eq_true f2
   have hget:∀ i,i<cs.length→c.get (1+(0+i))=cs[i]? := fun i hi=>by
    rw [Nat.zero_add,hcs.at_ (by have:=hcs.len; omega)]
   have hmem:∀ i,i<lim→zcW (c.get i)=true→i∈zdT (zcB true 0 1 c):=fun i hi hn=>zmw.2 (zmH hi hn)
   have h0:0∈zdT (zcB true 0 1 c):=hmem 0 (by unfold lim; omega) (by rw [hcs.zero]; rfl)
   have hO:zje c (zdT (zcB true 0 1 c))=zgP 0 cs:=by
    generalize zdT (zcB true 0 1 c)=l at f5 h0 hmem
    match l,h0 with
    | m::l,h0=>
     have hm:m=0:=by
      unfold zee at f5
      cases e:Nat.ble 0 m with
      | false=>rw [e] at f5; cases f5
      | true=>
       rw [e,cond_true] at f5
       rcases List.mem_cons.1 h0 with w | w
       ·exact w.symm
       ·have:=zeS f5 0 w; omega
     subst hm
     unfold zee at f5
     rw [Nat.ble_eq_true_of_le (Nat.le_refl _),cond_true] at f5
     refine zvs (hcell _ _ _ _ _ _ hz) cs 0 l (by have:=hcs.len; omega) hget f5 fun i _ hi hn => ?_
     have:=hmem (1+i) (by unfold lim; omega) hn
     exact (List.mem_cons.1 this).resolve_left (by omega)
   rw [hO] at hok
   suffices hs:(∃ h2,zlf (phH κ h) ((zgP 0 cs).map (ph κ)) (((zgP 0 cs).map (ph κ)).length/3)=.ok (phV κ v,h2)∧h2.next=h'.next∧∀ b o,h'.t.get b=some o→∃ o2,h2.t.get b=some o2∧OL κ o2 o) by
    obtain ⟨h2,a1,a2⟩:=hs
    refine ⟨h2,?_,a2⟩
    show consQ [.pointer (some ⟨b,0,none⟩)] (phH κ h)=_
    unfold consQ zse
    simp only
    rw [zdO hz]
    simp only
    rw [show (Nat.beq 3601 3601&&Nat.ble ((phH κ h).next+8000) lim&&Nat.blt b (phH κ h).next)=true by
     show (Nat.beq 3601 3601&&Nat.ble (h.next+8000) lim&&Nat.blt b h.next)=true
     simp only [f3,f4]; rfl,cond_true,zgI 32 c 3601 _ hcs.row]
    unfold zsc
    simp only [List.map]
    simp only [ziy (κ:=κ) hcs.num,cond_true]
    rw [zpr hb cs 0 hcs.num]
    exact a1
   unfold zlf at hok
   split at hok
   ·rename_i e
    obtain ⟨rfl,rfl⟩:=zaq hok
    rw [e]
    exact ⟨phH κ h,rfl,rfl,fun q o hq=>ziD q o hq⟩
   ·rename_i a l e
    obtain ⟨rfl,rfl⟩:=zaq hok
    rw [e]
    refine ⟨⟨(phH κ h).t.put (h.next+2*((a::l).length/3)-1) (some (.cells (Tr.ofL 33 ((a::l).map (ph κ))) ((a::l).length/3*3) 230 true false)),h.next+2*((a::l).length/3)⟩,?_,rfl,?_⟩
    ·rw [List.length_map]
     rfl
    ·intro q o hq
     have:=zpi (κ:=κ) (h:=h) q o hq
     rw [← zqK] at this
     exact this
  ·simp at hok
 ·simp at hok
/-! ## Assign -/
theorem zDB {κ:Nat} (hb:zbH κ=true) {v s:Value} (h:zAT v=some s) (hv:zaO v=true) (hs:zaO s=true):evZ κ s=zaK .i64 (0-evZ κ v):=by
 unfold zAT at h
 split at h
 ·rw [zbF] at h
  obtain rfl:=Option.some.inj h
  rfl
 ·obtain ⟨f,f1,f2,f3⟩:=zjb hb hv
  simp only [f1] at h
  have hv:=SyF.val_ok h (ρ:=fun _=>some (0,κ)) rfl hb
  have e:SyF.ev ⟨.i64,0-f.a,0-f.b,0-f.c⟩ κ=0-f.ev κ:=by
   unfold SyF.ev
   simp only [Int.zero_sub,Int.neg_mul]
   omega
  rw [e,f3] at hv
  rw [zdC,show IntKind.i64.wrap (0-evZ κ v)=0-evZ κ v from hv.2]
  have:=zrX (ρ:=fun _=>some (0,κ)) (κ:=κ) rfl hv.1
  rw [zdm hs] at this
  have:=this.int_inv
  injection this with _ e2
  exact e2.symm
theorem zEM {κ:Nat} (hb:zbH κ=true) {v:Value} (h:zxo v=true):zaO v=true∧inB (evZ κ v)=true:=by
 unfold zxo at h
 split at h
 ·split at h
  ·exact ⟨rfl,h⟩
  ·cases h
 ·rename_i hn
  refine ⟨h,?_⟩
  cases v with
  | complex k re im=>cases k with
   | f64=>
    obtain ⟨a,b⟩:=zvE hb h
    unfold inB
    rw [decide_eq_true a,decide_eq_true b]; rfl
   | f32=>simp [zaO] at h
  | int k n=>exact absurd rfl (hn k n)
  | _=>simp [zaO] at h
theorem zlJ {κ:Nat} (hb:zbH κ=true) {c:Tr Value} {x y:Nat} {v nv:Value} (hv:zaO v=true) (hnv:zaO nv=true) (hy:y<60) (hc:∀ k,k<3600→zaO (gv c (1+k))=true):∀ (n:Nat) (r r':Tr Value),n≤60→zoO c x y v nv n r=some r' →
  zkB (c.mapT (ph κ)) x y (evZ κ v) (evZ κ nv) n (r.mapT (ph κ))=r'.mapT (ph κ)
 | 0,r,r',_,h=>by obtain rfl:=Option.some.inj h; rfl
 | q+1,r,r',hq,h=>by
  unfold zoO at h
  unfold zkB
  cases e:Nat.beq q x with
  | true=>
   rw [e,cond_true] at h
   rw [cond_true]
   exact zlJ hb hv hnv hy hc q r r' (by omega) h
  | false=>
   rw [e,cond_false] at h
   rw [cond_false]
   split at h
   ·cases h
   ·rename_i s hs
    split at h
    ·cases h
    ·rename_i t ht
     rw [zav,zav] at h
     rw [zav,zav,zhN,zhN]
     obtain ⟨s1,s2⟩:=ziE hb hs (hc _ (by omega)) hv
     obtain ⟨t1,t2⟩:=ziE hb ht (hc _ (by omega)) hnv
     rw [← s2,← t2,← znQ s1,← znQ t1]
     exact zlJ hb hv hnv hy hc q _ r' (by omega) h
theorem zDr {E:Env} {f:FuncId} {zt:Nat} (hG:0<E.G) (hQ:zaz E f (zqe zt)):zaz E f (zAZ zt):=zfI hG hQ fun κ hb args h v h' hlow hcell hok=>by
 unfold zAZ at hok
 split at hok
 ·rename_i z x y w
  unfold zCX at hok
  split at hok
  ·rename_i c n e hz
   cases e3:(zif c&&Nat.beq n 3601&&Nat.beq e zt&&Nat.ble (h.next+1) lim&&Nat.blt x 60&&Nat.blt y 60&&Nat.ble 1 x&&zxo w) with
   | false=>rw [e3] at hok; simp at hok
   | true=>
   rw [e3,cond_true] at hok
   simp only [Bool.and_eq_true] at e3
   obtain ⟨⟨⟨⟨⟨⟨⟨f1,f2⟩,f3⟩,f4⟩,f5⟩,f6⟩,f7⟩,f8⟩:=e3
   split at hok
   ·rename_i nv hnv
    cases hz2:zaO nv with
    | false=>rw [hz2] at hok; simp at hok
    | true=>
    rw [hz2,cond_true] at hok
    split at hok
    ·rename_i r hr
     obtain ⟨rfl,rfl⟩:=zaq hok
     obtain ⟨⟨cs,hcs⟩,hcz⟩:=zko (κ:=κ) f1
     obtain ⟨w1,w2⟩:=zEM hb f8
     refine ⟨⟨(phH κ h).t.put h.next (some (.cells (r.mapT (ph κ)) 3601 zt false false)),h.next+1⟩,?_,rfl,zpi⟩
     have hw:phV κ w=.int .i64 (evZ κ w):=by
      rw [← zdm w1]
      unfold phV
      split
      ·simp [zaO] at w1
      ·simp [zaO] at w1
      ·rfl
     show zqe zt [.pointer (some ⟨z,0,none⟩),.int .i64 (.ofNat x),.int .i64 (.ofNat y),phV κ w] (phH κ h)=_
     rw [hw]
     unfold zqe
     simp only
     rw [zdO hz]
     unfold zBH
     simp only
     rw [show (zfG (c.mapT (ph κ))&&Nat.beq n 3601&&Nat.beq e zt&&Nat.ble ((phH κ h).next+1) lim&&Nat.blt x 60&&Nat.blt y 60&&Nat.ble 1 x&&inB (evZ κ w))=true by
      simp only [hcz,f2,f3,f5,f6,f7,w2,Bool.true_and,Bool.and_true]; exact f4,cond_true,zbF,zav,← zDB hb hnv w1 hz2,
      zlJ hb w1 hz2 (zaB f6) (fun k hk=>(hcs.cell hk).2) 60 c r (Nat.le_refl _) hr]
     rfl
    ·simp at hok
   ·simp at hok
  ·simp at hok
 ·simp at hok
/-! ## and -/
theorem zmp {κ:Nat} (hb:zbH κ=true) {c:Tr Value} {t:Value} {j p:Nat} (ht:zaO t=true) (hj:j<60) (hp:p<60) (hc:∀ k,k<3600→zaO (gv c (1+k))=true):∀ (n:Nat) (r r':Tr Value),n≤60→zox c t j p n r=some r' →
  zjH (c.mapT (ph κ)) (evZ κ t) j p n (r.mapT (ph κ))=r'.mapT (ph κ)
 | 0,r,r',_,h=>by obtain rfl:=Option.some.inj h; rfl
 | q+1,r,r',hq,h=>by
  unfold zox at h
  unfold zjH
  rw [zbF,zbF,zhN,zhN]
  split at h
  ·cases h
  ·rename_i s hs
   obtain ⟨s1,s2⟩:=ziE hb hs ht (hc _ (by omega))
   split at h
   ·cases h
   ·rename_i hl
    rw [zav] at h
    have:=of_decide_eq_true (zfU hb hl s1 (hc _ (by omega))).symm
    rw [← s2,decide_eq_true this,cond_true,zav,← znQ s1]
    exact zmp hb ht hj hp hc q _ r' (by omega) h
   ·rename_i hl
    have:=of_decide_eq_false (zfU hb hl s1 (hc _ (by omega))).symm
    rw [← s2,decide_eq_false this,cond_false]
    exact zmp hb ht hj hp hc q _ r' (by omega) h
theorem zlP {κ:Nat} (hb:zbH κ=true) {c:Tr Value} {i j:Nat} {v:Value} (hv:zaO v=true) (hi:i<60) (hj:j<60) (hc:∀ k,k<3600→zaO (gv c (1+k))=true):∀ (n:Nat) (r r':Tr Value),n≤60→zoF c i j v n r=some r' →
  zhr (c.mapT (ph κ)) i j (evZ κ v) n (r.mapT (ph κ))=r'.mapT (ph κ)
 | 0,r,r',_,h=>by obtain rfl:=Option.some.inj h; rfl
 | p+1,r,r',hp,h=>by
  unfold zoF at h
  unfold zhr
  rw [zbF,zhN]
  split at h
  ·cases h
  ·rename_i t ht
   obtain ⟨t1,t2⟩:=ziE hb ht (hc _ (by omega)) hv
   rw [ziM hb t1] at h
   rw [← t2]
   cases e:zbA (evZ κ t) with
   | true=>
    rw [e,cond_true] at h
    rw [cond_true]
    exact zlP hb hv hi hj hc p r r' (by omega) h
   | false=>
    rw [e,cond_false] at h
    rw [cond_false]
    split at h
    ·cases h
    ·rename_i r1 hr1
     rw [zav,zmp hb t1 hj (by omega) hc 60 r r1 (Nat.le_refl _) hr1]
     exact zlP hb hv hi hj hc p r1 r' (by omega) h
theorem zwa {κ:Nat} (hb:zbH κ=true) {v:Value} (h:geZ v=true) (hv:zaO v=true):0≤evZ κ v:=by
 unfold geZ at h
 split at h
 ·rename_i q
  have:=of_decide_eq_false (zfU hb q hv rfl).symm
  have e:evZ κ (.int .i64 0)=0:=rfl
  rw [e] at this
  omega
 ·cases h
theorem zoK {p q:Nat→Bool}:∀ (n:Nat),(∀ i,i<n→p i=true→q i=true)→zeM p n=true→zeM q n=true
 | 0,_,_=>rfl
 | n+1,hi,h=>by
  unfold zeM at h ⊢
  cases e:p n with
  | false=>rw [e] at h; cases h
  | true=>
   rw [e,cond_true] at h
   rw [hi n (by omega) e,cond_true]
   exact zoK n (fun i hh=>hi i (by omega)) h
theorem zEZ {E:Env} {f:FuncId} {zt:Nat} (hG:0<E.G) (hQ:zaz E f (zqa zt)):zaz E f (zAR zt):=zfI hG hQ fun κ hb args h v h' hlow hcell hok=>by
 unfold zAR at hok
 split at hok
 ·rename_i z i j w
  unfold zCN at hok
  split at hok
  ·rename_i c n e hz
   cases e3:(zif c&&Nat.beq n 3601&&Nat.beq e zt&&Nat.ble (h.next+4) lim&&Nat.blt i 60&&Nat.blt j 60&&(bif Nat.beq i j then false else true)&&zaO w) with
   | false=>rw [e3] at hok; simp at hok
   | true=>
   rw [e3,cond_true] at hok
   simp only [Bool.and_eq_true] at e3
   obtain ⟨⟨⟨⟨⟨⟨⟨f1,f2⟩,f3⟩,f4⟩,f5⟩,f6⟩,f7⟩,f8⟩:=e3
   obtain ⟨⟨cs,hcs⟩,hcz⟩:=zko (κ:=κ) f1
   have hi:=zaB f5
   have hj:=zaB f6
   have hc:∀ k,k<3600→zaO (gv c (1+k))=true:=fun k hk=>(hcs.cell hk).2
   suffices hs:∃ h2,zsa zt (phH κ h) z (c.mapT (ph κ)) i j (evZ κ w)=.ok (phV κ v,h2)∧h2.next=h'.next∧∀ b o,h'.t.get b=some o→∃ o2,h2.t.get b=some o2∧OL κ o2 o by
    obtain ⟨h2,a1,a2⟩:=hs
    refine ⟨h2,?_,a2⟩
    have hw:phV κ (.agg ⟨[.int .i64 (.ofNat i),.int .i64 (.ofNat j),w]⟩)=.agg ⟨[.int .i64 (.ofNat i),.int .i64 (.ofNat j),.int .i64 (evZ κ w)]⟩:=by
     unfold phV
     simp only [List.map,zdm f8]
     rfl
    show zqa zt [.pointer (some ⟨z,0,none⟩),phV κ (.agg ⟨[.int .i64 (.ofNat i),.int .i64 (.ofNat j),w]⟩)] (phH κ h)=_
    rw [hw]
    unfold zqa
    simp only
    rw [zdO hz]
    unfold zAc
    simp only
    rw [show (zfG (c.mapT (ph κ))&&Nat.beq n 3601&&Nat.beq e zt&&Nat.ble ((phH κ h).next+4) lim&&Nat.blt i 60&&Nat.blt j 60&&(bif Nat.beq i j then false else true))=true by
     simp only [hcz,f2,f3,f5,f6,f7,Bool.true_and,Bool.and_true]; exact f4,cond_true]
    exact a1
   unfold zCP at hok
   unfold zsa
   rw [zhN,zhN]
   split at hok
   ·simp at hok
   ·rename_i hl
    obtain ⟨rfl,rfl⟩:=zaq hok
    have:=of_decide_eq_false (zfU hb hl f8 (hc _ (by omega))).symm
    rw [decide_eq_true (by omega),cond_true]
    exact ⟨_,rfl,rfl,fun q o hq=>ziD q o hq⟩
   ·rename_i hl
    have:=of_decide_eq_true (zfU hb hl f8 (hc _ (by omega))).symm
    rw [decide_eq_false (by omega),cond_false]
    split at hok
    ·simp at hok
    ·rename_i s hs
     obtain ⟨s1,s2⟩:=ziE hb hs (hc _ (by omega)) f8
     cases hg:geZ s with
     | false=>rw [hg] at hok; simp at hok
     | true=>
     rw [hg,cond_true] at hok
     have:=zwa hb hg s1
     rw [← s2,decide_eq_false (by omega),cond_false]
     split at hok
     ·rename_i r hr
      rw [zlP hb f8 hi hj hc 60 c r (Nat.le_refl _) hr,zav]
      unfold zCT at hok
      unfold zto
      cases q:zeM (fun i=>geZ (gv r (1+(i*60+i)))&&zaO (gv r (1+(i*60+i)))) 60 with
      | false=>rw [q] at hok; simp at hok
      | true=>
       rw [q,cond_true] at hok
       obtain ⟨rfl,rfl⟩:=zaq hok
       rw [zoK 60 (fun i _ hi=>by
        rw [Bool.and_eq_true] at hi
        rw [zhN]
        exact decide_eq_true (zwa hb hi.1 hi.2)) q,cond_true]
       exact ⟨_,rfl,rfl,zpi⟩
     ·simp at hok
  ·simp at hok
 ·simp at hok
end Go.Proofs.YtghhpeemloeljaaGreat
set_option linter.unusedSimpArgs false
set_option linter.unusedVariables false
namespace Go.Proofs.YtghhpeemloeljaaGreat
open Go Go.Sim
set_option maxRecDepth 100000
set_option maxHeartbeats 1000000
variable {O:OT} {ih:K}
structure Byt (h:SHeap) (b o:Nat) (l:List Nat):Prop where
 ex:∃ c m e p r,h.t.get b=some (.cells c m e p r)∧∀ i x,l[i]? = some x→c.get (o+i)=some (.int .u8 (.ofNat x))
 lt:∀ x∈l,x<256
theorem E5b:(Eo O).T 5=some ⟨.int .u8,1,Tab.t5.bytes,Tab.t5.zero⟩:=by show Tab.types.get 5=_; kernel_rfl
theorem zKE:(Eo O).T 26=some ⟨.slice 5,1,Tab.t26.bytes,Tab.t26.zero⟩:=by show Tab.types.get 26=_; kernel_rfl
theorem Byt.ld {h:SHeap} {b o:Nat} {l:List Nat} (k:Byt h b o l) {i x:Nat} (hi:l[i]? = some x):zba (Eo O) 5 (some (.pointer (some (zbe ⟨b,o,none⟩ (i*1))))) h=.ok (.value (.int .u8 (.ofNat x)),h):=by
 obtain ⟨c,m,e,p,r,h1,h2⟩:=k.ex
 have:zbe ⟨b,o,none⟩ (i*1)=⟨b,o+i,none⟩:=by
  unfold zbe
  rw [Nat.mul_one]
  split
  ·rename_i q; rw [q,Nat.add_zero]
  ·rfl
 rw [this]
 exact zbD (E:=Eo O) E5b rfl h1 (h2 i x hi)
theorem Byt.ld' {h:SHeap} {b o:Nat} {l:List Nat} (k:Byt h b o l) {i x:Nat} (hi:l[i]? = some x):zba (Eo O) 5 (some (.pointer (some ⟨b,o+i*1,none⟩))) h=.ok (.value (.int .u8 (.ofNat x)),h):=by
 rw [← zaG]; exact k.ld hi
theorem zBC {b o i n c:Nat} {h:SHeap} (hi:i<n):zcy (Eo O) ((Eo O).T 26) (some (.slice (some ⟨b,o,none⟩) n c)) (some i) h=.ok (.value (.pointer (some (zbe ⟨b,o,none⟩ (i*1)))),h):=by
 rw [zKE]
 show zcm (Eo O) 5 n ⟨b,o,none⟩ i h=_
 unfold zcm
 rw [E5b]
 simp only [zaI hi,cond_true,zal]
theorem zxv {ev:Ev} {o:Oper} {x:Operand} {a:Option Addr} {n c:Nat} {ats:Array TypeId} {h:SHeap} (hx:ev x=some (.slice a n c)) (ht:ats = #[26]):zbY (Eo O) ev o ⟨.builtin .len,#[x],ats⟩ h=.ok (.value (.int .i64 (.ofNat n)),h):=by
 subst ht
 simp only [zbY,zaj,hx,zcH]
 show zks (Eo O) ev o ((Eo O).T 26) (.slice a n c) h=_
 rw [zKE]
 rfl
theorem zKX {ev:Ev} {o:Oper} {c:Nat} {h:SHeap}:zfK (Eo O) ev o 5 93 (some (.int .u8 (.ofNat c))) h=.ok (.value (.int .u32 (.ofNat (c%4294967296))),h):=by kernel_rfl
theorem zDm {ev:Ev} {o:Oper} {c:Nat} (hc:c<256) {h:SHeap}:zfK (Eo O) ev o 5 3 (some (.int .u8 (.ofNat c))) h=.ok (.value (.int .i64 (.ofNat c)),h):=by
 have:zfK (Eo O) ev o 5 3 (some (.int .u8 (.ofNat c))) h=.ok (.value (.int .i64 (zoD .i64 (.ofNat c))),h):=by kernel_rfl
 rw [this]
 unfold zoD
 simp only [zaI (show c<9223372036854775808 by omega),cond_true]
theorem zDP {ev:Ev} {o:Oper} {t:TypeId} {a b:Nat} {h:SHeap} (ha:a<4294967296) (hb:b<4294967296):zcZ (Eo O) ev o .xor t (some (.int .u32 (.ofNat a))) (some (.int .u32 (.ofNat b))) h=.ok (.value (.int .u32 (.ofNat (Nat.xor a b))),h):=by
 have:zcs .u32 (Nat.xor a b) a b=some (.int .u32 (.ofNat (Nat.xor a b))):=by
  unfold zcs
  cases q:(Nat.blt a 2147483648&&Nat.blt b 2147483648) with
  | true=>rfl
  | false=>simp only [zaI ha,zaI hb,Bool.and_self,cond_true,cond_false]
 show zhH (Eo O) ev o (zcs .u32 (Nat.xor a b) a b) h=_
 rw [this]; rfl
theorem zBI (n:Nat):zaK .u32 (.ofNat n)=.ofNat (n%4294967296):=by
 have:IntKind.u32.wrap (.ofNat n)=.ofNat (n%4294967296):=by
  show (if (false&&decide (Int.ofNat n%4294967296≥2147483648))=true then Int.ofNat n%4294967296-4294967296 else Int.ofNat n%4294967296)=_
  rw [Bool.false_and]
  simp only [Bool.false_eq_true,if_false]
  exact (Int.natCast_emod n 4294967296).symm
 rw [zdC,this]
theorem zBp {ev:Ev} {o:Oper} {t:TypeId} {a c:Nat} {h:SHeap}:zcZ (Eo O) ev o .mul t (some (.int .u32 (.ofNat a))) (some (.int .u32 (.ofNat c))) h=.ok (.value (.int .u32 (.ofNat (a*c%4294967296))),h):=by
 rw [← zBI (a*c)]; rfl
theorem zFf {ev:Ev} {o:Oper} {t:TypeId} {a:Nat} {h:SHeap}:zcZ (Eo O) ev o .mul t (some (.int .u32 (.ofNat a))) (some (.int .u32 16777619)) h=.ok (.value (.int .u32 (.ofNat (a*16777619%4294967296))),h):=zBp
theorem zxh {α β:Type} (f:α→β→α) (s:α) (l:List β) (x:β):(l++[x]).foldl f s=f (l.foldl f s) x:=by rw [List.foldl_append]; rfl
theorem zzO (l:List Nat) (x:Nat):fnv (l++[x])=Nat.xor (fnv l) x*16777619%4294967296:=zxh _ _ _ _
theorem ztU {l:List Nat} {i x:Nat} (h:l[i]? = some x):fnv (l.take (i+1))=Nat.xor (fnv (l.take i)) x*16777619%4294967296:=by
 have hi:i<l.length:=by
  rcases Nat.lt_or_ge i l.length with q | q
  ·exact q
  ·rw [List.getElem?_eq_none q] at h; cases h
 have e:l.take (i+1)=l.take i++[x]:=by
  rw [List.take_add_one,h]; rfl
 rw [e]
 exact zzO _ _
/-! ## pack.sum -/
noncomputable def suP:Code:=cB (cB (cF Tryz.f31))
noncomputable def suO:Code:=cI (cI (cB (cA suP)))
theorem zHC:Tryz.f31.body=some (cF Tryz.f31):=rfl
theorem zXU:(Eo O).F 31=some Tryz.f31:=by show Tab.funcs.get 31=_; kernel_rfl
theorem zRk {a:Value}:max Tryz.f31.ntmps (#[a]:Array Value).size=19:=rfl
theorem zMT:Tryz.f31.results.toList=[.tmp 2]:=rfl
structure SuI (b o cp:Nat) (l:List Nat) (h:SHeap) (i:Nat) (st:St):Prop where
 ds:st.defers=[]
 hh:st.h=h
 t3:st.tm.get 3=some (.int .u32 (.ofNat (fnv (l.take i))))
 t6:st.tm.get 6=some (.slice (some ⟨b,o,none⟩) l.length cp)
 t7:st.tm.get 7=some (.int .i64 (.ofNat l.length))
 t8:st.tm.get 8=some (.int .i64 (.ofNat i))
theorem zQy {b o cp:Nat} {l:List Nat} {h:SHeap} (hB:Byt h b o l) (hl:l.length≤200000) (i:Nat) (hi:i<l.length) (st:St) (hI:SuI b o cp l h i st) :
  ∃ st',zab suO (Eo O) ih ⟨31,19,.normal,none⟩ st=.ok (.normal,st')∧SuI b o cp l h (i+1) st':=by
 obtain ⟨tm,h0,dd⟩:=st
 obtain ⟨hd,hh,t3,t6,t7,t8⟩:=hI
 simp only at hd hh t3 t6 t7 t8
 subst hd hh
 have hx:l[i]? = some (l[i]):=List.getElem?_eq_getElem hi
 have hk':decide (Int.ofNat i<Int.ofNat l.length)=true:=decide_eq_true (Int.ofNat_lt.2 hi)
 have hk2:zaK .i64 (Int.ofNat i+1)=.ofNat (i+1):=zbb (m:=i+1) (by omega)
 have hc:=hB.lt _ (List.getElem_mem hi)
 have hlt:=zjU (l.take i)
 have hm:l[i]%4294967296=l[i]:=Nat.mod_eq_of_lt (by omega)
 have hfn:=ztU hx
 generalize hr:zab suO (Eo O) ih ⟨31,19,.normal,none⟩ ⟨tm,h0,[]⟩=r
 unfold suO suP at hr
 simp only [SSb,Tryz.f31,cF,Option.getD,cA,cB,cI,zab,zac,zao,zak,zau,zal,lim,Nat.reduceLT,Nat.reduceEqDiff,and_true,if_true,if_false,reduceIte,false_and,true_and,Nat.beq,cond_true,cond_false,zad,zae,zaf,zar,zap,zat,Option.bind_some,zaj,List.getElem?_toArray,List.getElem?_cons_succ,List.getElem?_cons_zero,List.drop_succ_cons,List.drop_zero,zah,zas,Bool.and_self,Bool.true_and,zfl,t3,t6,t7,t8,hk',hk2,zBC hi,hB.ld' hx,zKX,hm,zDP hlt (show l[i]<4294967296 by omega),zFf] at hr
 subst hr
 refine ⟨_,rfl,⟨rfl,rfl,?_,?_,?_,?_⟩⟩
 ·rw [hfn]; simp [zaa,lim]
 ·simp [zaa,lim,t6]
 ·simp [zaa,lim,t7]
 ·simp [zaa,lim]
theorem zJz {b o cp:Nat} {l:List Nat} {h:SHeap} (st:St) (hI:SuI b o cp l h l.length st) :
  ∃ st',zab suO (Eo O) ih ⟨31,19,.normal,none⟩ st=.ok (.exit 0,st')∧SuI b o cp l h l.length st':=by
 obtain ⟨tm,h0,dd⟩:=st
 obtain ⟨hd,hh,t3,t6,t7,t8⟩:=hI
 simp only at hd hh t3 t6 t7 t8
 subst hd hh
 have hk':decide (Int.ofNat l.length<Int.ofNat l.length)=false:=decide_eq_false (by omega)
 generalize hr:zab suO (Eo O) ih ⟨31,19,.normal,none⟩ ⟨tm,h0,[]⟩=r
 unfold suO suP at hr
 simp only [SSb,Tryz.f31,cF,Option.getD,cA,cB,cI,zab,zac,zao,zak,zau,zal,lim,Nat.reduceLT,Nat.reduceEqDiff,and_true,if_true,if_false,reduceIte,false_and,true_and,Nat.beq,cond_true,cond_false,zad,zae,zaf,zar,zap,zat,Option.bind_some,zaj,List.getElem?_toArray,List.getElem?_cons_succ,List.getElem?_cons_zero,List.drop_succ_cons,List.drop_zero,zah,zas,Bool.and_self,Bool.true_and,t3,t6,t7,t8,hk'] at hr
 subst hr
 exact ⟨_,rfl,⟨rfl,rfl,by simp [zaa,lim,t3],by simp [zaa,lim,t6],by simp [zaa,lim,t7],by simp [zaa,lim,t8]⟩⟩
theorem zGF {n:Nat} (hO:O 31=none) {b o cp:Nat} {l:List Nat} {h:SHeap} (hB:Byt h b o l) (hl:l.length≤200000) :
  run (Eo O) (n+1) (.call 31 #[.slice (some ⟨b,o,none⟩) l.length cp] .normal) h=.ok (.int .u32 (.ofNat (fnv l)),h):=by
 suffices hcc:∃ tm',zab (cF Tryz.f31) (Eo O) (run (Eo O) n) ⟨31,19,.normal,none⟩ ⟨Tr.ofL 33 [.slice (some ⟨b,o,none⟩) l.length cp],h,[]⟩=.ok (.ret,⟨tm',h,[]⟩)∧tm'.get 2=some (.int .u32 (.ofNat (fnv l))) by
  obtain ⟨tm',k1,k2⟩:=hcc
  exact (zby (show (Eo O).O 31=none from hO)).trans (zaY (vs:=[_]) zXU zHC zRk rfl zMT k1 (by simp only [zaQ,k2,zcM]))
 generalize run (Eo O) n=ih
 have t0:(Tr.ofL 33 [Value.slice (some ⟨b,o,none⟩) l.length cp]).get 0=some (.slice (some ⟨b,o,none⟩) l.length cp):=rfl
 generalize Tr.ofL 33 [Value.slice (some ⟨b,o,none⟩) l.length cp]=tm at t0
 have hin:SuI b o cp l h 0 ⟨(((((((tm.put 2 (some (.int .u32 0))).put 3 (some (.int .u32 2166136261))).put 6 (some (.slice (some ⟨b,o,none⟩) l.length cp))).put 7 (some (.int .i64 (.ofNat l.length)))).put 8 (some (.int .i64 0))))),h,[]⟩:=
  ⟨rfl,rfl,by simp [zaa,lim,fnv],by simp [zaa,lim],by simp [zaa,lim],by simp [zaa,lim]⟩
 obtain ⟨⟨tm',h',dd'⟩,e1,⟨rd,rh,r3,r6,r7,r8⟩⟩:=zfe (f:=zab suO (Eo O) ih ⟨31,19,.normal,none⟩) (I:=fun i st=>SuI b o cp l h i st) (N:=l.length) (id:=0) (Q:=fun st=>SuI b o cp l h l.length st)
  (fun i st hi hI=>zQy hB hl i hi st hI) (fun st hI=>zJz st hI) l.length 1000000 0 _ (by omega) (by omega) hin
 simp only at rd rh r3
 subst rd rh
 generalize hr:zab (cF Tryz.f31) (Eo O) ih ⟨31,19,.normal,none⟩ ⟨tm,h',[]⟩=r
 have hlen:∀ (ev:Ev) (o':Oper) (x:Operand) (h:SHeap),ev x=some (.slice (some ⟨b,o,none⟩) l.length cp)→zbY (Eo O) ev o' ⟨.builtin .len,#[x],#[26]⟩ h=.ok (.value (.int .i64 (.ofNat l.length)),h):=fun ev o' x h hx=>zxv hx rfl
 unfold suO suP at e1
 simp only [Tryz.f31,cF,Option.getD,cA,cB,cI,zab] at e1
 simp only [SSb,Tryz.f31,cF,Option.getD,cA,cB,cI,zab,zac,zao,zak,zau,zal,lim,Nat.reduceLT,Nat.reduceEqDiff,and_true,if_true,if_false,reduceIte,false_and,true_and,Nat.beq,cond_true,cond_false,zad,zae,zaf,zar,zap,zat,Option.bind_some,zaj,List.getElem?_toArray,List.getElem?_cons_succ,List.getElem?_cons_zero,List.drop_succ_cons,List.drop_zero,zah,zas,Bool.and_self,Bool.true_and,t0,hlen,e1,r3] at hr
 rw [List.take_length] at hr
 subst hr
 exact ⟨_,rfl,by simp [zaa,lim]⟩
/-! ## warrantref12.Sum -/
theorem zvK {ev:Ev} {o:Oper} {t:TypeId} {a k:Nat} {h:SHeap} (hk:k<8):zcZ (Eo O) ev o .shr t (some (.int .i64 (.ofNat a))) (some (.int .i64 (.ofNat k))) h=.ok (.value (.int .i64 (.ofNat (a/2^k))),h):=by
 have:zdE .shr .i64 (.ofNat a) (.ofNat k)=some (.int .i64 (.ofNat (a/2^k))):=by
  unfold zdE
  have e1:Nat.ble k 64=true:=by rw [Nat.ble_eq]; omega
  have e2:min k IntKind.i64.bits=k:=by show min k 64=k; omega
  simp only [e1,e2,cond_true]
 show zhH (Eo O) ev o (zdE .shr .i64 (.ofNat a) (.ofNat k)) h=_
 rw [this]; rfl
theorem zEb {ev:Ev} {o:Oper} {t:TypeId} {k:Nat} {h:SHeap} (hk:k<8):zcZ (Eo O) ev o .shl t (some (.int .i64 1)) (some (.int .i64 (.ofNat k))) h=.ok (.value (.int .i64 (.ofNat (2^k))),h):=by
 have:zdE .shl .i64 1 (.ofNat k)=some (.int .i64 (.ofNat (2^k))):=by
  match k,hk with
  | 0,_=>rfl
  | 1,_=>rfl
  | 2,_=>rfl
  | 3,_=>rfl
  | 4,_=>rfl
  | 5,_=>rfl
  | 6,_=>rfl
  | 7,_=>rfl
 show zhH (Eo O) ev o (zdE .shl .i64 1 (.ofNat k)) h=_
 rw [this]; rfl
theorem zmU {ev:Ev} {o:Oper} {t:TypeId} {a:Nat} {h:SHeap} (ha:a<2147483648):zcZ (Eo O) ev o .and t (some (.int .i64 (.ofNat a))) (some (.int .i64 1)) h=.ok (.value (.int .i64 (.ofNat (a%2))),h):=by
 have e:Nat.land a 1=a%2:=Nat.and_one_is_mod a
 have:zcs .i64 (Nat.land a 1) a 1=some (.int .i64 (.ofNat (a%2))):=by
  rw [e]; unfold zcs
  simp only [zaI ha]; rfl
 show zhH (Eo O) ev o (zcs .i64 (Nat.land a 1) a 1) h=_
 rw [this]; rfl
theorem zES {ev:Ev} {o:Oper} {t:TypeId} {a:Nat} {h:SHeap}:zcZ (Eo O) ev o .rem t (some (.int .i64 (.ofNat a))) (some (.int .i64 256)) h=.ok (.value (.int .i64 (.ofNat (a%256))),h):=rfl
theorem zGh {ev:Ev} {o:Oper} {t:TypeId} {a:Nat} {h:SHeap}:zcZ (Eo O) ev o .rem t (some (.int .i64 (.ofNat a))) (some (.int .i64 4294967296)) h=.ok (.value (.int .i64 (.ofNat (a%4294967296))),h):=by kernel_rfl
theorem zLg {ev:Ev} {o:Oper} {t:TypeId} {x y:Int} {h:SHeap}:zcZ (Eo O) ev o .sub t (some (.int .i64 x)) (some (.int .i64 y)) h=.ok (.value (.int .i64 (zaK .i64 (x-y))),h):=zel (id rfl)
theorem zHz {ev:Ev} {o:Oper} {t:TypeId} {x y:Int} {h:SHeap}:zcZ (Eo O) ev o .mul t (some (.int .i64 x)) (some (.int .i64 y)) h=.ok (.value (.int .i64 (zaK .i64 (x*y))),h):=zel (id rfl)
def zga (a b:Nat):Nat→Nat
 | 0=>0
 | k+1=>zga a b k+(if a/2^k%2=b/2^k%2 then 0 else 2^k)
theorem zoi (a b:Nat):∀ k,zga a b k=Nat.xor a b%2^k
 | 0=>by simp [zga,Nat.mod_one]
 | k+1=>by
  have e:Nat.xor a b%2^(k+1)=Nat.xor a b%2^k+2^k*((Nat.xor a b).testBit k).toNat:=by
   rw [Nat.mod_pow_succ,Nat.toNat_testBit]
  have t:(Nat.xor a b).testBit k=((a.testBit k) ^^ (b.testBit k)):=Nat.testBit_xor a b k
  rw [e,t,zga,zoi a b k]
  have ha:a.testBit k=decide (a/2^k%2=1):=Nat.testBit_eq_decide_div_mod_eq
  have hb:b.testBit k=decide (b/2^k%2=1):=Nat.testBit_eq_decide_div_mod_eq
  rw [ha,hb]
  rcases Nat.mod_two_eq_zero_or_one (a/2^k) with p | p<;>rcases Nat.mod_two_eq_zero_or_one (b/2^k) with q | q<;>simp [p,q]
theorem zvh {s c:Nat} (hc:c<256):s-s%256+Nat.xor (s%256) c=Nat.xor s c:=by
 have h1:Nat.xor s c/2^8=s/2^8:=by
  have:(s ^^^ c)/2^8=s/2^8 ^^^ c/2^8:=Nat.xor_div_two_pow
  rw [Nat.div_eq_of_lt hc,Nat.xor_zero] at this
  exact this
 have h2:Nat.xor s c%2^8=Nat.xor (s%256) c:=by
  have:(s ^^^ c)%2^8=s%2^8 ^^^ c%2^8:=Nat.xor_mod_two_pow
  rw [Nat.mod_eq_of_lt (show c<2^8 from hc)] at this
  exact this
 omega
noncomputable def reP:Code:=cB (cB (cF Tryz.f110))
noncomputable def reO:Code:=cI (cI (cB (cA reP)))
noncomputable def reI:Code:=cI (cI (cB (cA (cB (cB (cI (cA (cB reO))))))))
noncomputable def zHy (n:Nat):Array Oper:=zev (zcb (cF Tryz.f110)) n
theorem plH:zdb (Eo O) (zHy 0).toList=some ⟨[⟨0,.pure,0⟩,⟨1,.pure,0⟩,⟨2,.pure,0⟩,⟨3,.pure,0⟩,⟨4,.pure,0⟩,⟨5,.pure,0⟩,⟨6,.pure,0⟩,⟨7,.read,0⟩,⟨8,.pure,0⟩,⟨9,.pure,0⟩,⟨10,.pure,0⟩,⟨11,.pure,0⟩],12,0⟩:=by kernel_rfl
theorem zDs:Tryz.f110.body=some (cF Tryz.f110):=rfl
theorem zLM:(Eo O).F 110=some Tryz.f110:=by show Tab.funcs.get 110=_; kernel_rfl
theorem zNA {a:Value}:max Tryz.f110.ntmps (#[a]:Array Value).size=45:=rfl
theorem zFH:Tryz.f110.results.toList=[.tmp 2]:=rfl
structure ReT (b o cp:Nat) (l:List Nat) (h:SHeap) (i:Nat) (st:St):Prop where
 ds:st.defers=[]
 hh:st.h=h
 t0:st.tm.get 0=some (.slice (some ⟨b,o,none⟩) l.length cp)
 t3:st.tm.get 3=some (.int .i64 (.ofNat (fnv (l.take i))))
 t4:st.tm.get 4=some (.int .i64 (.ofNat i))
structure ReI (b o cp:Nat) (l:List Nat) (h:SHeap) (i w c k:Nat) (st:St):Prop where
 T:ReT b o cp l h i st
 t5:st.tm.get 5=some (.int .i64 (.ofNat w))
 t6:st.tm.get 6=some (.int .i64 (.ofNat (zga w c k)))
 t7:st.tm.get 7=some (.int .i64 (.ofNat k))
theorem zBU (a b k:Nat):zga a b k<2^k:=by rw [zoi]; exact Nat.mod_lt _ (Nat.two_pow_pos k)
theorem zSt {b o cp:Nat} {l:List Nat} {h:SHeap} (hB:Byt h b o l) (hn:h.next≤lim) {i w c:Nat} (hi:i<l.length) (hx:l[i]? = some c) (hw:w<256) (k:Nat) (hk:k<8) (st:St) (hI:ReI b o cp l h i w c k st) :
  ∃ st',zab reI (Eo O) ih ⟨110,45,.normal,none⟩ st=.ok (.normal,st')∧ReI b o cp l h i w c (k+1) st':=by
 obtain ⟨tm,h0,dd⟩:=st
 obtain ⟨⟨hd,hh,t0,t3,t4⟩,t5,t6,t7⟩:=hI
 simp only at hd hh t0 t3 t4 t5 t6 t7
 subst hd hh
 have hc:=hB.lt c (List.mem_of_getElem? hx)
 have hk':decide (Int.ofNat k<8)=true:=decide_eq_true (by simp only [Int.ofNat_eq_natCast]; omega)
 have hk2:zaK .i64 (Int.ofNat k+1)=.ofNat (k+1):=zbb (m:=k+1) (by omega)
 have w1:w/2^k<2147483648:=Nat.lt_of_le_of_lt (Nat.div_le_self _ _) (by omega)
 have c1:c/2^k<2147483648:=Nat.lt_of_le_of_lt (Nat.div_le_self _ _) (by omega)
 have pl:=plH (O:=O)
 unfold zHy at pl
 simp only [Tryz.f110,cF,Option.getD,zcb,zev,List.nil_append,List.append_nil,List.cons_append] at pl
 have hnl0:Nat.ble h0.next 4294967296=true:=by rw [Nat.ble_eq]; exact hn
 generalize hr:zab reI (Eo O) ih ⟨110,45,.normal,none⟩ ⟨tm,h0,[]⟩=r
 unfold reI reO reP at hr
 by_cases e:w/2^k%2=c/2^k%2
 ·have en:(Int.ofNat (w/2^k%2) != Int.ofNat (c/2^k%2))=false:=by rw [e]; simp
  simp only [SSb,Tryz.f110,cF,Option.getD,cA,cB,cI,zab,zac,zao,zak,zau,zal,lim,Nat.reduceLT,Nat.reduceEqDiff,and_true,if_true,if_false,reduceIte,false_and,true_and,Nat.beq,cond_true,cond_false,zad,zae,zaf,zar,zap,zat,Option.bind_some,zaj,List.getElem?_toArray,List.getElem?_cons_succ,List.getElem?_cons_zero,List.drop_succ_cons,List.drop_zero,zah,zas,Bool.and_self,Bool.true_and,zfl,t0,t3,t4,t5,t6,t7,hk',hk2,zBC hi,hB.ld' hx,zDm hc,zvK hk,zmU w1,zmU c1,en,zbX pl hn,hnl0] at hr
  subst hr
  refine ⟨_,rfl,⟨rfl,rfl,?_,?_,?_⟩,?_,?_,?_⟩
  ·simp [zaa,lim,t0]
  ·simp [zaa,lim,t3]
  ·simp [zaa,lim,t4]
  ·simp [zaa,lim,t5]
  ·rw [zga,if_pos e,Nat.add_zero]; simp [zaa,lim,t6]
  ·simp [zaa,lim]
 ·have en:(Int.ofNat (w/2^k%2) != Int.ofNat (c/2^k%2))=true:=by
   rw [bne_iff_ne]; intro q; exact e (Int.ofNat.inj q)
  have hs:zaK .i64 (Int.ofNat (zga w c k)+Int.ofNat (2^k))=.ofNat (zga w c k+2^k):=by
   have q1:=zBU w c k
   have q2:2^k≤2^8:=Nat.pow_le_pow_right (by omega) (by omega)
   exact zbb (m:=zga w c k+2^k) (by omega)
  simp only [SSb,Tryz.f110,cF,Option.getD,cA,cB,cI,zab,zac,zao,zak,zau,zal,lim,Nat.reduceLT,Nat.reduceEqDiff,and_true,if_true,if_false,reduceIte,false_and,true_and,Nat.beq,cond_true,cond_false,zad,zae,zaf,zar,zap,zat,Option.bind_some,zaj,List.getElem?_toArray,List.getElem?_cons_succ,List.getElem?_cons_zero,List.drop_succ_cons,List.drop_zero,zah,zas,Bool.and_self,Bool.true_and,zfl,t0,t3,t4,t5,t6,t7,hk',hk2,zBC hi,hB.ld' hx,zDm hc,zvK hk,zEb hk,zmU w1,zmU c1,en,hs,zbX pl hn,hnl0] at hr
  subst hr
  refine ⟨_,rfl,⟨rfl,rfl,?_,?_,?_⟩,?_,?_,?_⟩
  ·simp [zaa,lim,t0]
  ·simp [zaa,lim,t3]
  ·simp [zaa,lim,t4]
  ·simp [zaa,lim,t5]
  ·rw [zga,if_neg e]; simp [zaa,lim]
  ·simp [zaa,lim]
theorem zAx {b o cp:Nat} {l:List Nat} {h:SHeap} {i w c:Nat} (st:St) (hI:ReI b o cp l h i w c 8 st) :
  ∃ st',zab reI (Eo O) ih ⟨110,45,.normal,none⟩ st=.ok (.exit 2,st')∧ReI b o cp l h i w c 8 st':=by
 obtain ⟨tm,h0,dd⟩:=st
 obtain ⟨⟨hd,hh,t0,t3,t4⟩,t5,t6,t7⟩:=hI
 simp only at hd hh t0 t3 t4 t5 t6 t7
 subst hd hh
 have hk':decide (Int.ofNat 8<8)=false:=rfl
 generalize hr:zab reI (Eo O) ih ⟨110,45,.normal,none⟩ ⟨tm,h0,[]⟩=r
 unfold reI reO reP at hr
 simp only [SSb,Tryz.f110,cF,Option.getD,cA,cB,cI,zab,zac,zao,zak,zau,zal,lim,Nat.reduceLT,Nat.reduceEqDiff,and_true,if_true,if_false,reduceIte,false_and,true_and,Nat.beq,cond_true,cond_false,zad,zae,zaf,zar,zap,zat,Option.bind_some,zaj,List.getElem?_toArray,List.getElem?_cons_succ,List.getElem?_cons_zero,List.drop_succ_cons,List.drop_zero,zah,zas,Bool.and_self,Bool.true_and,t7,hk'] at hr
 subst hr
 exact ⟨_,rfl,⟨rfl,rfl,by simp [zaa,lim,t0],by simp [zaa,lim,t3],by simp [zaa,lim,t4]⟩,by simp [zaa,lim,t5],by simp [zaa,lim,t6],by simp [zaa,lim,t7]⟩
theorem zPn {b o cp:Nat} {l:List Nat} {h:SHeap} (hB:Byt h b o l) (hn:h.next≤lim) (hl:l.length≤200000) (i:Nat) (hi:i<l.length) (st:St) (hI:ReT b o cp l h i st) :
  ∃ st',zab reO (Eo O) ih ⟨110,45,.normal,none⟩ st=.ok (.normal,st')∧ReT b o cp l h (i+1) st':=by
 obtain ⟨tm,h0,dd⟩:=st
 obtain ⟨hd,hh,t0,t3,t4⟩:=hI
 simp only at hd hh t0 t3 t4
 subst hd hh
 obtain ⟨c,hx⟩:∃ c,l[i]? = some c:=⟨l[i],List.getElem?_eq_getElem hi⟩
 have hc:=hB.lt c (List.mem_of_getElem? hx)
 have hk':decide (Int.ofNat i<Int.ofNat l.length)=true:=decide_eq_true (Int.ofNat_lt.2 hi)
 have hk2:zaK .i64 (Int.ofNat i+1)=.ofNat (i+1):=zbb (m:=i+1) (by omega)
 have hlt:=zjU (l.take i)
 have hfn:=ztU hx
 generalize hs:fnv (l.take i)=s at t3 hlt hfn
 have hin:ReI b o cp l h0 i (s%256) c 0 ⟨((((((((((tm.put 8 (some (.int .i64 (.ofNat i)))).put 9 (some (.slice (some ⟨b,o,none⟩) l.length cp))).put 10 (some (.int .i64 (.ofNat l.length)))).put 11 (some (.bool true))).put 14 (some (.int .i64 (.ofNat s)))).put 15 (some (.int .i64 (.ofNat (s%256))))).put 5 (some (.int .i64 (.ofNat (s%256))))).put 6 (some (.int .i64 0))).put 7 (some (.int .i64 0)))),h0,[]⟩:=by
  refine ⟨⟨rfl,rfl,?_,?_,?_⟩,?_,?_,?_⟩<;>simp [zaa,lim,t0,t3,t4,hs,zga]
 obtain ⟨⟨tm',h',dd'⟩,e1,⟨⟨rd,rh,r0,r3,r4⟩,r5,r6,r7⟩⟩:=zfe (f:=zab reI (Eo O) ih ⟨110,45,.normal,none⟩) (I:=fun k st=>ReI b o cp l h0 i (s%256) c k st) (N:=8) (id:=2) (Q:=fun st=>ReI b o cp l h0 i (s%256) c 8 st)
  (fun k st hk hI=>zSt hB hn hi hx (Nat.mod_lt _ (by omega)) k hk st hI) (fun st hI=>zAx st hI) 8 1000000 0 _ (by omega) (by omega) hin
 simp only at rd rh r0 r3 r4 r5 r6
 subst rd rh
 rw [hs] at r3
 have x8:zga (s%256) c 8=Nat.xor (s%256) c:=by
  rw [zoi]
  refine Nat.mod_eq_of_lt ?_
  exact Nat.xor_lt_two_pow (Nat.mod_lt _ (by decide)) hc
 rw [x8] at r6
 have lx:Nat.xor (s%256) c<256:=Nat.xor_lt_two_pow (n:=8) (Nat.mod_lt _ (by decide)) hc
 have s1:zaK .i64 (Int.ofNat s-Int.ofNat (s%256))=.ofNat (s-s%256):=by
  have:Int.ofNat s-Int.ofNat (s%256)=Int.ofNat (s-s%256):=by simp only [Int.ofNat_eq_natCast]; omega
  rw [this]; exact zbb (by omega)
 have s2:zaK .i64 (Int.ofNat (s-s%256)+Int.ofNat (Nat.xor (s%256) c))=.ofNat (Nat.xor s c):=by
  rw [← zvh (s:=s) hc]; exact zbb (m:=s-s%256+Nat.xor (s%256) c) (by omega)
 have lx2:Nat.xor s c<4294967296:=by have:=zvh (s:=s) hc; omega
 have s3:zaK .i64 (Int.ofNat (Nat.xor s c)*16777619)=.ofNat (Nat.xor s c*16777619):=zbb (m:=Nat.xor s c*16777619) (by omega)
 have hlen:∀ (ev:Ev) (o':Oper) (x:Operand) (h:SHeap),ev x=some (.slice (some ⟨b,o,none⟩) l.length cp)→zbY (Eo O) ev o' ⟨.builtin .len,#[x],#[26]⟩ h=.ok (.value (.int .i64 (.ofNat l.length)),h):=fun ev o' x h hx=>zxv hx rfl
 generalize hr:zab reO (Eo O) ih ⟨110,45,.normal,none⟩ ⟨tm,h',[]⟩=r
 unfold reI reO reP at e1
 simp only [Tryz.f110,cF,Option.getD,cA,cB,cI,zab] at e1
 unfold reO reP at hr
 simp only [SSb,Tryz.f110,cF,Option.getD,cA,cB,cI,zab,zac,zao,zak,zau,zal,lim,Nat.reduceLT,Nat.reduceEqDiff,and_true,if_true,if_false,reduceIte,false_and,true_and,Nat.beq,cond_true,cond_false,zad,zae,zaf,zar,zap,zat,Option.bind_some,zaj,List.getElem?_toArray,List.getElem?_cons_succ,List.getElem?_cons_zero,List.drop_succ_cons,List.drop_zero,zah,zas,Bool.and_self,Bool.true_and,t0,t3,t4,hlen,hk',zES,e1,r0,r3,r4,r5,r6,zLg,zHz,s1,s2,s3,zGh,hk2] at hr
 subst hr
 refine ⟨_,rfl,⟨rfl,rfl,?_,?_,?_⟩⟩
 ·simp [zaa,lim,r0]
 ·rw [hfn]; simp [zaa,lim]
 ·simp [zaa,lim]
theorem zIt {b o cp:Nat} {l:List Nat} {h:SHeap} (st:St) (hI:ReT b o cp l h l.length st) :
  ∃ st',zab reO (Eo O) ih ⟨110,45,.normal,none⟩ st=.ok (.exit 0,st')∧ReT b o cp l h l.length st':=by
 obtain ⟨tm,h0,dd⟩:=st
 obtain ⟨hd,hh,t0,t3,t4⟩:=hI
 simp only at hd hh t0 t3 t4
 subst hd hh
 have hk':decide (Int.ofNat l.length<Int.ofNat l.length)=false:=decide_eq_false (by omega)
 have hlen:∀ (ev:Ev) (o':Oper) (x:Operand) (h:SHeap),ev x=some (.slice (some ⟨b,o,none⟩) l.length cp)→zbY (Eo O) ev o' ⟨.builtin .len,#[x],#[26]⟩ h=.ok (.value (.int .i64 (.ofNat l.length)),h):=fun ev o' x h hx=>zxv hx rfl
 generalize hr:zab reO (Eo O) ih ⟨110,45,.normal,none⟩ ⟨tm,h0,[]⟩=r
 unfold reO reP at hr
 simp only [SSb,Tryz.f110,cF,Option.getD,cA,cB,cI,zab,zac,zao,zak,zau,zal,lim,Nat.reduceLT,Nat.reduceEqDiff,and_true,if_true,if_false,reduceIte,false_and,true_and,Nat.beq,cond_true,cond_false,zad,zae,zaf,zar,zap,zat,Option.bind_some,zaj,List.getElem?_toArray,List.getElem?_cons_succ,List.getElem?_cons_zero,List.drop_succ_cons,List.drop_zero,zah,zas,Bool.and_self,Bool.true_and,t0,t4,hlen,hk'] at hr
 subst hr
 exact ⟨_,rfl,⟨rfl,rfl,by simp [zaa,lim,t0],by simp [zaa,lim,t3],by simp [zaa,lim,t4]⟩⟩
theorem zJS {n:Nat} (hO:O 110=none) {b o cp:Nat} {l:List Nat} {h:SHeap} (hB:Byt h b o l) (hn:h.next≤lim) (hl:l.length≤200000) :
  run (Eo O) (n+1) (.call 110 #[.slice (some ⟨b,o,none⟩) l.length cp] .normal) h=.ok (.int .i64 (.ofNat (fnv l)),h):=by
 suffices hcc:∃ tm',zab (cF Tryz.f110) (Eo O) (run (Eo O) n) ⟨110,45,.normal,none⟩ ⟨Tr.ofL 33 [.slice (some ⟨b,o,none⟩) l.length cp],h,[]⟩=.ok (.ret,⟨tm',h,[]⟩)∧tm'.get 2=some (.int .i64 (.ofNat (fnv l))) by
  obtain ⟨tm',k1,k2⟩:=hcc
  exact (zby (show (Eo O).O 110=none from hO)).trans (zaY (vs:=[_]) zLM zDs zNA rfl zFH k1 (by simp only [zaQ,k2,zcM]))
 generalize run (Eo O) n=ih
 have t0:(Tr.ofL 33 [Value.slice (some ⟨b,o,none⟩) l.length cp]).get 0=some (.slice (some ⟨b,o,none⟩) l.length cp):=rfl
 generalize Tr.ofL 33 [Value.slice (some ⟨b,o,none⟩) l.length cp]=tm at t0
 have hin:ReT b o cp l h 0 ⟨(((tm.put 2 (some (.int .i64 0))).put 3 (some (.int .i64 2166136261))).put 4 (some (.int .i64 0))),h,[]⟩:=
  ⟨rfl,rfl,by simp [zaa,lim,t0],by simp [zaa,lim,fnv],by simp [zaa,lim]⟩
 obtain ⟨⟨tm',h',dd'⟩,e1,⟨rd,rh,r0,r3,r4⟩⟩:=zfe (f:=zab reO (Eo O) ih ⟨110,45,.normal,none⟩) (I:=fun i st=>ReT b o cp l h i st) (N:=l.length) (id:=0) (Q:=fun st=>ReT b o cp l h l.length st)
  (fun i st hi hI=>zPn hB hn hl i hi st hI) (fun st hI=>zIt st hI) l.length 1000000 0 _ (by omega) (by omega) hin
 simp only at rd rh r3
 subst rd rh
 generalize hr:zab (cF Tryz.f110) (Eo O) ih ⟨110,45,.normal,none⟩ ⟨tm,h',[]⟩=r
 unfold reO reP at e1
 simp only [Tryz.f110,cF,Option.getD,cA,cB,cI,zab] at e1
 simp only [SSb,Tryz.f110,cF,Option.getD,cA,cB,cI,zab,zac,zao,zak,zau,zal,lim,Nat.reduceLT,Nat.reduceEqDiff,and_true,if_true,if_false,reduceIte,false_and,true_and,Nat.beq,cond_true,cond_false,zad,zae,zaf,zar,zap,zat,Option.bind_some,zaj,List.getElem?_toArray,List.getElem?_cons_succ,List.getElem?_cons_zero,List.drop_succ_cons,List.drop_zero,zah,zas,Bool.and_self,Bool.true_and,t0,e1,r3] at hr
 rw [List.take_length] at hr
 subst hr
 exact ⟨_,rfl,by simp [zaa,lim]⟩
/-! ## as oracles -/
theorem zlw {α:Type} {t:Tr α}:∀ (n i:Nat) (l:List α),t.toListFrom i n=some l→l.length=n∧∀ j,j<n→l[j]? = t.get (i+j)
 | 0,i,l,h=>by obtain rfl:=Option.some.inj h; exact ⟨rfl,fun j hj=>by omega⟩
 | n+1,i,l,h=>by
  unfold Tr.toListFrom at h
  split at h
  ·cases h
  ·rename_i x hx
   rw [zaD] at h
   split at h
   ·cases h
   ·rename_i xs hxs
    obtain rfl:=Option.some.inj h
    obtain ⟨e1,e2⟩:=zlw n (i+1) xs hxs
    refine ⟨by simp [e1],fun j hj => ?_⟩
    cases j with
    | zero=>rw [Nat.add_zero,hx]; rfl
    | succ j=>rw [List.getElem?_cons_succ,e2 j (by omega),show i+1+j=i+(j+1) by omega]
theorem zsw:∀ {l:List Value} {m:List Nat},zkO l=some m→l=m.map (fun n=>.int .u8 (.ofNat n))∧∀ x∈m,x<256
 | [],m,h=>by obtain rfl:=Option.some.inj h; exact ⟨rfl,fun x hx=>by simp at hx⟩
 | v::r,m,h=>by
  unfold zkO at h
  split at h
  ·rename_i n
   cases q:Nat.blt n 256 with
   | false=>rw [q] at h; simp at h
   | true=>
    rw [q,cond_true] at h
    split at h
    ·rename_i l hl
     obtain rfl:=Option.some.inj h
     obtain ⟨e1,e2⟩:=zsw hl
     refine ⟨by rw [e1]; rfl,fun x hx => ?_⟩
     rcases List.mem_cons.1 hx with rfl | hx
     ·exact zaB q
     ·exact e2 x hx
    ·cases h
  ·cases h
theorem zEk {args:List Value} {h:SHeap} {l:List Value} {m:List Nat} (e:zhF args h=some l) (hm:zkO l=some m):∃ b o cp,args=[.slice (some ⟨b,o,none⟩) m.length cp]∧Byt h b o m∧m.length≤200000∧h.next≤lim:=by
 unfold zhF at e
 split at e
 ·rename_i b o n cp
  cases q:(Nat.ble n 200000&&Nat.ble h.next lim) with
  | false=>rw [q] at e; simp at e
  | true=>
   rw [q,cond_true] at e
   rw [Bool.and_eq_true] at q
   split at e
   ·rename_i c k1 k2 k3 k4 hb
    obtain ⟨e1,e2⟩:=zlw n o l e
    obtain ⟨rfl,m2⟩:=zsw hm
    have hlen:m.length=n:=by simpa using e1
    refine ⟨b,o,cp,by rw [hlen],⟨⟨c,k1,k2,k3,k4,hb,fun i x hi => ?_⟩,m2⟩,by rw [hlen]; exact Nat.le_of_ble_eq_true q.1,Nat.le_of_ble_eq_true q.2⟩
    have hi':i<n:=by
     rcases Nat.lt_or_ge i m.length with w | w
     ·omega
     ·rw [List.getElem?_eq_none w] at hi; cases hi
    rw [← e2 i hi',List.getElem?_map,hi]; rfl
   ·cases e
 ·cases e
theorem zoR {f:FuncId} {k:IntKind} (KE:EnvOK (Eo O)) (hdraw:zcp (Eo O)) (hOK:∀ f g,(Eo O).O f=some g→zaz (Eo O) f g)
  (hr:∀ {b o cp:Nat} {l:List Nat} {h:SHeap},Byt h b o l→h.next≤lim→l.length≤200000→run (Eo O) 1 (.call f #[.slice (some ⟨b,o,none⟩) l.length cp] .normal) h=.ok (.int k (.ofNat (fnv l)),h)):zaz (Eo O) f (zik k):=
 zcJ (zdc KE hdraw hOK 1) fun args h v h' hlow hok=>by
  unfold zik at hok
  split at hok
  ·rename_i l hl
   split at hok
   ·rename_i m hm
    rw [zaD] at hok
    obtain ⟨rfl,rfl⟩:=zaq hok
    obtain ⟨b,o,cp,ha,hB,h1,h2⟩:=zEk hl hm
    have ha':args = #[.slice (some ⟨b,o,none⟩) m.length cp]:=by
     have:=congrArg List.toArray ha
     simpa using this
    subst ha'
    exact ⟨_,hr hB h2 h1,rfl,fun b o hb=>⟨o,hb,ObjLe.refl o⟩⟩
   ·simp at hok
  ·simp at hok
theorem zry (KE:EnvOK (Eo O)) (hdraw:zcp (Eo O)) (hOK:∀ f g,(Eo O).O f=some g→zaz (Eo O) f g) (hO:O 31=none):zaz (Eo O) 31 (zik .u32):=
 zoR KE hdraw hOK fun hB hn hl=>zGF (n:=0) hO hB hl
theorem zos (KE:EnvOK (Eo O)) (hdraw:zcp (Eo O)) (hOK:∀ f g,(Eo O).O f=some g→zaz (Eo O) f g) (hO:O 110=none):zaz (Eo O) 110 (zik .i64):=
 zoR KE hdraw hOK fun hB hn hl=>zJS (n:=0) hO hB hn hl
theorem ztI:∀ {l:List Nat},(∀ x∈l,x<256)→zkO (l.map fun n=>Value.int .u8 (.ofNat n))=some l
 | [],_=>rfl
 | n::r,h=>by
  simp only [List.map,zkO,zaI (h n (by simp)),cond_true,ztI (l:=r) fun x hx=>h x (by simp [hx])]
theorem zER {κ:Nat} (hb:zbH κ=true) (t:Nat):(zdD t).map (ph κ)=((zdD t).map (evN κ)).map (fun n=>Value.int .u8 (.ofNat n))∧∀ x∈(zdD t).map (evN κ),x<256:=by
 have box:κ%128≤49∧κ/128≤49:=by
  simp only [zbH,Bool.and_eq_true] at hb
  exact ⟨Nat.le_of_ble_eq_true hb.1.1,Nat.le_of_ble_eq_true hb.2⟩
 have one:∀ v∈zdD t,ph κ v=.int .u8 (.ofNat (evN κ v))∧evN κ v<256:=by
  have hX:ph κ bX=.int .u8 (.ofNat (evN κ bX))∧evN κ bX<256:=by
   have e:zdy 2361183241434822606849 604462909807864343166978=⟨.u8,0,2,0⟩:=by kernel_rfl
   have q:SyF.ev ⟨.u8,0,2,0⟩ κ=Int.ofNat (2*(κ%128)):=by simp [SyF.ev]
   have e1:ph κ bX=.int (zdy 2361183241434822606849 604462909807864343166978).k ((zdy 2361183241434822606849 604462909807864343166978).ev κ):=rfl
   have e2:evN κ bX=((zdy 2361183241434822606849 604462909807864343166978).ev κ).toNat:=rfl
   rw [e1,e2,e,q]
   exact ⟨rfl,by show 2*(κ%128)<256; omega⟩
  have hY:ph κ bY=.int .u8 (.ofNat (evN κ bY))∧evN κ bY<256:=by
   have e:zdy 2361183241434822606849 604462909810063366422528=⟨.u8,0,0,2⟩:=by kernel_rfl
   have q:SyF.ev ⟨.u8,0,0,2⟩ κ=Int.ofNat (2*(κ/128)):=by simp [SyF.ev]
   have e1:ph κ bY=.int (zdy 2361183241434822606849 604462909810063366422528).k ((zdy 2361183241434822606849 604462909810063366422528).ev κ):=rfl
   have e2:evN κ bY=((zdy 2361183241434822606849 604462909810063366422528).ev κ).toNat:=rfl
   rw [e1,e2,e,q]
   exact ⟨rfl,by show 2*(κ/128)<256; omega⟩
  have hP:∀ l:List Nat,(∀ x∈l,x<256)→∀ v∈bts l,ph κ v=.int .u8 (.ofNat (evN κ v))∧evN κ v<256:=by
   intro l hl v hv
   obtain ⟨n,hn,rfl⟩:=List.mem_map.1 hv
   exact ⟨rfl,hl n hn⟩
  intro v hv
  unfold zdD at hv
  rcases List.mem_append.1 hv with hv | hv
  ·rcases List.mem_append.1 hv with hv | hv
   ·exact hP _ (by decide) v hv
   ·rcases List.mem_cons.1 hv with rfl | hv
    ·exact hX
    ·exact hP _ (by decide) v hv
  ·rcases List.mem_cons.1 hv with rfl | hv
   ·split
    ·exact ⟨rfl,show (0:Nat)<256 by decide⟩
    ·exact hY
   ·exact hP _ (by decide) v hv
 refine ⟨?_,fun x hx => ?_⟩
 ·rw [List.map_map]
  exact List.map_congr_left fun v hv=>(one v hv).1
 ·obtain ⟨v,hv,rfl⟩:=List.mem_map.1 hx
  exact (one v hv).2
theorem zyJ {κ:Nat} {args:List Value} {h:SHeap} {l:List Value} (e:zhF args h=some l):zhF (args.map (phV κ)) (phH κ h)=some (l.map (ph κ)):=by
 unfold zhF at e
 split at e
 ·rename_i b o n cp
  cases q:(Nat.ble n 200000&&Nat.ble h.next lim) with
  | false=>rw [q] at e; simp at e
  | true=>
   rw [q,cond_true] at e
   split at e
   ·rename_i c k1 k2 k3 k4 hb
    show zhF [.slice (some ⟨b,o,none⟩) n cp] (phH κ h)=_
    unfold zhF
    simp only
    rw [show (Nat.ble n 200000&&Nat.ble (phH κ h).next lim)=true from q,cond_true,zdO hb]
    exact zhx n o l e
   ·cases e
 ·cases e
theorem zvV {E:Env} {f:FuncId} {k:IntKind} {s:Nat} (hk:(k=.i64∧s=0)∨(k=.u32∧s=40)) (hG:0<E.G) (hQ:zaz E f (zik k)):zaz E f (zsj s):=zrE hG hQ fun κ hb args h v h' hlow hcell hok=>by
 have go:∀ t,10≤t→∀ l,zhF args h=some l→zhc l (zdD t)=true→∃ v2 h2,zik k (args.map (phV κ)) (phH κ h)=.ok (v2,h2)∧(∀ ρ' u,ρ' 0=some (0,κ)→VRel ρ' v2 u→VRel ρ' (.complex .f32 t s) u)∧h2.next=h.next∧∀ b o,h.t.get b=some o→∃ o2,h2.t.get b=some o2∧OL κ o2 o:=by
  intro t ht l hl he
  obtain rfl:=zjS he
  obtain ⟨p1,p2⟩:=zER hb t
  refine ⟨.int k (.ofNat (zft κ t)),phH κ h,?_,fun ρ' u h0 hv => ?_,rfl,fun q o hq=>ziD q o hq⟩
  ·unfold zik
   rw [zyJ hl]
   simp only
   rw [p1,ztI p2]
   simp only [zaD]
   rfl
  ·rw [hv.int_inv]
   refine .arg h0 hb (.inr ⟨ht,?_⟩)
   rcases hk with ⟨rfl,rfl⟩ | ⟨rfl,rfl⟩
   ·exact .inl ⟨rfl,.inl ⟨rfl,rfl⟩⟩
   ·exact .inr (.inr ⟨rfl,rfl,rfl⟩)
 unfold zsj at hok
 split at hok
 ·rename_i l hl
  cases e1:zhc l (zdD 10) with
  | true=>
   rw [e1,cond_true] at hok
   obtain ⟨rfl,rfl⟩:=zaq hok
   exact go 10 (by omega) l hl e1
  | false=>
   rw [e1,cond_false] at hok
   cases e2:zhc l (zdD 11) with
   | true=>
    rw [e2,cond_true] at hok
    obtain ⟨rfl,rfl⟩:=zaq hok
    exact go 11 (by omega) l hl e2
   | false=>rw [e2] at hok; simp at hok
 ·simp at hok
end Go.Proofs.YtghhpeemloeljaaGreat
set_option linter.unusedVariables false
namespace Go.Sim
variable {E:Env}
theorem zuc (KE:EnvOK E) (hdraw:zcp E) {ih:K} (hih:KOK E ih) {f:FuncId} {fd:Func} {args rargs:Array Value} {h:SHeap} {ρ:Ren} {w:World} (hw:WRel E ρ h w) (hg:zeu E ρ) (ha:LRel ρ args.toList rargs.toList) {n:Nat} {c:Code} {o:OutN} {st:St}
  (hok:zbo E ih ⟨f,max fd.ntmps args.size,.normal,none⟩ n c ⟨Tr.ofL 33 args.toList,h,[]⟩=.ok [(o,st)]):∀ b ob,st.h.t.get b=some ob→b<st.h.next:=by
 have hx:FxRel ρ ⟨f,max fd.ntmps args.size,.normal,none⟩ ⟨f,.normal,none⟩:=⟨rfl,rfl,trivial⟩
 have hs:SRel E ρ ⟨f,max fd.ntmps args.size,.normal,none⟩ ⟨Tr.ofL 33 args.toList,h,[]⟩ (rargs++Array.replicate (fd.ntmps-rargs.size) undef) [] w:=⟨zof ha fd.ntmps,.nil,hw,hg⟩
 obtain ⟨p,hp,ρ1,tm1,ds1,w1,m1,k1,_⟩:=zeK KE hdraw hih n c _ _ ρ _ _ [] w _ hx hs hok [] [] (fun e=>by simp at e)
 obtain rfl:=List.mem_singleton.1 hp
 exact fun b ob hb=>let ⟨r,κ,a,_⟩:=k1.w.live b ob hb; k1.w.dom b _ a
theorem zuI (KE:EnvOK E) (hdraw:zcp E) {ih:K} (hih:KOK E ih) {f:FuncId} {fd:Func} {g:OF}
  (hg:∀ (args:Array Value) h v h',(∀ b o,h.t.get b=some o→b<h.next) →
   (∀ (n:Nat) (c:Code) (o:OutN) (st:St),zbo E ih ⟨f,max fd.ntmps args.size,.normal,none⟩ n c ⟨Tr.ofL 33 args.toList,h,[]⟩=.ok [(o,st)]→∀ b ob,st.h.t.get b=some ob→b<st.h.next)→g args.toList h=.ok (v,h') →
   ∃ h'',zkm E ih f args h=.ok [(v,h'')]∧h''.next=h'.next∧∀ b o,h'.t.get b=some o→∃ o2,h''.t.get b=some o2∧ObjLe E o2 o):zaz E f g:=by
 intro args h v h' hok ρ w hw hgr rargs ha c cs
 obtain ⟨h'',h1,h2,h3⟩:=hg args h v h' (fun b o hb=>let ⟨r,κ,a,_⟩:=hw.live b o hb; hw.dom b _ a) (fun n c o st hc=>zuc KE hdraw hih hw hgr ha hc) hok
 obtain ⟨p,hp,ρ',w',u,k4,k2,k3,k1⟩:=zrc KE hdraw hih h1 hw hgr ha c cs
 obtain rfl:=List.mem_singleton.1 hp
 simp only at k4 k2 k3
 have hM:∀ r,zce ρ' h' r→zce ρ' h'' r:=fun r ⟨b,o,κ,a,e⟩=>let ⟨o2,b1,_⟩:=h3 b o a; ⟨b,o2,κ,b1,e⟩
 have hO:∀ r,Own ρ' h' r→Own ρ' h'' r:=fun r ⟨b,o,κ,a,e,n⟩=>let ⟨o2,b1,b2⟩:=h3 b o a; ⟨b,o2,κ,b1,e,b2.ro.1 n⟩
 refine ⟨ρ',w',u,k4,⟨fun b p hb=>by have:=k2.dom b p hb; omega,fun b o hb => ?_,fun b b' o o' r κ κ' hb hb' => ?_,k2.glob⟩,
  ⟨k3.le,k3.size,fun r hr hn=>let ⟨a,e⟩:=k3.keep r hr hn; ⟨a,fun h=>e (hO r h)⟩,k3.os,k3.output,k3.tape,fun r hr hn h=>k3.fresh r hr hn (hM r h),k3.names,by have:=k3.next; omega⟩,k1⟩
 ·obtain ⟨o2,b1,b2⟩:=h3 b o hb
  obtain ⟨r,κ,c1,c2⟩:=k2.live b o2 b1
  exact ⟨r,κ,c1,b2.at_ _ _ _ _ c2⟩
 ·obtain ⟨o2,b1,q⟩:=h3 b o hb
  obtain ⟨o2',b1',_⟩:=h3 b' o' hb'
  exact fun e1 e2 hs=>k2.inj b b' o2 o2' r κ κ' b1 b1' e1 e2 (hs.imp q.sent id)
/-! ## the rules of all outcomes,where there is one -/
variable {ih:K} {fx:Fx}
theorem zyn {n:Nat} {a b:Code} {st:St}:zbo E ih fx (n+1) (.seq a b) st=zeN (zgs (zbo E ih fx n b)) (zbo E ih fx n a st):=rfl
theorem zve {n:Nat} {st:St}:zbo E ih fx (n+1) .skip st=.ok [(.out .normal,st)]:=rfl
theorem zJE {n:Nat} {st:St}:zbo E ih fx (n+1) .ret st=.ok [(.out .ret,st)]:=rfl
theorem zvM {n l:Nat} {st:St}:zbo E ih fx (n+1) (.goto l) st=.ok [(.goto l,st)]:=rfl
theorem zvn {n:Nat} {c:Operand} {a b:Code} {tm:Tr Value} {h:SHeap} {ds:List Deferred} (hc:evT E.G tm c=some (.bool true)):zbo E ih fx (n+1) (.cond c a b) ⟨tm,h,ds⟩=zbo E ih fx n a ⟨tm,h,ds⟩:=by
 show (match evT E.G tm c with | some (.bool t)=>_ | _=>_)=_
 rw [hc]
theorem zuy {n:Nat} {c:Operand} {a b:Code} {tm:Tr Value} {h:SHeap} {ds:List Deferred} (hc:evT E.G tm c=some (.bool false)):zbo E ih fx (n+1) (.cond c a b) ⟨tm,h,ds⟩=zbo E ih fx n b ⟨tm,h,ds⟩:=by
 show (match evT E.G tm c with | some (.bool t)=>_ | _=>_)=_
 rw [hc]
theorem zrm {all:Array Oper}:∀ (l:List Oper) (st:St),l.all (fun o=>(zfW o).isNone)=true→zhb E ih fx all l st=(match zep E ih fx all l st with | .error e=>.error e | .ok st=>.ok [st])
 | [],st,_=>rfl
 | o::r,st,h=>by
  simp only [List.all_cons,Bool.and_eq_true] at h
  obtain ⟨h1,h2⟩:=h
  have hn:zfW o=none:=by
   cases e:zfW o with
   | none=>rfl
   | some x=>rw [e] at h1; simp at h1
  simp only [zhb,hn,zep]
  cases opS E ih fx all o st with
  | error e=>rfl
  | ok st=>exact zrm r st h2
theorem zzi {n i:Nat} {ops:List Oper} {tm:Tr Value} {h:SHeap} {ds:List Deferred} (hn:ops.all (fun o=>(zfW o).isNone)=true):zbo E ih fx (n+1) (.region i ops.toArray false) ⟨tm,h,ds⟩=(match zep E ih fx ops.toArray ops ⟨tm,h,ds⟩ with | .error e=>.error e | .ok st=>.ok [(.out .normal,st)]):=by
 show zmQ (zhb E ih fx ops.toArray ops.toArray.toList ⟨tm,h,ds⟩)=_
 rw [List.toList_toArray,zrm _ _ hn]
 cases zep E ih fx ops.toArray ops ⟨tm,h,ds⟩ with
 | error e=>rfl
 | ok st=>rfl
theorem zpM {k:St→NR} {st:St}:zeN (zgs k) (.ok [(.out .normal,st)])=k st:=by
 show zfV (zgs k) [(.out .normal,st)]=_
 simp only [zfV,zgs]
 cases k st with
 | error e=>rfl
 | ok l=>simp
theorem zti {k:St→NR} {st:St}:zeN (zgs k) (.ok [(.out .ret,st)])=.ok [(.out .ret,st)]:=rfl
theorem zrq {k:St→NR} {st:St} {l:Nat}:zeN (zgs k) (.ok [(.goto l,st)])=.ok [(.goto l,st)]:=rfl
theorem zoW {run:Code→St→NR} {body rest:Code} {l:Nat} (hl:findLabel body l=some rest) {I:Nat→St→Prop} {N:Nat} {o:Out} {P:St→Prop} (hs:∀ j st,j<N→I j st→∃ st',run rest st=.ok [(.goto l,st')]∧I (j+1) st')
  (he:∀ st,I N st→∃ st',run rest st=.ok [(.out o,st')]∧P st'):∀ (n fuel j:Nat) (st:St),N=j+n→n+1<fuel→I j st→∃ st',zfX run body fuel (.goto l,st)=.ok [(.out o,st')]∧P st'
 | 0,fuel+2,j,st,hN,hf,hi=>by
  obtain rfl:N=j:=by omega
  obtain ⟨st',h1,h2⟩:=he st hi
  refine ⟨st',?_,h2⟩
  simp only [zfX,hl,h1,zeN,zfV,List.append_nil]
 | n+1,fuel+1,j,st,hN,hf,hi=>by
  obtain ⟨st1,h1,h2⟩:=hs j st (by omega) hi
  obtain ⟨st',h3,h4⟩:=zoW hl hs he n fuel (j+1) st1 (by omega) (by omega) h2
  refine ⟨st',?_,h4⟩
  simp only [zfX,hl,h1,zeN,zfV,h3,List.append_nil]
end Go.Sim
set_option linter.unusedSimpArgs false
set_option linter.unusedVariables false
namespace Go.Proofs.YtghhpeemloeljaaGreat
open Go Go.Sim
set_option maxRecDepth 100000
set_option maxHeartbeats 1000000
variable {O:OT} {ih:K}
theorem ziQ {E:Env} {ih:K} {l:List Oper} {nt base i lo:Nat} {heaps:List SHeap} {tm:Tr Value} {h:SHeap} {cur:List Nat} :
  zcc E ih l.toArray nt base ⟨i,.pure,lo⟩ ⟨heaps,tm,h,cur⟩=(match l[i]? with
   | none=>.error "draw  no operation"
   | some ⟨dst,op,ty,pos,after,g⟩=>match zah l.toArray tm g with
    | none=>.error "draw  guard"
    | some false=>.ok ⟨heaps,zcr tm nt dst (.tuple #[]),h,cur⟩
    | some true=>match zdP (zac op E (evT E.G tm) ⟨dst,op,ty,pos,after,g⟩ zhL) with
     | .ok v=>.ok ⟨heaps,zcr tm nt dst v,h,cur⟩
     | .error e=>.error e):=by
 rcases ho:l[i]? with _ | ⟨dst,op,ty,pos,after,g⟩
 ·simp only [zcc,List.getElem?_toArray,ho]
 ·simp only [zcc,List.getElem?_toArray,ho]
  cases zah l.toArray tm g with
  | none=>rfl
  | some b=>cases b with
   | false=>rfl
   | true=>
    simp only [PKind.isEff,cond_false,zhg,zdi]
    cases zdP (zac op E (evT E.G tm) ⟨dst,op,ty,pos,after,g⟩ zhL)<;>rfl
theorem zjc {E:Env} {ih:K} {l:List Oper} {nt base i:Nat} {hh:SHeap} {old:List SHeap} {tm:Tr Value} {h:SHeap} {cur:List Nat} :
  zcc E ih l.toArray nt base ⟨i,.read,0⟩ ⟨hh::old,tm,h,cur⟩=(match l[i]? with
   | none=>.error "draw  no operation"
   | some ⟨dst,op,ty,pos,after,g⟩=>match zah l.toArray tm g with
    | none=>.error "draw  guard"
    | some false=>.ok ⟨hh::old,zcr tm nt dst (.tuple #[]),h,cur⟩
    | some true=>match zdP (zac op E (evT E.G tm) ⟨dst,op,ty,pos,after,g⟩ hh) with
     | .ok v=>bif zdl E (evT E.G tm) ⟨dst,op,ty,pos,after,g⟩ v old then .ok ⟨hh::old,zcr tm nt dst v,h,cur⟩ else .error "draw  a read that hangs on the order"
     | .error e=>.error e):=by
 rcases ho:l[i]? with _ | ⟨dst,op,ty,pos,after,g⟩
 ·simp only [zcc,List.getElem?_toArray,ho]
 ·simp only [zcc,List.getElem?_toArray,ho]
  cases zah l.toArray tm g with
  | none=>rfl
  | some b=>cases b with
   | false=>rfl
   | true=>
    simp only [PKind.isEff,cond_false,zhg,zdi,Nat.sub_zero,List.take_length]
    cases zdP (zac op E (evT E.G tm) ⟨dst,op,ty,pos,after,g⟩ hh) with
    | error e=>rfl
    | ok v=>
     simp only
     cases hR:zdl E (evT E.G tm) ⟨dst,op,ty,pos,after,g⟩ v old<;>simp only [hR,cond_true,cond_false]
theorem zCj {E:Env} {G:Nat} {tm:Tr Value} {o:Oper} {x:Operand} {f:FuncId} {a:Value} {args:Array Operand} {ats:Array TypeId} {h:SHeap} (he:zcY E f) (hx:evT G tm x=some (.func (.func f) #[a] #[])):zbY E (evT G tm) o ⟨.value x,args,ats⟩ h=(match zaj (evT G tm) args.toList with
  | none=>.error "call  args"
  | some l=>.ok (.enter f (a::l).toArray,h)):=by
 simp only [zbY,zen,hx]
 cases zaj (evT G tm) args.toList with
 | none=>rfl
 | some l=>simp only [zej,Array.append_empty,he _ _,show #[a]++l.toArray=(a::l).toArray by simp]
theorem zVt {f:FuncId} {a:Value} {h:SHeap}:zio (.func f) (some [a]) (some []) h=.ok (.value (.func (.func f) #[a] #[]),h):=(id rfl)
/-! ## the types -/
theorem E24:(Eo O).T 24=some ⟨Tab.t24.desc,8,Tab.t24.bytes,Tab.t24.zero⟩:=by show Tab.types.get 24=_; kernel_rfl
theorem zMg:TI.agg ⟨Tab.t24.desc,8,Tab.t24.bytes,Tab.t24.zero⟩=true:=by kernel_rfl
theorem E25:(Eo O).T 25=some ⟨.slice 24,1,Tab.t25.bytes,Tab.t25.zero⟩:=by show Tab.types.get 25=_; kernel_rfl
theorem E43:(Eo O).T 43=some ⟨.slice 3,1,Tab.t43.bytes,Tab.t43.zero⟩:=by show Tab.types.get 43=_; kernel_rfl
theorem E73:(Eo O).T 73=some ⟨.map 3 3,1,Tab.t73.bytes,Tab.t73.zero⟩:=by show Tab.types.get 73=_; kernel_rfl
theorem zKM {a:Addr} {h:SHeap}:zbz (Eo O) ((Eo O).T 24) (some (.pointer (some a))) 0 h=.ok (.value (.pointer (some (zbe a 0))),h):=by kernel_rfl
theorem zLe {a:Addr} {h:SHeap}:zbz (Eo O) ((Eo O).T 24) (some (.pointer (some a))) 1 h=.ok (.value (.pointer (some (zbe a 1))),h):=by kernel_rfl
theorem zKd {a:Addr} {h:SHeap}:zbz (Eo O) ((Eo O).T 24) (some (.pointer (some a))) 6 h=.ok (.value (.pointer (some (zbe a 6))),h):=by kernel_rfl
theorem zHa {a:Addr} {h:SHeap}:zbz (Eo O) ((Eo O).T 84) (some (.pointer (some a))) 1 h=.ok (.value (.pointer (some (zbe a 420))),h):=by kernel_rfl
theorem zIk {a:Addr} {h:SHeap}:zbz (Eo O) ((Eo O).T 84) (some (.pointer (some a))) 2 h=.ok (.value (.pointer (some (zbe a 421))),h):=by kernel_rfl
theorem zJp {a:Addr} {h:SHeap}:zbz (Eo O) ((Eo O).T 84) (some (.pointer (some a))) 3 h=.ok (.value (.pointer (some (zbe a 422))),h):=by kernel_rfl
theorem zII {a:Addr} {h:SHeap}:zbz (Eo O) ((Eo O).T 84) (some (.pointer (some a))) 6 h=.ok (.value (.pointer (some (zbe a 468))),h):=by kernel_rfl
theorem zHX {a:Addr} {h:SHeap}:zbz (Eo O) ((Eo O).T 84) (some (.pointer (some a))) 7 h=.ok (.value (.pointer (some (zbe a 469))),h):=by kernel_rfl
theorem zsW {a:Addr} {h:SHeap}:zbz (Eo O) ((Eo O).T 84) (some (.pointer (some a))) 8 h=.ok (.value (.pointer (some (zbe a 470))),h):=by kernel_rfl
theorem zXp {b o i n c:Nat} {h:SHeap} (hi:i<n):zcy (Eo O) ((Eo O).T 25) (some (.slice (some ⟨b,o,none⟩) n c)) (some i) h=.ok (.value (.pointer (some (zbe ⟨b,o,none⟩ (i*8)))),h):=by
 rw [E25]
 show zcm (Eo O) 24 n ⟨b,o,none⟩ i h=_
 unfold zcm
 rw [E24]
 simp only [zaI hi,cond_true,zal]
theorem zMc {b o i n c:Nat} {h:SHeap} (hi:i<n):zcy (Eo O) ((Eo O).T 43) (some (.slice (some ⟨b,o,none⟩) n c)) (some i) h=.ok (.value (.pointer (some (zbe ⟨b,o,none⟩ (i*1)))),h):=by
 rw [E43]
 show zcm (Eo O) 3 n ⟨b,o,none⟩ i h=_
 unfold zcm
 rw [E3]
 simp only [zaI hi,cond_true,zal]
theorem zLj {h:SHeap} {b n e k:Nat} {o r:Bool} {c:Tr Value} (hb:h.t.get b=some (.cells c n e o r)) (hc:∀ j,j<8→c.get (k+j)=jaB[j]?):zba (Eo O) 24 (some (.pointer (some ⟨b,k,none⟩))) h=.ok (.value (.agg jaB.toArray),h):=by
 unfold zba loadAt
 simp only [E24,hb]
 rw [if_pos zMg]
 have h0:=hc 0 (by omega); have h1:=hc 1 (by omega); have h2:=hc 2 (by omega); have h3:=hc 3 (by omega)
 have h4:=hc 4 (by omega); have h5:=hc 5 (by omega); have h6:=hc 6 (by omega); have h7:=hc 7 (by omega)
 have:range c n k 8=some jaB:=by
  unfold range
  rw [show Nat.ble 8 12=true from rfl,cond_true]
  simp only [Nat.add_zero] at h0
  simp only [Tr.toListFrom,Nat.add_assoc,Nat.reduceAdd,h0,h1,h2,h3,h4,h5,h6,h7,zaD,jaB,List.getElem?_cons_succ,List.getElem?_cons_zero]
 simp only [this]
 rfl
theorem zMJ {h:SHeap} {cs:List Value}:zfD 24 (some (.agg cs.toArray)) h=.ok (.value (.pointer (some ⟨h.next,0,none⟩)),zai h 24 cs false):=(id rfl)
def zr24:List Value:=[.int .i64 0,.bool false,.bool false,.int .i64 0,.int .i64 0,.int .i64 0,.int .i64 0,.int .i64 0]
/-! ## leap -/
theorem zDZ:Tryz.f117.body=some (cF Tryz.f117):=rfl
theorem zLy:(Eo O).F 117=some Tryz.f117:=by show Tab.funcs.get 117=_; kernel_rfl
theorem zNl {a b:Value}:max Tryz.f117.ntmps (#[a,b]:Array Value).size=12:=rfl
theorem zIn:Tryz.f117.results.toList=[.tmp 4,.tmp 5]:=rfl
theorem zMh:zcY (Eo O) 117:=fun _ _=>by kernel_rfl
theorem zBy {n:Nat} (hO:O 117=none) {p:Value} {h:SHeap} (hn:h.next<lim) :
  run (Eo O) (n+1) (.call 117 #[p,.agg jaB.toArray] .normal) h=.ok (.tuple #[.int .i64 (-1),.int .i64 0],zai h 24 jaB false):=by
 suffices hcc:∃ tm',zab (cF Tryz.f117) (Eo O) (run (Eo O) n) ⟨117,12,.normal,none⟩ ⟨Tr.ofL 33 [p,.agg jaB.toArray],h,[]⟩=.ok (.ret,⟨tm',zai h 24 jaB false,[]⟩)∧tm'.get 4=some (.int .i64 (-1))∧tm'.get 5=some (.int .i64 0) by
  obtain ⟨tm',k1,k2,k3⟩:=hcc
  exact (zby (show (Eo O).O 117=none from hO)).trans (zaY (vs:=[_,_]) zLy zDZ zNl rfl zIn k1 (by simp only [zaQ,k2,k3,zcM]))
 generalize run (Eo O) n=ih
 have hb:(zai h 24 jaB false).t.get h.next=some (.cells (Tr.ofL 33 jaB) jaB.length 24 false false):=by
  simp only [zai,SHeap.new,zaa]
  rw [if_pos ⟨trivial,by omega⟩]
 have hx:=@zMJ h jaB
 generalize zai h 24 jaB false=H at hb hx ⊢
 have l1:zba (Eo O) 4 (some (.pointer (some ⟨h.next,0+1,none⟩))) H=.ok (.value (.bool false),H):=zbD (E:=Eo O) E4 rfl hb rfl
 have l6:zba (Eo O) 3 (some (.pointer (some ⟨h.next,0+6,none⟩))) H=.ok (.value (.int .i64 (-1)),H):=zbD (E:=Eo O) E3 rfl hb rfl
 have t1:(Tr.ofL 33 [p,.agg jaB.toArray]).get 1=some (.agg jaB.toArray):=rfl
 generalize Tr.ofL 33 [p,.agg jaB.toArray]=tm at t1
 generalize hr:zab (cF Tryz.f117) (Eo O) ih ⟨117,12,.normal,none⟩ ⟨tm,h,[]⟩=r
 simp only [Tryz.f117,cF,Option.getD,cA,cB,cI,zab,zbs,zbj,zaJ,zaV,zaT,zbi,zbL,zbt,zbp,zbr,zbq,zaC,zbB,zbh,zay,zaL,zaE,zaS,zac,zao,zak,zbI,zbJ,zbQ,zgH,zau,zbM,zcg,zhi,zdS,zfO,zbV,zal,zaH,zbg,zbf,zaa,lim,Nat.reduceLT,Nat.reduceEqDiff,and_true,if_true,if_false,reduceIte,false_and,true_and,zbx,Nat.beq,cond_true,cond_false,
   zad,zae,zaf,zar,zap,zat,zaZ,zck,zcj,Option.bind_some,zbm,zaG,zbw,zbk,zfr,zbE,zbl,zdV,zdB,valEq_int,zdU,zdW,zgE,zaj,List.getElem?_toArray,List.getElem?_cons_succ,List.getElem?_cons_zero,List.drop_succ_cons,List.drop_zero,zcd,zah,zas,zcf,zbT,Bool.and_self,Bool.true_and,bqa,bqb,bqc,bqd,zeg,zco,dUn,zeJ,zgj,ziQ,zjc,zbn,t1,hx,zLe,zKd,l1,l6] at hr
 subst hr
 exact ⟨_,rfl,by simp [zaa,lim],by simp [zaa,lim]⟩
/-! ## doer -/
theorem zHx:Tryz.f61.body=some (cF Tryz.f61):=rfl
theorem zUf:(Eo O).F 61=some Tryz.f61:=by show Tab.funcs.get 61=_; kernel_rfl
theorem zNX {a b:Value}:max Tryz.f61.ntmps (#[a,b]:Array Value).size=52:=rfl
theorem zLI:Tryz.f61.results.toList=[.tmp 4]:=rfl
theorem zUM:zcY (Eo O) 61:=fun _ _=>by kernel_rfl
theorem zAG {ev:Ev} {o:Oper} {t:TypeId} {x y:Int} {h:SHeap}:zcZ (Eo O) ev o .eql t (some (.int .i64 x)) (some (.int .i64 y)) h=.ok (.value (.bool (x==y)),h):=zel (id rfl)
theorem zsq {ev:Ev} {o:Oper} {t:TypeId} {x y:Int} {h:SHeap}:zcZ (Eo O) ev o .leq t (some (.int .i64 x)) (some (.int .i64 y)) h=.ok (.value (.bool (decide (x≤y))),h):=zel (id rfl)
theorem zIp {G:Nat} {tm:Tr Value}:evT G tm (.const .nilFunc)=some .nilFunc:=(id rfl)
theorem zBE {n:Nat} (hO:O 61=none) {p:Value} {h:SHeap} :
  run (Eo O) (n+1) (.call 61 #[p,.int .i64 26] .normal) h=.ok (.func (.func 117) #[p] #[],h):=by
 suffices hcc:∃ tm',zab (cF Tryz.f61) (Eo O) (run (Eo O) n) ⟨61,52,.normal,none⟩ ⟨Tr.ofL 33 [p,.int .i64 26],h,[]⟩=.ok (.ret,⟨tm',h,[]⟩)∧tm'.get 4=some (.func (.func 117) #[p] #[]) by
  obtain ⟨tm',k1,k2⟩:=hcc
  exact (zby (show (Eo O).O 61=none from hO)).trans (zaY (vs:=[_]) zUf zHx zNX rfl zLI k1 (by simp only [zaQ,k2,zcM]))
 generalize run (Eo O) n=ih
 have t0:(Tr.ofL 33 [p,.int .i64 26]).get 0=some p:=rfl
 have t1:(Tr.ofL 33 [p,.int .i64 26]).get 1=some (.int .i64 26):=rfl
 generalize Tr.ofL 33 [p,.int .i64 26]=tm at t0 t1
 have d15:decide ((26:Int)≤15)=false:=by decide
 have d19:decide ((26:Int)≤19)=false:=by decide
 have d21:decide ((26:Int)≤21)=false:=by decide
 have d23:decide ((26:Int)≤23)=false:=by decide
 have q24:((26:Int)==24)=false:=by decide
 have q25:((26:Int)==25)=false:=by decide
 have q26:((26:Int)==26)=true:=by decide
 generalize hr:zab (cF Tryz.f61) (Eo O) ih ⟨61,52,.normal,none⟩ ⟨tm,h,[]⟩=r
 simp only [Tryz.f61,cF,Option.getD,cA,cB,cI,zab,zbs,zbj,zaJ,zaV,zaT,zbi,zbL,zbt,zbp,zbr,zbq,zaC,zbB,zbh,zay,zaL,zaE,zaS,zac,zao,zak,zbI,zbJ,zbQ,zgH,zau,zbM,zcg,zhi,zdS,zfO,zbV,zal,zaH,zbg,zbf,zaa,lim,Nat.reduceLT,Nat.reduceEqDiff,and_true,if_true,if_false,reduceIte,false_and,true_and,zbx,Nat.beq,cond_true,cond_false,
   zad,zae,zaf,zar,zap,zat,zaZ,zck,zcj,Option.bind_some,zbm,zaG,zbw,zbk,zfr,zbE,zbl,zdV,zdB,valEq_int,zdU,zdW,zgE,zaj,List.getElem?_toArray,List.getElem?_cons_succ,List.getElem?_cons_zero,List.drop_succ_cons,List.drop_zero,zcd,zah,zas,zcf,zbT,Bool.and_self,Bool.true_and,bqa,bqb,bqc,bqd,zeg,zco,dUn,zeJ,zgj,ziQ,zjc,zbn,zIp,t0,t1,zsq,zAG,d15,d19,d21,d23,q24,q25,q26,zVt] at hr
 subst hr
 exact ⟨_,rfl,by simp [zaa,lim]⟩
/-! ## Step -/
structure MOK (h:SHeap) (p:MPl) (s:Int):Prop where
 mm:∃ c n o,h.t.get p.m=some (.cells c n 84 o false)∧471≤n∧c.get 470=some (.bool false)∧c.get 468=some (.int .i64 (.ofNat 1))∧c.get 420=some (.slice (some ⟨p.cb,0,none⟩) 2 p.cc)∧c.get 421=some (.slice (some ⟨p.ub,0,none⟩) p.ul p.uc)∧c.get 422=some (.map (some p.bb))∧c.get 469=some (.int .i64 s)
 cc:∃ c n e o r,h.t.get p.cb=some (.cells c n e o r)∧∀ j,j<8→c.get (8+j)=jaB[j]?
 uu:∃ c n e o r,h.t.get p.ub=some (.cells c n e o r)∧c.get 2=some (.int .i64 (.ofNat 2))
 ul:2<p.ul
 bb:∃ es ck i,h.t.get p.bb=some (.map es ck)∧Instr.findNow (.int .i64) (.int .i64 (.ofNat 1)) es.toList 0=some (some (i,.int .i64 (.ofNat 1)))
variable {h:SHeap} {p:MPl} {s:Int}
theorem MOK.to {h':SHeap} (k:MOK h p s) (e1:h'.t.get p.m=h.t.get p.m) (e2:h'.t.get p.cb=h.t.get p.cb) (e3:h'.t.get p.ub=h.t.get p.ub) (e4:h'.t.get p.bb=h.t.get p.bb):MOK h' p s:=by
 obtain ⟨k1,k2,k3,k4,k5⟩:=k
 rw [← e1] at k1; rw [← e2] at k2; rw [← e3] at k3; rw [← e4] at k5
 exact ⟨k1,k2,k3,k4,k5⟩
theorem MOK.l470 (k:MOK h p s):zba (Eo O) 4 (some (.pointer (some ⟨p.m,0+470,none⟩))) h=.ok (.value (.bool false),h):=let ⟨_,_,_,h1,_,h2,_⟩:=k.mm; zbD (E:=Eo O) E4 rfl h1 h2
theorem MOK.l468 (k:MOK h p s):zba (Eo O) 3 (some (.pointer (some ⟨p.m,0+468,none⟩))) h=.ok (.value (.int .i64 (.ofNat 1)),h):=let ⟨_,_,_,h1,_,_,h2,_⟩:=k.mm; zbD (E:=Eo O) E3 rfl h1 h2
theorem MOK.l420 (k:MOK h p s):zba (Eo O) 25 (some (.pointer (some ⟨p.m,0+420,none⟩))) h=.ok (.value (.slice (some ⟨p.cb,0,none⟩) 2 p.cc),h):=let ⟨_,_,_,h1,_,_,_,h2,_⟩:=k.mm; zbD (E:=Eo O) E25 rfl h1 h2
theorem MOK.l421 (k:MOK h p s):zba (Eo O) 43 (some (.pointer (some ⟨p.m,0+421,none⟩))) h=.ok (.value (.slice (some ⟨p.ub,0,none⟩) p.ul p.uc),h):=let ⟨_,_,_,h1,_,_,_,_,h2,_⟩:=k.mm; zbD (E:=Eo O) E43 rfl h1 h2
theorem MOK.l422 (k:MOK h p s):zba (Eo O) 73 (some (.pointer (some ⟨p.m,0+422,none⟩))) h=.ok (.value (.map (some p.bb)),h):=let ⟨_,_,_,h1,_,_,_,_,_,h2,_⟩:=k.mm; zbD (E:=Eo O) E73 rfl h1 h2
theorem MOK.l469 (k:MOK h p s):zba (Eo O) 3 (some (.pointer (some ⟨p.m,0+469,none⟩))) h=.ok (.value (.int .i64 s),h):=let ⟨_,_,_,h1,_,_,_,_,_,_,h2⟩:=k.mm; zbD (E:=Eo O) E3 rfl h1 h2
theorem MOK.lc (k:MOK h p s):zba (Eo O) 24 (some (.pointer (some ⟨p.cb,0+1*8,none⟩))) h=.ok (.value (.agg jaB.toArray),h):=let ⟨_,_,_,_,_,h1,h2⟩:=k.cc; zLj h1 h2
theorem MOK.lu (k:MOK h p s):zba (Eo O) 3 (some (.pointer (some ⟨p.ub,0+2*1,none⟩))) h=.ok (.value (.int .i64 (.ofNat 2)),h):=let ⟨_,_,_,_,_,h1,h2⟩:=k.uu; zbD (E:=Eo O) E3 rfl h1 h2
theorem MOK.lk (k:MOK h p s):zkE (Eo O) ((Eo O).T 73) (some (.map (some p.bb))) (some (.int .i64 (.ofNat 1))) true h=.ok (.value (.tuple #[.int .i64 (.ofNat 1),.bool true]),h):=by
 obtain ⟨_,_,_,_,es,ck,i,h1,h2⟩:=k
 rw [E73]
 simp only [zkE,h1,E3]
 have:Instr.findNow (.int .i64) (.int .i64 (.ofNat 1)) es.toList 0=some (some (i,.int .i64 (.ofNat 1))):=h2
 simp only [this]
 rfl
theorem MOK.st {h':SHeap} {k:Nat} {x:Int} (hm:MOK h p s) (hk:k<471) (h1:p.m≠p.cb) (h2:p.m≠p.ub) (h3:p.m≠p.bb) (hlt:p.m<lim) (hx:(k=468∧x=.ofNat 1)∨k=469) :
  ∃ h',zcI (Eo O) 3 (some (.pointer (some ⟨p.m,0+k,none⟩))) (some (.int .i64 x)) h=.ok (.value (.tuple #[]),h')∧MOK h' p (if k=469 then x else s)∧h'.next=h.next∧∀ d,d≠p.m→h'.t.get d=h.t.get d:=by
 obtain ⟨⟨c,n,o,m1,m2,m3,m4,m5,m6,m7,m8⟩,k2,k3,k4,k5⟩:=hm
 rw [Nat.zero_add]
 refine ⟨_,zhX E3 rfl m1 (by omega),?_,rfl,fun d hd => ?_⟩
 ·have oth:∀ d,d≠p.m→(h.set p.m (some (.cells (c.put k (some (.int .i64 x))) n 84 o false))).t.get d=h.t.get d:=fun d hd=>by simp only [SHeap.set,zaa]; rw [if_neg (fun q=>hd q.1)]
  refine ⟨⟨c.put k (some (.int .i64 x)),n,o,by simp only [SHeap.set,zaa]; rw [if_pos ⟨trivial,hlt⟩],m2,?_,?_,?_,?_,?_,?_⟩,?_,?_,k4,?_⟩
  ·rw [zaa,if_neg (by omega)]; exact m3
  ·rw [zaa]
   rcases hx with ⟨rfl,rfl⟩ | rfl
   ·rw [if_pos ⟨rfl,by unfold lim; omega⟩]
   ·rw [if_neg (by omega)]; exact m4
  ·rw [zaa,if_neg (by omega)]; exact m5
  ·rw [zaa,if_neg (by omega)]; exact m6
  ·rw [zaa,if_neg (by omega)]; exact m7
  ·rw [zaa]
   rcases hx with ⟨rfl,rfl⟩ | rfl
   ·rw [if_neg (by omega),if_neg (by omega)]; exact m8
   ·rw [if_pos ⟨rfl,by unfold lim; omega⟩,if_pos rfl]
  ·rw [oth _ (Ne.symm h1)]; exact k2
  ·rw [oth _ (Ne.symm h2)]; exact k3
  ·rw [oth _ (Ne.symm h3)]; exact k5
 ·simp only [SHeap.set,zaa]; rw [if_neg (fun q=>hd q.1)]
noncomputable def zsN (n:Nat):Array Oper:=zev (zcb (cF Tryz.f30)) n
theorem zSF:zdb (Eo O) (zsN 0).toList=some ⟨[⟨0,.pure,0⟩,⟨1,.pure,0⟩,⟨2,.pure,0⟩,⟨3,.read,0⟩,⟨4,.pure,0⟩,⟨5,.pure,0⟩,⟨6,.pure,0⟩,⟨7,.read,0⟩,⟨8,.pure,0⟩,⟨9,.read,0⟩,⟨10,.alloc,0⟩],11,11⟩:=by kernel_rfl
theorem zVk:zdb (Eo O) (zsN 1).toList=some ⟨[⟨0,.pure,0⟩,⟨1,.pure,0⟩,⟨2,.pure,0⟩,⟨3,.pure,0⟩,⟨4,.read,0⟩,⟨5,.pure,0⟩,⟨6,.pure,0⟩,⟨7,.pure,0⟩,⟨8,.pure,0⟩,⟨9,.pure,0⟩,⟨10,.pure,0⟩,⟨11,.read,0⟩,⟨12,.pure,0⟩,⟨13,.pure,0⟩,⟨14,.pure,0⟩,⟨15,.pure,0⟩,⟨16,.read,0⟩,⟨17,.read,0⟩],18,0⟩:=by kernel_rfl
theorem zXA:zdb (Eo O) (zsN 2).toList=some ⟨[⟨0,.pure,0⟩,⟨1,.pure,0⟩,⟨2,.read,0⟩,⟨3,.eff,0⟩,⟨4,.read,0⟩,⟨5,.eff,1⟩,⟨6,.pure,2⟩,⟨7,.pure,2⟩,⟨8,.pure,2⟩,⟨9,.pure,2⟩],10,0⟩:=by kernel_rfl
theorem zYw:zdb (Eo O) (zsN 3).toList=some ⟨[⟨0,.pure,0⟩,⟨1,.pure,0⟩,⟨2,.pure,0⟩,⟨3,.read,0⟩,⟨4,.pure,0⟩,⟨5,.pure,0⟩,⟨6,.pure,0⟩,⟨7,.read,0⟩,⟨8,.pure,0⟩,⟨9,.pure,0⟩,⟨10,.pure,0⟩,⟨11,.read,0⟩,⟨12,.pure,0⟩,⟨13,.pure,0⟩,⟨14,.read,0⟩,⟨15,.pure,0⟩,⟨16,.pure,0⟩,⟨17,.read,0⟩,⟨18,.pure,0⟩,⟨19,.pure,0⟩,⟨20,.pure,0⟩,⟨21,.pure,0⟩],22,0⟩:=by kernel_rfl
theorem zGi:Tryz.f30.body=some (cF Tryz.f30):=rfl
theorem zTw:(Eo O).F 30=some Tryz.f30:=by show Tab.funcs.get 30=_; kernel_rfl
theorem zRQ {a:Value}:max Tryz.f30.ntmps (#[a]:Array Value).size=111:=rfl
theorem zMP:Tryz.f30.results.toList=[.tmp 2]:=rfl
theorem zWW:zcY (Eo O) 30:=fun _ _=>by kernel_rfl
theorem zPC {G:Nat} {tm:Tr Value}:zbW (Eo O) (evT G tm) (.alloc 24)=some (24,zr24,.ptr):=by kernel_rfl
theorem zMf {ev:Ev} {o:Oper} {b:Bool} {h:SHeap}:zpV (Eo O) ev o .not (some (.bool b)) h=.ok (.value (.bool (bif b then false else true)),h):=(id rfl)
theorem zMC {a b:Value} {h:SHeap}:zhP (some (.tuple #[a,b])) 0 h=.ok (.value a,h):=(id rfl)
theorem zMI {a b:Value} {h:SHeap}:zhP (some (.tuple #[a,b])) 1 h=.ok (.value b,h):=(id rfl)
theorem zWX {G:Tr SObj} {n q:Nat} (hq:q<lim):∃ H,zcI (Eo O) 24 (some (.pointer (some ⟨q,0,none⟩))) (some (.agg jaB.toArray)) (SHeap.set ⟨G,n⟩ q (some (zhE 24 zr24 .ptr)))=.ok (.value (.tuple #[]),H)∧(∃ c,H.t.get q=some (.cells c 8 24 false false)∧∀ j,j<8→c.get j=jaB[j]?)∧H.next=n∧∀ d,d≠q→H.t.get d=G.get d:=by
 have hb:(SHeap.set ⟨G,n⟩ q (some (zhE 24 zr24 .ptr))).t.get q=some (.cells (Tr.ofL 33 zr24) 8 24 false false):=by
  simp only [SHeap.set,zaa]; rw [if_pos ⟨trivial,hq⟩]; rfl
 obtain ⟨t0,ht0⟩:∃ t0,t0=Tr.ofL 33 zr24:=⟨_,rfl⟩
 rw [← ht0] at hb
 obtain ⟨c,hc1,hc2⟩:∃ c,zcL t0 8 0 jaB=some c∧∀ j,j<8→c.get j=jaB[j]? := by
  refine ⟨((((((((t0.put 0 (some (.int .i64 26))).put 1 (some (.bool false))).put 2 (some (.bool false))).put 3 (some (.int .i64 0))).put 4 (some (.int .i64 0))).put 5 (some (.int .i64 0))).put 6 (some (.int .i64 (-1)))).put 7 (some (.int .i64 0))),?_,fun j hj => ?_⟩
  ·unfold zcL
   rw [show Nat.ble jaB.length 12=true from rfl,cond_true]
   simp only [jaB,zcC,zav,zaD,Nat.zero_add,Nat.reduceAdd,zaI (show 0<8 by omega),zaI (show 1<8 by omega),zaI (show 2<8 by omega),zaI (show 3<8 by omega),zaI (show 4<8 by omega),zaI (show 5<8 by omega),zaI (show 6<8 by omega),zaI (show 7<8 by omega),cond_true]
  ·match j,hj with
   | 0,_=>simp [zaa,lim,jaB]
   | 1,_=>simp [zaa,lim,jaB]
   | 2,_=>simp [zaa,lim,jaB]
   | 3,_=>simp [zaa,lim,jaB]
   | 4,_=>simp [zaa,lim,jaB]
   | 5,_=>simp [zaa,lim,jaB]
   | 6,_=>simp [zaa,lim,jaB]
   | 7,_=>simp [zaa,lim,jaB]
 refine ⟨(SHeap.set ⟨G,n⟩ q (some (zhE 24 zr24 .ptr))).set q (some (.cells c 8 24 false false)),?_,⟨c,?_,hc2⟩,rfl,fun d hd => ?_⟩
 ·unfold zcI storeAt
  simp only [E24,hb]
  have h2:¬ (Value.agg jaB.toArray).cells.size≠8:=by simp [Value.cells,jaB]
  have h3:(Value.agg jaB.toArray).cells.toList=jaB:=by simp [Value.cells]
  rw [if_neg h2,h3]
  simp only [hc1]
 ·simp only [SHeap.set,zaa]; rw [if_pos ⟨trivial,hq⟩]
 ·simp only [SHeap.set,zaa]
  rw [if_neg (fun q=>hd q.1),if_neg (fun q=>hd q.1)]
theorem veJ:zdz 200 (.agg jaB.toArray) (.agg jaB.toArray)=true:=by kernel_rfl
theorem zCG {n:Nat} (hO:O 30=none) (hO1:O 61=none) (hO2:O 117=none) (hm:MOK h p s) (h1:p.m≠p.cb) (h2:p.m≠p.ub) (h3:p.m≠p.bb) (hl:p.m<h.next) (hl1:p.cb<h.next) (hl2:p.ub<h.next) (hl3:p.bb<h.next) (hn:h.next+12≤lim) :
  ∃ h',run (Eo O) (n+2) (.call 30 #[.pointer (some ⟨p.m,0,none⟩)] .normal) h=.ok (.int .i64 0,h')∧MOK h' p (zaK .i64 (s+1))∧h'.next=h.next+12∧∀ d,d<h.next→d≠p.m→h'.t.get d=h.t.get d:=by
 suffices hcc:∃ tm' h',zab (cF Tryz.f30) (Eo O) (run (Eo O) (n+1)) ⟨30,111,.normal,none⟩ ⟨Tr.ofL 33 [.pointer (some ⟨p.m,0,none⟩)],h,[]⟩=.ok (.ret,⟨tm',h',[]⟩)∧tm'.get 2=some (.int .i64 0)∧MOK h' p (zaK .i64 (s+1))∧h'.next=h.next+12∧∀ d,d<h.next→d≠p.m→h'.t.get d=h.t.get d by
  obtain ⟨tm',h',k1,k2,k3⟩:=hcc
  exact ⟨h',(zby (show (Eo O).O 30=none from hO)).trans (zaY (vs:=[_]) zTw zGi zRQ rfl zMP k1 (by simp only [zaQ,k2,zcM])),k3⟩
 obtain ⟨G,n0⟩:=h
 simp only at hl hl1 hl2 hl3 hn
 have m0:=hm
 have m1:MOK ⟨G,n0+11⟩ p s:=hm.to rfl rfl rfl rfl
 obtain ⟨H2,sE,⟨c2,sB,sC⟩,sN,sK⟩:=zWX (O:=O) (G:=G) (n:=n0+11) (q:=n0+10) (by omega)
 have m2:MOK H2 p s:=m1.to (sK _ (by omega)) (sK _ (by omega)) (sK _ (by omega)) (sK _ (by omega))
 have lp:=zBy (O:=O) (n:=n) hO2 (p:=.pointer (some ⟨p.m,0,none⟩)) (h:=H2) (by omega)
 have dr:=zBE (O:=O) (n:=n) hO1 (p:=.pointer (some ⟨p.m,0,none⟩)) (h:=H2)
 have i0:zba (Eo O) 3 (some (.pointer (some ⟨n0+10,0+0,none⟩))) H2=.ok (.value (.int .i64 26),H2):=zbD (E:=Eo O) E3 rfl sB (sC 0 (by omega))
 have iA:zba (Eo O) 24 (some (.pointer (some ⟨n0+10,0,none⟩))) H2=.ok (.value (.agg jaB.toArray),H2):=zLj sB fun j hj=>by rw [Nat.zero_add]; exact sC j hj
 obtain ⟨H3,hH3⟩:∃ H3,H3=zai H2 24 jaB false:=⟨_,rfl⟩
 have k3:∀ d,d<n0→H3.t.get d=H2.t.get d:=fun d hd=>by rw [hH3]; exact zbK (by omega)
 have n3:H3.next=n0+12:=by rw [hH3]; show H2.next+1=_; omega
 rw [← hH3] at lp
 have m3:MOK H3 p s:=m2.to (k3 _ (by omega)) (k3 _ (by omega)) (k3 _ (by omega)) (k3 _ (by omega))
 obtain ⟨H4,s4,m4,n4,k4⟩:=m3.st (O:=O) (h':=H3) (k:=468) (x:=.ofNat 1) (by omega) h1 h2 h3 (by omega) (.inl ⟨rfl,rfl⟩)
 rw [if_neg (by omega)] at m4
 obtain ⟨H5,s5,m5,n5,k5⟩:=m4.st (O:=O) (h':=H4) (k:=469) (x:=zaK .i64 (s+1)) (by omega) h1 h2 h3 (by omega) (.inr rfl)
 rw [if_pos rfl] at m5
 have fin:∀ d,d<n0→d≠p.m→H5.t.get d=G.get d:=fun d hd hd'=>(k5 d hd').trans ((k4 d hd').trans ((k3 d hd).trans (sK d (by omega))))
 have t0:(Tr.ofL 33 [Value.pointer (some ⟨p.m,0,none⟩)]).get 0=some (.pointer (some ⟨p.m,0,none⟩)):=rfl
 generalize Tr.ofL 33 [Value.pointer (some ⟨p.m,0,none⟩)]=tm at t0
 generalize run (Eo O) (n+1)=ih at lp dr ⊢
 have pl0:=zSF (O:=O); have pl1:=zVk (O:=O); have pl2:=zXA (O:=O); have pl3:=zYw (O:=O)
 unfold zsN at pl0 pl1 pl2 pl3
 simp only [Tryz.f30,cF,Option.getD,zcb,zev,List.nil_append,List.append_nil,List.cons_append] at pl0 pl1 pl2 pl3
 have a26:decide ((26:Int)≥26)=true:=by decide
 have a37:decide ((26:Int)≤37)=true:=by decide
 have w2:zaK .i64 (Int.ofNat 1+1)=.ofNat 2:=rfl
 have w1:zaK .i64 (Int.ofNat 2 + -1)=.ofNat 1:=rfl
 have z0:((0:Int) != 0)=false:=rfl
 have hb2:Nat.ble H2.next 4294967296=true:=by rw [Nat.ble_eq]; unfold lim at hn; omega
 have hb3:Nat.ble H3.next 4294967296=true:=by rw [Nat.ble_eq]; unfold lim at hn; omega
 generalize hr:zab (cF Tryz.f30) (Eo O) ih ⟨30,111,.normal,none⟩ ⟨tm,⟨G,n0⟩,[]⟩=r
 simp only [Tryz.f30,cF,Option.getD,cA,cB,cI,zab,zbs,zbj,zaJ,zaV,zaT,zbi,zbL,zbt,zbp,zbr,zbq,zaC,zbB,zbh,zay,zaL,zaE,zaS,zac,zao,zak,zbI,zbJ,zbQ,zgH,zau,zbM,zcg,zhi,zdS,zfO,zbV,zal,zaH,zbg,zbf,zaa,lim,Nat.reduceLT,Nat.reduceEqDiff,and_true,if_true,if_false,reduceIte,false_and,true_and,zbx,Nat.beq,cond_true,cond_false,
   zad,zae,zaf,zar,zap,zat,zaZ,zck,zcj,Option.bind_some,zbm,zaG,zbw,zbk,zfr,zbE,zbl,zdV,zdB,valEq_int,zdU,zdW,zgE,zaj,List.getElem?_toArray,List.getElem?_cons_succ,List.getElem?_cons_zero,List.drop_succ_cons,List.drop_zero,zcd,zah,zas,zcf,zbT,Bool.and_self,Bool.true_and,bqa,bqb,bqc,bqd,zeg,zco,dUn,zeJ,zgj,ziQ,zjc,zbn,zrl pl0 (show n0+11≤lim by omega),zbX pl1 (show H2.next≤lim by omega),zbX pl2 (show H2.next≤lim by omega),zbX pl3 (show H3.next≤lim by omega),zss,zPC,zlR,t0,veJ,m0.l470,m1.l420,m1.l468,zXp (show 1<2 by omega),m1.lc,sE,zKM,i0,zsq,a26,a37,zMf,zam zUM,dr,iA,zCj (a:=.pointer (some ⟨p.m,0,none⟩)) zMh,lp,hb2,hb3,zMC,zMI,z0,m3.l470,m3.l422,m3.l421,m3.l468,w2,zMc hm.ul,m3.lu,w1,m3.lk,s4,m4.l469,s5,zHa,zIk,zJp,zII,zHX,zsW] at hr
 subst hr
 refine ⟨_,H5,rfl,?_,m5,by show H5.next=n0+12; omega,fin⟩
 simp [zaa,lim]
end Go.Proofs.YtghhpeemloeljaaGreat
set_option linter.unusedSimpArgs false
set_option linter.unusedVariables false
namespace Go.Proofs.YtghhpeemloeljaaGreat
open Go Go.Sim
set_option maxRecDepth 100000
set_option maxHeartbeats 1000000
variable {O:OT} {ih:K}
variable {h:SHeap} {p:MPl} {s:Int}
theorem zkr {α:Type} {t:Tr α}:∀ (n i:Nat) (l:List α),t.toListFrom i n=some l→l.length=n∧∀ j,j<n→l[j]? = t.get (i+j)
 | 0,i,l,h=>by obtain rfl:=Option.some.inj h; exact ⟨rfl,fun j hj=>by omega⟩
 | n+1,i,l,h=>by
  unfold Tr.toListFrom at h
  split at h
  ·cases h
  ·rename_i x hx
   rw [zaD] at h
   split at h
   ·cases h
   ·rename_i xs hxs
    obtain rfl:=Option.some.inj h
    obtain ⟨e1,e2⟩:=zkr n (i+1) xs hxs
    refine ⟨by simp [e1],fun j hj => ?_⟩
    cases j with
    | zero=>rw [Nat.add_zero,hx]; rfl
    | succ j=>rw [List.getElem?_cons_succ,e2 j (by omega),show i+1+j=i+(j+1) by omega]
theorem zAl {m:Nat} (e:zwN h m=some p):p.m=m∧∃ s,MOK h p s:=by
 unfold zwN at e
 split at e
 ·rename_i c n el o ro hm
  split at e
  ·cases e
  ·split at e
   ·rename_i x1 cb n2 cc ub ul uc bb s c470 c468 c420 c421 c422 c469
    split at e
    ·rename_i c2 a1 a2 a3 a4 c3 b1 b2 b3 b4 es ck h2 h3 h4
     split at e
     ·rename_i l x2 i x3 l1 l2 l3
      cases q:(zhc l jaB&&(Nat.beq el 84&&(Nat.beq x1 1&&(Nat.beq n2 2&&(Nat.beq x2 2&&(Nat.beq x3 1&&(Nat.ble 471 n&&Nat.blt 2 ul))))))) with
      | false=>rw [q] at e; simp at e
      | true=>
       rw [q,cond_true] at e
       obtain rfl:=Option.some.inj e
       simp only [Bool.and_eq_true] at q
       obtain ⟨q1,q2,q3,q4,q5,q6,q7,q8⟩:=q
       obtain rfl:=zjS q1
       obtain rfl:=Nat.eq_of_beq_eq_true q2
       obtain rfl:=Nat.eq_of_beq_eq_true q3
       obtain rfl:=Nat.eq_of_beq_eq_true q4
       obtain rfl:=Nat.eq_of_beq_eq_true q5
       obtain rfl:=Nat.eq_of_beq_eq_true q6
       obtain ⟨t1,t2⟩:=zkr 8 8 jaB l1
       exact ⟨rfl,s,⟨⟨c,n,o,hm,Nat.le_of_ble_eq_true q7,c470,c468,c420,c421,c422,c469⟩,⟨c2,_,_,_,_,h2,fun j hj=>(t2 j hj).symm⟩,⟨c3,_,_,_,_,h3,l2⟩,zaB q8,⟨es,ck,i,h4,l3⟩⟩⟩
     ·cases e
    ·cases e
   ·cases e
 ·cases e
noncomputable def rnB:Code:=match cF Tryz.f9 with | .seq _ (.scope b)=>b | _=>.skip
noncomputable def rn0:Code:=match cF Tryz.f9 with | .seq a _=>a | _=>.skip
noncomputable def rnR:Code:=match rnB with | .seq _ (.seq _ x)=>.seq .skip x | _=>.skip
theorem zLr:cF Tryz.f9=.seq rn0 (.scope rnB):=rfl
theorem zHl:findLabel rnB 0=some rnR:=rfl
theorem zLJ:Tryz.f9.body=some (cF Tryz.f9):=rfl
theorem fn9:(Eo O).F 9=some Tryz.f9:=by show Tab.funcs.get 9=_; kernel_rfl
theorem zSK:Tryz.f9.results.toList=[.cell 4 45,.tmp 5]:=rfl
theorem zMV {h:SHeap}:zfw (Eo O) ((Eo O).T 45) (some []) h=.ok (.value (.agg zoB.toArray),h):=by kernel_rfl
theorem E45:(Eo O).T 45=some ⟨Tab.t45.desc,4,Tab.t45.bytes,Tab.t45.zero⟩:=by show Tab.types.get 45=_; kernel_rfl
theorem zMi:TI.agg ⟨Tab.t45.desc,4,Tab.t45.bytes,Tab.t45.zero⟩=true:=by kernel_rfl
theorem zYl {h:SHeap} {b n e k:Nat} {o r:Bool} {c:Tr Value} (hb:h.t.get b=some (.cells c n e o r)) (hc:∀ j,j<4→c.get (k+j)=zoB[j]?):loadAt (Eo O) h 45 ⟨b,k,none⟩=.ok (.agg zoB.toArray):=by
 unfold loadAt
 simp only [E45,hb]
 rw [if_pos zMi]
 have h0:=hc 0 (by omega); have h1:=hc 1 (by omega); have h2:=hc 2 (by omega); have h3:=hc 3 (by omega)
 have:range c n k 4=some zoB:=by
  unfold range
  rw [show Nat.ble 4 12=true from rfl,cond_true]
  simp only [Nat.add_zero] at h0
  simp only [Tr.toListFrom,Nat.add_assoc,Nat.reduceAdd,h0,h1,h2,h3,zaD,zoB,List.getElem?_cons_succ,List.getElem?_cons_zero]
 simp only [this]
theorem zUK {h:SHeap} {q:Nat} {t0:Tr Value} (hq:q<lim) (hb:h.t.get q=some (.cells t0 4 45 false false)):∃ H,zcI (Eo O) 45 (some (.pointer (some ⟨q,0,none⟩))) (some (.agg zoB.toArray)) h=.ok (.value (.tuple #[]),H)∧loadAt (Eo O) H 45 ⟨q,0,none⟩=.ok (.agg zoB.toArray)∧H.next=h.next∧∀ d,d≠q→H.t.get d=h.t.get d:=by
 obtain ⟨c,hc1,hc2⟩:∃ c,zcL t0 4 0 zoB=some c∧∀ j,j<4→c.get j=zoB[j]? := by
  refine ⟨((((t0.put 0 (some (.int .i64 0))).put 1 (some (.slice none 0 0))).put 2 (some (.slice none 0 0))).put 3 (some (.slice none 0 0))),?_,fun j hj => ?_⟩
  ·unfold zcL
   rw [show Nat.ble zoB.length 12=true from rfl,cond_true]
   simp only [zoB,zcC,zav,zaD,Nat.zero_add,Nat.reduceAdd,zaI (show 0<4 by omega),zaI (show 1<4 by omega),zaI (show 2<4 by omega),zaI (show 3<4 by omega),cond_true]
  ·match j,hj with
   | 0,_=>simp [zaa,lim,zoB]
   | 1,_=>simp [zaa,lim,zoB]
   | 2,_=>simp [zaa,lim,zoB]
   | 3,_=>simp [zaa,lim,zoB]
 refine ⟨h.set q (some (.cells c 4 45 false false)),?_,zYl (by simp only [SHeap.set,zaa]; rw [if_pos ⟨trivial,hq⟩]) (fun j hj=>by rw [Nat.zero_add]; exact hc2 j hj),rfl,fun d hd => ?_⟩
 ·unfold zcI storeAt
  simp only [E45,hb]
  have h2:¬ (Value.agg zoB.toArray).cells.size≠4:=by simp [Value.cells,zoB]
  have h3:(Value.agg zoB.toArray).cells.toList=zoB:=by simp [Value.cells]
  rw [if_neg h2,h3]
  simp only [hc1]
 ·simp only [SHeap.set,zaa]
  rw [if_neg (fun q=>hd q.1)]
structure RnI (G:Nat→Option SObj) (n1:Nat) (p:MPl) (f q j:Nat) (st:St):Prop where
 ds:st.defers=[]
 t0:st.tm.get 0=some (.pointer (some ⟨p.m,0,none⟩))
 t1:st.tm.get 1=some (.int .i64 (.ofNat f))
 t4:st.tm.get 4=some (.pointer (some ⟨q,0,none⟩))
 t6:st.tm.get 6=some (.int .i64 (.ofNat j))
 ok:∃ s,MOK st.h p s
 nx:st.h.next+12=n1+12*j
 kp:∀ d,d<n1→d≠p.m→st.h.t.get d=G d
structure RnE (G:Nat→Option SObj) (n1:Nat) (p:MPl) (f q:Nat) (st:St):Prop where
 ds:st.defers=[]
 t4:st.tm.get 4=some (.pointer (some ⟨q,0,none⟩))
 t5:st.tm.get 5=some (.int .i64 88)
 ld:loadAt (Eo O) st.h 45 ⟨q,0,none⟩=.ok (.agg zoB.toArray)
 nx:st.h.next+12=n1+12*f
 kp:∀ d,d<n1→d≠p.m→d≠q→st.h.t.get d=G d
structure RnP (n1:Nat) (p:MPl) (f q:Nat):Prop where
 h1:p.m≠p.cb
 h2:p.m≠p.ub
 h3:p.m≠p.bb
 h4:p.m≠q
 l0:p.m<n1
 l1:p.cb<n1
 l2:p.ub<n1
 l3:p.bb<n1
 lm:n1+12*f≤lim
 f1:f≤3900
theorem zAI {k n:Nat} (hO:O 30=none) (hO1:O 61=none) (hO2:O 117=none) {G:Nat→Option SObj} {n1 f q:Nat} (hp:RnP n1 p f q) (j:Nat) (st:St) (hj1:1≤j) (hj:j<f) (hI:RnI G n1 p f q j st) :
  ∃ st',zbo (Eo O) (run (Eo O) (k+2)) ⟨9,48,.normal,none⟩ (n+30) rnR st=.ok [(.goto 0,st')]∧RnI G n1 p f q (j+1) st':=by
 obtain ⟨tm,h,ds⟩:=st
 obtain ⟨hds,t0,t1,t4,t6,⟨s,hm⟩,nx,kp⟩:=hI
 obtain ⟨a1,a2,a3,a4,b0,b1,b2,b3,lm,f1⟩:=hp
 simp only at hds t0 t1 t4 t6 hm nx kp
 subst hds
 obtain ⟨H,e1,e2,e3,e4⟩:=zCG (O:=O) (n:=k) hO hO1 hO2 hm a1 a2 a3 (by omega) (by omega) (by omega) (by omega) (by omega)
 generalize run (Eo O) (k+2)=ih at e1 ⊢
 have d1:decide (Int.ofNat j≥Int.ofNat f)=false:=decide_eq_false (by simp; omega)
 have w1:zaK .i64 (Int.ofNat j+1)=.ofNat (j+1):=zbb (m:=j+1) (by omega)
 have z0:((0:Int) != 0)=false:=rfl
 generalize hr:zbo (Eo O) ih ⟨9,48,.normal,none⟩ (n+30) rnR ⟨tm,h,[]⟩=r
 simp only [rnR,rnB,Tryz.f9,zyn,zve,zvM,zzi,zvn,zuy,zpM,zrq,zti,zfW,Option.isNone,List.all_cons,List.all_nil,cF,Option.getD,cA,cB,cI,zab,zbs,zbj,zaJ,zaV,zaT,zbi,zbL,zbt,zbp,zbr,zbq,zaC,zbB,zbh,zay,zaL,zaE,zaS,zac,zao,zak,zbI,zbJ,zbQ,zgH,zau,zbM,zcg,zhi,zdS,zfO,zbV,zal,zaH,zbg,zbf,zaa,lim,Nat.reduceLT,Nat.reduceEqDiff,and_true,if_true,if_false,reduceIte,false_and,true_and,zbx,Nat.beq,cond_true,cond_false,
   zad,zae,zaf,zar,zap,zat,zaZ,zck,zcj,Option.bind_some,zbm,zaG,zbw,zbk,zfr,zbE,zbl,zdV,zdB,valEq_int,zdU,zdW,zgE,zaj,List.getElem?_toArray,List.getElem?_cons_succ,List.getElem?_cons_zero,List.drop_succ_cons,List.drop_zero,zcd,zah,zas,zcf,zbT,Bool.and_self,Bool.true_and,bqa,bqb,bqc,bqd,zeg,zco,dUn,zeJ,zgj,ziQ,zjc,zbn,t0,t1,t6,d1,hm.l470,zsW,zam zWW,e1,z0,w1] at hr
 subst hr
 refine ⟨_,rfl,rfl,?_,?_,?_,?_,⟨_,e2⟩,by show H.next+12=_; omega,fun d hd hm=>(e4 d (by omega) hm).trans (kp d hd hm)⟩<;>simp [zaa,lim,t0,t1,t4]
theorem zGu {n:Nat} {G:Nat→Option SObj} {n1 f q:Nat} {t0:Tr Value} (hp:RnP n1 p f q) (hq:q<lim) (hqn:q<n1) (hG:G q=some (.cells t0 4 45 false false)) (st:St) (hI:RnI G n1 p f q f st) :
  ∃ st',zbo (Eo O) ih ⟨9,48,.normal,none⟩ (n+30) rnR st=.ok [(.out .ret,st')]∧RnE (O:=O) G n1 p f q st':=by
 obtain ⟨tm,h,ds⟩:=st
 obtain ⟨hds,t0,t1,t4,t6,⟨s,hm⟩,nx,kp⟩:=hI
 obtain ⟨a1,a2,a3,a4,b0,b1,b2,b3,lm,f1⟩:=hp
 simp only at hds t0 t1 t4 t6 hm nx kp
 subst hds
 obtain ⟨H,e1,e2,e3,e4⟩:=zUK (O:=O) hq ((kp q hqn (Ne.symm a4)).trans hG)
 have d1:decide (Int.ofNat f≥Int.ofNat f)=true:=decide_eq_true (by simp)
 generalize hr:zbo (Eo O) ih ⟨9,48,.normal,none⟩ (n+30) rnR ⟨tm,h,[]⟩=r
 simp only [rnR,rnB,Tryz.f9,zyn,zve,zvM,zJE,zzi,zvn,zuy,zpM,zrq,zti,zfW,Option.isNone,List.all_cons,List.all_nil,cF,Option.getD,cA,cB,cI,zab,zbs,zbj,zaJ,zaV,zaT,zbi,zbL,zbt,zbp,zbr,zbq,zaC,zbB,zbh,zay,zaL,zaE,zaS,zac,zao,zak,zbI,zbJ,zbQ,zgH,zau,zbM,zcg,zhi,zdS,zfO,zbV,zal,zaH,zbg,zbf,zaa,lim,Nat.reduceLT,Nat.reduceEqDiff,and_true,if_true,if_false,reduceIte,false_and,true_and,zbx,Nat.beq,cond_true,cond_false,
   zad,zae,zaf,zar,zap,zat,zaZ,zck,zcj,Option.bind_some,zbm,zaG,zbw,zbk,zfr,zbE,zbl,zdV,zdB,valEq_int,zdU,zdW,zgE,zaj,List.getElem?_toArray,List.getElem?_cons_succ,List.getElem?_cons_zero,List.drop_succ_cons,List.drop_zero,zcd,zah,zas,zcf,zbT,Bool.and_self,Bool.true_and,bqa,bqb,bqc,bqd,zeg,zco,dUn,zeJ,zgj,ziQ,zjc,zbn,zbC,zaN,t0,t1,t4,t6,d1,hm.l470,zsW,zMV,e1] at hr
 subst hr
 refine ⟨_,rfl,rfl,?_,?_,e2,by show H.next+12=_; omega,fun d hd hm hq=>(e4 d hq).trans (kp d hd hm)⟩<;>simp [zaa,lim,t4]
theorem zmM {a b:Nat} (h:(!Nat.beq a b)=true):a≠b:=fun e=>by subst e; simp at h
theorem zCF {m f:Nat} {st:St} {v:Value} {h':SHeap} (e:zxn m f st=.ok (v,h')):∃ q p t0,RnI st.h.t.get st.h.next p f q 1 st∧RnP st.h.next p f q∧p.m=m∧1≤f∧st.h.t.get q=some (.cells t0 4 45 false false) ∧
  v=.tuple #[.agg zoB.toArray,.int .i64 88]∧h'=⟨(st.h.t.put m none).put q none,st.h.next+12*(f-1)⟩:=by
 obtain ⟨tm,h,ds⟩:=st
 unfold zxn at e
 cases ds with
 | cons _ _=>cases e
 | nil=>
  simp only at e
  split at e
  ·rename_i m' f' q j k0 k1 k4 k6
   split at e
   ·rename_i p c0 nq eq hP hq
    obtain ⟨hpm,s,hM⟩:=zAl hP
    cases Q:(Nat.beq m m'&&(Nat.beq f f'&&(Nat.beq j 1&&(Nat.beq nq 4&&(Nat.beq eq 45&&(Nat.ble 1 f&&(Nat.ble f 3900&&(!Nat.beq m p.cb&&(!Nat.beq m p.ub&&(!Nat.beq m p.bb&&(!Nat.beq m q&&(Nat.blt m h.next&&(Nat.blt p.cb h.next&&(Nat.blt p.ub h.next&&(Nat.blt p.bb h.next&&Nat.ble (h.next+12*f) lim))))))))))))))) with
    | false=>rw [Q] at e; simp at e
    | true=>
     rw [Q,cond_true,zaD,zav] at e
     obtain ⟨rfl,rfl⟩:=zaq e
     simp only [Bool.and_eq_true] at Q
     obtain ⟨q1,q2,q3,q4,q5,q6,q7,q8,q9,q10,q11,q12,q13,q14,q15,q16⟩:=Q
     obtain rfl:=Nat.eq_of_beq_eq_true q1
     obtain rfl:=Nat.eq_of_beq_eq_true q2
     obtain rfl:=Nat.eq_of_beq_eq_true q3
     obtain rfl:=Nat.eq_of_beq_eq_true q4
     obtain rfl:=Nat.eq_of_beq_eq_true q5
     subst hpm
     exact ⟨q,p,c0,⟨rfl,k0,k1,k4,k6,⟨s,hM⟩,by simp only,fun d _ _=>rfl⟩,⟨zmM q8,zmM q9,zmM q10,zmM q11,zaB q12,zaB q13,zaB q14,zaB q15,Nat.le_of_ble_eq_true q16,Nat.le_of_ble_eq_true q7⟩,rfl,Nat.le_of_ble_eq_true q6,hq,rfl,rfl⟩
   ·cases e
  ·cases e
theorem zBs (KE:EnvOK (Eo O)) (hdraw:zcp (Eo O)) (hOK:∀ f g,(Eo O).O f=some g→zaz (Eo O) f g) (hO:O 30=none) (hO1:O 61=none) (hO2:O 117=none):zaz (Eo O) 9 (zwK (Eo O) (run (Eo O) 40) rn0 rnB):=
 zuI KE hdraw (zdc KE hdraw hOK 40) (fd:=Tryz.f9) fun args h v h' hlow hcode hok=>by
  unfold zwK at hok
  split at hok
  ·rename_i m f hargs
   have ha:args = #[.pointer (some ⟨m,0,none⟩),.int .i64 (.ofNat f)]:=by
    have:=congrArg List.toArray hargs
    simpa using this
   subst ha
   split at hok
   ·rename_i st1 h1
    split at hok
    ·rename_i l st2 h2
     cases hl:Nat.beq l 0 with
     | false=>rw [hl] at hok; simp at hok
     | true=>
      rw [hl,cond_true] at hok
      obtain rfl:=Nat.eq_of_beq_eq_true hl
      obtain ⟨q,p,t0,hI,hP,hpm,hf,hq,rfl,rfl⟩:=zCF hok
      have e9:(⟨9,max Tryz.f9.ntmps (#[Value.pointer (some ⟨m,0,none⟩),.int .i64 (.ofNat f)]:Array Value).size,.normal,none⟩:Fx)=⟨9,48,.normal,none⟩:=rfl
      rw [e9] at hcode
      have hlm:∀ b,b<st2.h.next→b<lim:=fun b hb=>by have:=hP.lm; omega
      have hql:∀ q t0,st2.h.t.get q=some (.cells t0 4 45 false false)→q<lim:=fun q t0 hq=>by
       cases w:Nat.blt q lim with
       | true=>exact zaB w
       | false=>unfold Tr.get at hq; rw [w] at hq; cases hq
      have low:=hcode 999 (.seq rn0 rnB) (.goto 0) st2 (by
       show zeN (zgs (zbo (Eo O) (run (Eo O) 40) ⟨9,48,.normal,none⟩ 998 rnB)) (zbo (Eo O) (run (Eo O) 40) ⟨9,48,.normal,none⟩ 999 rn0 _)=_
       rw [h1,zpM]
       exact h2)
      obtain ⟨st3,g1,g2⟩:=zoW (run:=zbo (Eo O) (run (Eo O) 40) ⟨9,48,.normal,none⟩ 998) (o:=.ret) zHl (I:=fun i st=>RnI st2.h.t.get st2.h.next p f q (i+1) st) (N:=f-1) (P:=RnE (O:=O) st2.h.t.get st2.h.next p f q)
       (fun i st hi hI=>zAI (k:=38) (n:=968) hO hO1 hO2 hP (i+1) st (by omega) (by omega) hI)
       (fun st hI=>by
        simp only [Nat.sub_add_cancel hf] at hI
        exact zGu (n:=968) hP (hql q t0 hq) (low q _ hq) hq st hI) (f-1) 4000 0 st2 (by omega) (by have:=hP.f1; omega) hI
      obtain ⟨tm3,h3,ds3⟩:=st3
      obtain ⟨d3,t4,t5,ld,nx,kp⟩:=g2
      simp only at d3 t4 t5 ld nx kp
      subst d3
      have hc:zbo (Eo O) (run (Eo O) 40) ⟨9,48,.normal,none⟩ 1000 (cF Tryz.f9) ⟨Tr.ofL 33 [.pointer (some ⟨m,0,none⟩),.int .i64 (.ofNat f)],h,[]⟩=.ok [(.out .ret,⟨tm3,h3,[]⟩)]:=by
       rw [zLr]
       show zeN (zgs (zbo (Eo O) (run (Eo O) 40) ⟨9,48,.normal,none⟩ 999 (.scope rnB))) (zbo (Eo O) (run (Eo O) 40) ⟨9,48,.normal,none⟩ 999 rn0 _)=_
       rw [h1,zpM]
       show zeN (zfX (zbo (Eo O) (run (Eo O) 40) ⟨9,48,.normal,none⟩ 998) rnB 4000) (zbo (Eo O) (run (Eo O) 40) ⟨9,48,.normal,none⟩ 998 rnB st1)=_
       rw [h2]
       show zfV (zfX (zbo (Eo O) (run (Eo O) 40) ⟨9,48,.normal,none⟩ 998) rnB 4000) [(.goto 0,st2)]=_
       simp only [zfV,g1,List.append_nil]
      refine ⟨h3,?_,by show h3.next=st2.h.next+12*(f-1); omega,fun b o hb => ?_⟩
      ·unfold zkm
       rw [fn9]
       simp only [zLJ]
       rw [e9]
       rw [hc]
       simp only [zfV,zkd,zwk,zSK,zaQ,t4,t5,ld,zcM,zhU,List.append_nil]
      ·simp only [zaa] at hb
       split at hb
       ·cases hb
       ·rename_i nq
        split at hb
        ·cases hb
        ·rename_i nm
         have hlt:=low b o hb
         have hm:b≠p.m:=fun e=>nm ⟨e.trans hpm,by rw [← hpm,← e]; exact hlm b hlt⟩
         have hq':b≠q:=fun e=>nq ⟨e,by rw [← e]; exact hlm b hlt⟩
         exact ⟨o,(kp b hlt hm hq').trans hb,ObjLe.refl o⟩
    ·cases hok
   ·cases hok
  ·cases hok
end Go.Proofs.YtghhpeemloeljaaGreat
namespace Go.Sim
end Go.Sim
namespace Go.Proofs.YtghhpeemloeljaaGreat
open Go Go.Sim
set_option maxRecDepth 100000
def zaU (O:OT):Prop:=∀ f g,(Eo O).O f=some g→zaz (Eo O) f g
theorem zca (O:OT):zcp (Eo O):=zCa (zcz O) (show Tryz.prog.follows .mixedOrders=true from zNB)
theorem zcT {O O':OT} {f:FuncId} {g:OF} (k:zaz (Eo O) f g):zaz (Eo O') f g:=zED (E:=Eo O) (E':=Eo O') rfl rfl rfl k
theorem kok (O:OT) (h:zaU O) (n:Nat):KOK (Eo O) (run (Eo O) n):=zdc (zcz O) (zca O) h n
theorem zax {O:OT} (h:zaU O) {f0:Nat} {g0:OF} {O':OT} (hO:∀ f,O' f=bif Nat.beq f f0 then some g0 else O f) (hg:zaz (Eo O) f0 g0):zaU O':=by
 intro f g hf
 have hf:O' f=some g:=hf
 rw [hO] at hf
 cases e:Nat.beq f f0 with
 | true=>
  rw [e,cond_true] at hf
  obtain rfl:=Option.some.inj hf
  obtain rfl:=Nat.eq_of_beq_eq_true e
  exact zcT hg
 | false=>rw [e,cond_false] at hf; exact zcT (h f g hf)
noncomputable def O0:OT:=fun _=>none
theorem ok0:zaU O0:=by intro f g h; cases h
noncomputable def zcn (O:OT) (f:Nat) (args:List Value) (h:SHeap):Except String (Value×SHeap):=run (Eo O) 60 (.call f args.toArray .normal) h
theorem zbd {O O':OT} (h:zaU O) {f:Nat}:zaz (Eo O') f (zcn O f):=zcT (O:=O) fun args hp v h' hok ρ w hw hg rargs ha c cs=>by
 unfold zcn at hok
 exact kok O h 60 _ _ _ _ hok ρ w hw hg rargs (by rw [List.toList_toArray]; exact ha) c cs (.inl rfl)
noncomputable def Oa0:OT:=fun f=>bif Nat.beq f 31 then some (orQ (zik .u32) (zsj 40)) else O0 f
theorem zSC:zaU Oa0:=zax ok0 (fun _=>rfl) (zcT (zaX (zry (zcz O0) (zca O0) ok0 rfl) (zvV (.inr ⟨rfl,rfl⟩) (show 0<(Eo O0).G from Nat.one_pos) (zry (zcz O0) (zca O0) ok0 rfl))))
noncomputable def Oa1:OT:=fun f=>bif Nat.beq f 110 then some (orQ (zik .i64) (zsj 0)) else Oa0 f
theorem zPQ:zaU Oa1:=zax zSC (fun _=>rfl) (zcT (zaX (zos (zcz O0) (zca O0) ok0 rfl) (zvV (.inl ⟨rfl,rfl⟩) (show 0<(Eo O0).G from Nat.one_pos) (zos (zcz O0) (zca O0) ok0 rfl))))
noncomputable def Oa2:OT:=fun f=>bif Nat.beq f 148 then some (orQ consF consS) else Oa1 f
theorem zPV:zaU Oa2:=zax zPQ (fun _=>rfl) (zcT (zaX (zBZ (zvG (zcz O0) (zca O0) ok0 rfl)) (zzQ (show 0<(Eo O0).G from Nat.one_pos) (zvG (zcz O0) (zca O0) ok0 rfl))))
noncomputable def Oa3:OT:=fun f=>bif Nat.beq f 152 then some (orQ withinQ withinS) else Oa2 f
theorem zPo:zaU Oa3:=zax zPV (fun _=>rfl) (zcT (zaX (zrB (zcz O0) (zca O0) ok0 rfl) (zwS (show 0<(Eo O0).G from Nat.one_pos) (zrB (zcz O0) (zca O0) ok0 rfl))))
noncomputable def Oa4:OT:=fun f=>bif Nat.beq f 204 then some (zsb [] (.agg topL.toArray)) else Oa3 f
theorem zXO:zaU Oa4:=zax zPo (fun _=>rfl) (zcT (zIW (zcz O0) (zca O0) ok0 rfl))
noncomputable def Oa5:OT:=fun f=>bif Nat.beq f 331 then some (zpQ 289) else Oa4 f
theorem zXl:zaU Oa5:=zax zXO (fun _=>rfl) (zcT (zGx (zcz O0) (zca O0) ok0 rfl rfl rfl rfl rfl rfl))
noncomputable def Oa6:OT:=fun f=>bif Nat.beq f 263 then some (orQ sumQ sumVS) else Oa5 f
theorem zRI:zaU Oa6:=zax zXl (fun _=>rfl) (zcT (zaX (zyj (zcz O0) (zca O0) ok0 rfl) (zAm (show 0<(Eo O0).G from Nat.one_pos) (zyj (zcz O0) (zca O0) ok0 rfl))))
noncomputable def Oa7:OT:=fun f=>bif Nat.beq f 327 then some (lessQ) else Oa6 f
theorem zTa:zaU Oa7:=zax zRI (fun _=>rfl) (zcT (zyN (zcz O0) (zca O0) ok0 rfl))
noncomputable def Oa8:OT:=fun f=>bif Nat.beq f 328 then some (plusQ) else Oa7 f
theorem zWN:zaU Oa8:=zax zTa (fun _=>rfl) (zcT (zEP (zcz O0) (zca O0) ok0 rfl))
noncomputable def Oa9:OT:=fun f=>bif Nat.beq f 97 then some (orQ boundQ boundS) else Oa8 f
theorem zUE:zaU Oa9:=zax zWN (fun _=>rfl) (zcT (zaX (zsu (zcz O0) (zca O0) ok0 rfl rfl) (zxZ (show 0<(Eo O0).G from Nat.one_pos) (zsu (zcz O0) (zca O0) ok0 rfl rfl))))
noncomputable def Oa10:OT:=fun f=>bif Nat.beq f 243 then some (valQ) else Oa9 f
theorem zMm:zaU Oa10:=zax zUE (fun _=>rfl) (zcT (zzo (zcz O0) (zca O0) ok0 rfl rfl))
noncomputable def Oa11:OT:=fun f=>bif Nat.beq f 295 then some (gooQ) else Oa10 f
theorem zMj:zaU Oa11:=zax zMm (fun _=>rfl) (zcT (zEx (zcz O0) (zca O0) ok0 rfl))
noncomputable def Oa12:OT:=fun f=>bif Nat.beq f 151 then some (tagQ) else Oa11 f
theorem zCU:zaU Oa12:=zax zMj (fun _=>rfl) (zcT (zKY (zcz O0) (zca O0) ok0 rfl))
noncomputable def fa234:OF:=orQ (zoh zid 289) (zxH zAu 289)
theorem zLv:zaz (Eo O0) 234 fa234:=zaX (zmG (ztg (zcz O0) (zca O0) ok0 rfl rfl rfl)) (zvA (show 0<(Eo O0).G from Nat.one_pos) (fun κ hb a b s=>zEY hb) (zmG (ztg (zcz O0) (zca O0) ok0 rfl rfl rfl)))
noncomputable def Oa13:OT:=fun f=>bif Nat.beq f 234 then some (orQ fa234 (zcn Oa12 234)) else Oa12 f
theorem zDn:zaU Oa13:=zax zCU (fun _=>rfl) (zaX (zcT (zLv)) (zbd zCU))
noncomputable def fa154:OF:=orQ (zoh zie 289) (zxH zCc 289)
theorem zND:zaz (Eo O0) 154 fa154:=zaX (zmG (zvk (zcz O0) (zca O0) ok0 rfl rfl rfl)) (zvA (show 0<(Eo O0).G from Nat.one_pos) (fun κ hb a b s=>zEW hb) (zmG (zvk (zcz O0) (zca O0) ok0 rfl rfl rfl)))
noncomputable def Oa14:OT:=fun f=>bif Nat.beq f 154 then some (orQ fa154 (zcn Oa13 154)) else Oa13 f
theorem zDb:zaU Oa14:=zax zDn (fun _=>rfl) (zaX (zcT (zND)) (zbd zDn))
noncomputable def fa145:OF:=orQ (zCe 289) (zCy 289)
theorem zLw:zaz (Eo O0) 145 fa145:=zaX (zEB (zrK (zcz O0) (zca O0) ok0 rfl)) (zFa (show 0<(Eo O0).G from Nat.one_pos) (zrK (zcz O0) (zca O0) ok0 rfl))
noncomputable def Oa15:OT:=fun f=>bif Nat.beq f 145 then some (orQ fa145 (zcn Oa14 145)) else Oa14 f
theorem zCR:zaU Oa15:=zax zDb (fun _=>rfl) (zaX (zcT (zLw)) (zbd zDb))
noncomputable def fa207:OF:=orQ (zqe 289) (zAZ 289)
theorem zMu:zaz (Eo O0) 207 fa207:=zaX (zvg (zyp (zcz O0) (zca O0) ok0 rfl rfl rfl rfl)) (zDr (show 0<(Eo O0).G from Nat.one_pos) (zvg (zyp (zcz O0) (zca O0) ok0 rfl rfl rfl rfl)))
noncomputable def Oa16:OT:=fun f=>bif Nat.beq f 207 then some (orQ fa207 (zcn Oa15 207)) else Oa15 f
theorem zDe:zaU Oa16:=zax zCR (fun _=>rfl) (zaX (zcT (zMu)) (zbd zCR))
noncomputable def fa206:OF:=orQ (zqa 289) (zAR 289)
theorem zLH:zaz (Eo O0) 206 fa206:=zaX (zvp (zyo (zcz O0) (zca O0) ok0 rfl rfl rfl)) (zEZ (show 0<(Eo O0).G from Nat.one_pos) (zvp (zyo (zcz O0) (zca O0) ok0 rfl rfl rfl)))
noncomputable def Oa17:OT:=fun f=>bif Nat.beq f 206 then some (orQ fa206 (zcn Oa16 206)) else Oa16 f
theorem zLm:zaU Oa17:=zax zDe (fun _=>rfl) (zaX (zcT (zLH)) (zbd zDe))
noncomputable def O1:OT:=fun f=>bif Nat.beq f 9 then some (zwK (Eo O0) (run (Eo O0) 40) rn0 rnB) else Oa17 f
theorem ok1:zaU O1:=zax zLm (fun _=>rfl) (zcT (zBs (zcz O0) (zca O0) ok0 rfl rfl rfl))
theorem zAb {O O':OT} (h:zaU O) {n:Nat} {m:Memo} (hn:1≤m.next) (hr:zkp (run (Eo O) n) m=true):zaz (Eo O') m.f (zmr (Eo O').G m):=zcT (O:=O) (zJd (kok O h n) hn hr)
theorem zjm {O O':OT} (h:zaU O) {n:Nat} {m:Memo} (hn:1≤m.next) (hr:ziV (Eo O) (run (Eo O) n) m=true):zaz (Eo O') m.f (zmr (Eo O').G m):=zcT (O:=O) (zEN (zcz O) (zca O) (kok O h n) hn hr)
noncomputable def zmN (ih:K) (f:Nat):List Memo→Bool
 | []=>true
 | m::r=>bif Nat.beq m.f f&&Nat.ble 1 m.next then (bif zkp ih m then zmN ih f r else false) else false
def ziv (f:Nat) (ms:List Memo):Prop:=∀ m∈ms,∀ O':OT,zaz (Eo O') f (zmr 1 m)
theorem zag {O:OT} (h:zaU O) {n f:Nat}:∀ {ms:List Memo},zmN (run (Eo O) n) f ms=true→ziv f ms
 | [],_,m,hm,_=>by simp at hm
 | m::r,hr,m',hm,O'=>by
  unfold zmN at hr
  cases e:(Nat.beq m.f f&&Nat.ble 1 m.next) with
  | false=>rw [e] at hr; cases hr
  | true=>
   rw [e,cond_true] at hr
   cases e2:zkp (run (Eo O) n) m with
   | false=>rw [e2] at hr; cases hr
   | true=>
    rw [e2,cond_true] at hr
    rcases List.mem_cons.1 hm with rfl | hm
    ·rw [Bool.and_eq_true] at e
     have:=zAb (O':=O') h (Nat.le_of_ble_eq_true e.2) e2
     rw [Nat.eq_of_beq_eq_true e.1] at this
     exact this
    ·exact zag h hr m' hm O'
theorem zan {f:Nat} {a b:List Memo} (ha:ziv f a) (hb:ziv f b):ziv f (a++b):=fun m hm=>by
 rcases List.mem_append.1 hm with hm | hm
 ·exact ha m hm
 ·exact hb m hm
noncomputable def zbN (ms:List Memo):List (Nat×Nat)→OF
 | [],_,_=>.error "memo  none"
 | p::r,args,h=>bif Nat.beq p.1 h.next then (match ms[p.2]? with
  | some m=>(match zmr 1 m args h with
   | .ok x=>.ok x
   | .error _=>zbN ms r args h)
  | none=>zbN ms r args h) else zbN ms r args h
theorem zaR {O':OT} {f:Nat} {ms:List Memo} (hm:ziv f ms):∀ {T:List (Nat×Nat)},zaz (Eo O') f (zbN ms T)
 | []=>by intro args h v h' hok; simp [zbN] at hok
 | p::r=>by
  intro args h v h' hok
  unfold zbN at hok
  cases hb:Nat.beq p.1 h.next with
  | false=>rw [hb,cond_false] at hok; exact zaR hm args h v h' hok
  | true=>
   rw [hb,cond_true] at hok
   split at hok
   ·rename_i m hq
    split at hok
    ·rename_i x hx
     rw [hok] at hx
     exact hm m (List.mem_of_getElem? hq) O' args h v h' hx
    ·exact zaR hm args h v h' hok
   ·exact zaR hm args h v h' hok
end Go.Proofs.YtghhpeemloeljaaGreat

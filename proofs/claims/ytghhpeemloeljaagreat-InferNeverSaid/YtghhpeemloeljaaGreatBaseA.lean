/- The simulator's trees: what stands at a place behind a put, in a tree of a list, in the list of a tree. The simulator's relation to the model: values, objects and worlds up to a renaming of blocks. The simulator's relation to the model, for worlds: live blocks stand for real ones, what is not owned is kept. -/
import Derived.Test.YtghhpeemloeljaaGreatSim
import Derived.Laws.Sem
import Derived.Laws.IdiomCopy
set_option linter.unusedVariables false
set_option linter.unusedSimpArgs false
namespace Go.Sim
theorem zav {α β:Type} (t:Tr α) (k:Tr α→β):t.force k=k t:=by cases t<;>rfl
theorem zaD {β:Type} (n:Nat) (k:Nat→β):zci n k=k n:=by cases n<;>rfl
theorem zbF {β:Type} (n:Int) (k:Int→β):zdp n k=k n:=by cases n<;>simp [zdp,zaD]
theorem zeF {β:Type} (v:Value) (k:Value→β):zfP v k=k v:=by
 cases v with
 | bool b=>cases b<;>rfl
 | int kd n=>simp [zfP,zbF]
 | pointer a=>cases a<;>simp [zfP,zaD]
 | slice a l c=>cases a<;>simp [zfP,zaD]
 | complex f a b=>simp [zfP,zaD]
 | _=>rfl
theorem zbP {α:Type} (p:List Bool):(Tr.nil:Tr α).get' p=none:=by cases p<;>rfl
theorem gqn {α:Type} {l r:Tr α} {v:Option α}:(Tr.node l v r).get' []=v:=rfl
theorem gqc {α:Type} {l r:Tr α} {v:Option α} {b:Bool} {p:List Bool}:(Tr.node l v r).get' (b::p)=bif b then l.get' p else r.get' p:=by cases b<;>rfl
theorem pqz {α:Type} {x:Option α}:Tr.put' x [] .nil=.node .nil x .nil:=rfl
theorem pqn {α:Type} {x v:Option α} {l r:Tr α}:Tr.put' x [] (.node l v r)=.node l x r:=rfl
theorem pqy {α:Type} {x:Option α} {b:Bool} {p:List Bool}:Tr.put' x (b::p) .nil=bif b then (Tr.put' x p .nil).force fun t=>.node t none .nil else (Tr.put' x p .nil).force fun t=>.node .nil none t:=by cases b<;>rfl
theorem pqc {α:Type} {x v:Option α} {l r:Tr α} {b:Bool} {p:List Bool}:Tr.put' x (b::p) (.node l v r)=bif b then (Tr.put' x p l).force fun t=>.node t v r else (Tr.put' x p r).force fun t=>.node l v t:=by cases b<;>rfl
theorem zyh {α:Type} (x:Option α) (q:List Bool):∀ (t:Tr α) (p:List Bool),(t.put' x q).get' p=if p=q then x else t.get' p:=by
 induction q with
 | nil=>
  intro t p
  cases t<;>cases p<;>simp [pqz,pqn,pqy,pqc,zbP,gqn,gqc]
  all_goals (rename_i b p; cases b<;>simp [zbP])
 | cons b q ih=>
  intro t p
  cases t with
  | nil=>
   cases b<;>cases p<;>simp [pqz,pqn,pqy,pqc,zav,zbP,gqn,gqc,ih]
   all_goals (rename_i c p; cases c<;>simp [zbP])
  | node l v r=>
   cases b<;>cases p<;>simp [pqz,pqn,pqy,pqc,zav,zbP,gqn,gqc,ih]
   all_goals (rename_i c p; cases c<;>simp)
theorem zri:∀ (f n m:Nat),n<2^f→m<2^f→zcx f n=zcx f m→n=m
 | 0,n,m,hn,hm,_=>by simp at hn hm; omega
 | f+1,0,0,_,_,_=>rfl
 | f+1,0,m+1,_,_,h=>by simp [zcx] at h
 | f+1,n+1,0,_,_,h=>by simp [zcx] at h
 | f+1,n+1,m+1,hn,hm,h=>by
  simp only [zcx,List.cons.injEq] at h
  obtain ⟨h1,h2⟩:=h
  have h2:=zri f ((n+1)/2) ((m+1)/2) (by rw [Nat.pow_succ] at hn; omega) (by rw [Nat.pow_succ] at hm; omega) h2
  have h1:((n+1)%2=1)↔((m+1)%2=1):=by
   have a:∀ k,Nat.beq (k%2) 1=decide (k%2=1):=by
    intro k; rw [Bool.eq_iff_iff]; simp
   rw [a,a] at h1
   simpa using h1
  omega
theorem zmP:lim=2^32:=rfl
theorem zaI {a b:Nat} (h:a<b):Nat.blt a b=true:=by rw [Nat.blt_eq]; exact h
theorem zaB {a b:Nat} (h:Nat.blt a b=true):a<b:=by rw [Nat.blt_eq] at h; exact h
theorem zvi {a b:Nat} (h:¬ a<b):Nat.blt a b=false:=by
 cases e:Nat.blt a b with
 | false=>rfl
 | true=>exact absurd (zaB e) h
theorem zaF (a b:Nat):Nat.beq a b=decide (a=b):=by rw [Bool.eq_iff_iff]; simp
theorem zbU {α:Type} {t:Tr α} {n:Nat} {v:α} (h:t.get n=some v):n<lim:=by
 unfold Tr.get at h
 cases hb:Nat.blt n lim with
 | false=>rw [hb] at h; simp at h
 | true=>exact zaB hb
theorem zaa {α:Type} (t:Tr α) (n m:Nat) (x:Option α):(t.put n x).get m=if m=n∧n<lim then x else t.get m:=by
 unfold Tr.put Tr.get
 by_cases hn:n<lim
 ·rw [zaI hn]
  by_cases hm:m<lim
  ·rw [zaI hm]
   simp only [cond_true,zyh,hn,and_true]
   by_cases e:m=n
   ·simp [e]
   ·simp only [e,if_false]
    rw [if_neg]
    exact fun h=>e (zri 32 m n (zmP▸hm) (zmP▸hn) h)
  ·rw [zvi hm]
   have e:¬ (m=n):=by omega
   simp [e]
 ·rw [zvi hn]
  simp [hn]
theorem zqY {α:Type}:∀ (l:List α) (i:Nat),(split l).1[i]? = l[2*i]? ∧ (split l).2[i]? = l[2*i+1]?
 | [],i=>by simp [split]
 | [x],i=>by cases i<;>simp [split]
 | x::y::r,i=>by
  have ih:=zqY r
  simp only [split]
  cases i with
  | zero=>simp
  | succ i=>
   have:=ih i
   simp only [List.getElem?_cons_succ,show 2*(i+1)=2*i+1+1 by omega,this.1,this.2,and_self]
theorem ziT {α:Type}:∀ (f:Nat) (l:List α) (i:Nat),i<2^f→(Tr.ofL (f+1) l).get' (zcx f i)=l[i]?
 | f,[],i,h=>by simp [Tr.ofL,zbP]
 | f,[x],i,h=>by
  cases i with
  | zero=>cases f<;>simp [Tr.ofL,zcx,zbP,gqn,gqc]
  | succ i=>cases f with
   | zero=>simp at h
   | succ f=>simp only [Tr.ofL,zcx,zbP,gqn,gqc,zbP]; simp
 | 0,x::y::ys,i,h=>by
  have:i=0:=by simp at h; omega
  subst this
  simp only [Tr.ofL,zav]
  cases (split (y::ys)).2<;>simp [zcx,zbP,gqn,gqc]
 | f+1,x::y::ys,i,h=>by
  have hs:=zqY (y::ys)
  revert hs
  rw [Tr.ofL.eq_def]
  simp only
  generalize split (y::ys)=s
  obtain ⟨o,e⟩:=s
  intro hs
  simp only [zav]
  cases i with
  | zero=>cases e<;>simp [zcx,zbP,gqn,gqc]
  | succ i=>
   have hlt:(i+1)/2<2^f:=by rw [Nat.pow_succ] at h; omega
   have ho:=ziT f o ((i+1)/2) hlt
   have hr:=ziT f (x::e) ((i+1)/2) hlt
   by_cases odd:(i+1)%2=1
   ·have hb:Nat.beq ((i+1)%2) 1=true:=by rw [odd]; rfl
    have hi:2*((i+1)/2)=i:=by omega
    have:=(hs ((i+1)/2)).1
    rw [hi] at this
    cases e<;>simp only [zcx,hb,zbP,gqn,gqc,cond_true,ho]<;>simp [this]
   ·have hb:Nat.beq ((i+1)%2) 1=false:=by
     have:(i+1)%2=0:=by omega
     rw [this]; rfl
    have hi:2*((i+1)/2-1)+1=i:=by omega
    have hp:(i+1)/2=(i+1)/2-1+1:=by omega
    have:=(hs ((i+1)/2-1)).2
    rw [hi] at this
    cases e with
    | nil=>simp only [zcx,hb,zbP,gqn,gqc,cond_false,zbP]; simp at this; simp; omega
    | cons z e=>
     simp only [zcx,hb,zbP,gqn,gqc,cond_false,hr]
     rw [hp,List.getElem?_cons_succ,this]
     simp
theorem zcX {α:Type} {l:List α} {i:Nat} {v:α} (h:(Tr.ofL 33 l).get i=some v):l[i]? = some v:=by
 have hi:=zbU h
 unfold Tr.get at h
 rw [zaI hi,cond_true,ziT 32 l i (zmP▸hi)] at h
 exact h
theorem zds {α:Type} (t:Tr α):∀ (n i:Nat) (l:List α),t.toListFrom i n=some l→l.length=n∧∀ k,k<n→l[k]? = t.get (i+k)
 | 0,i,l,h=>by simp [Tr.toListFrom] at h; subst h; simp
 | n+1,i,l,h=>by
  simp only [Tr.toListFrom,zaD] at h
  cases hg:t.get i with
  | none=>rw [hg] at h; simp at h
  | some x=>
   rw [hg] at h
   simp only at h
   cases hr:t.toListFrom (i+1) n with
   | none=>rw [hr] at h; simp at h
   | some xs=>
    rw [hr] at h
    simp only [Option.some.injEq] at h
    subst h
    obtain ⟨h1,h2⟩:=zds t n (i+1) xs hr
    refine ⟨by simp [h1],fun k hk => ?_⟩
    cases k with
    | zero=>simp [hg]
    | succ k=>simp only [List.getElem?_cons_succ]; rw [h2 k (by omega),show i+1+k=i+(k+1) by omega]
theorem zrD {α:Type}:∀ (a b:List α),(a.length=b.length∨a.length=b.length+1)→(merge a b).length=a.length+b.length∧∀ i,(merge a b)[2*i]? = a[i]? ∧ (merge a b)[2*i+1]? = b[i]?
 | [],b,h=>by
  have:b=[]:=List.eq_nil_of_length_eq_zero (by simp at h; omega)
  subst this
  simp [merge]
 | x::a,[],h=>by
  have:a=[]:=by simpa using h
  subst this
  refine ⟨by simp [merge],fun i => ?_⟩
  cases i<;>simp [merge]
 | x::a,y::b,h=>by
  obtain ⟨h1,h2⟩:=zrD a b (by simp at h; omega)
  refine ⟨by simp [merge,h1]; omega,fun i => ?_⟩
  cases i with
  | zero=>simp [merge]
  | succ i=>
   have:=h2 i
   simp only [merge,show 2*(i+1)=2*i+1+1 by omega,List.getElem?_cons_succ,this.1,this.2,and_self]
theorem zhk {α:Type}:∀ (f:Nat) (t:Tr α) (n:Nat) (l:List α),t.toL f n=some l→l.length=n∧∀ i g,i<n→i<2^g→l[i]? = t.get' (zcx g i)
 | 0,t,n,l,h=>by simp [Tr.toL] at h
 | f+1,t,0,l,h=>by simp [Tr.toL] at h; subst h; simp
 | f+1,.nil,m+1,l,h=>by simp [Tr.toL] at h
 | f+1,.node a none b,m+1,l,h=>by simp [Tr.toL] at h
 | f+1,.node a (some x) b,1,l,h=>by
  simp [Tr.toL] at h
  subst h
  refine ⟨rfl,fun i g hi hg => ?_⟩
  have:i=0:=by omega
  subst this
  cases g<;>simp [zcx,zbP,gqn,gqc]
 | f+1,.node a (some x) b,k+1+1,l,h=>by
  simp only [Tr.toL] at h
  cases ho:a.toL f (k/2+1) with
  | none=>rw [ho] at h; simp at h
  | some o=>
   rw [ho] at h
   obtain ⟨o1,o2⟩:=zhk f a _ o ho
   have key:∀ e:List α,e.length=(k+1)/2→(∀ j g,j<(k+1)/2→j+1<2^g→e[j]? = b.get' (zcx g (j+1))) →
     (x::merge o e).length=k+1+1∧∀ i g,i<k+1+1→i<2^g→(x::merge o e)[i]? = (Tr.node a (some x) b).get' (zcx g i):=by
    intro e e1 e2
    obtain ⟨m1,m2⟩:=zrD o e (by omega)
    refine ⟨by simp [m1,o1,e1]; omega,fun i g hi hg => ?_⟩
    cases g with
    | zero=>
     have:i=0:=by simp at hg; omega
     subst this; simp [zcx,zbP,gqn,gqc]
    | succ g=>
     cases i with
     | zero=>simp [zcx,zbP,gqn,gqc]
     | succ i=>
      rw [Nat.pow_succ] at hg
      simp only [List.getElem?_cons_succ,zcx,zbP,gqn,gqc]
      by_cases odd:(i+1)%2=1
      ·have hb:Nat.beq ((i+1)%2) 1=true:=by rw [odd]; rfl
       have hi2:2*((i+1)/2)=i:=by omega
       have:=(m2 ((i+1)/2)).1
       rw [hi2] at this
       rw [hb,cond_true,this]
       exact o2 _ g (by omega) (by omega)
      ·have hb:Nat.beq ((i+1)%2) 1=false:=by
        have:(i+1)%2=0:=by omega
        rw [this]; rfl
       have hi2:2*((i+1)/2-1)+1=i:=by omega
       have:=(m2 ((i+1)/2-1)).2
       rw [hi2] at this
       rw [hb,cond_false,this]
       have hp:(i+1)/2-1+1=(i+1)/2:=by omega
       have:=e2 ((i+1)/2-1) g (by omega) (by omega)
       rw [hp] at this
       exact this
   cases k with
   | zero=>
    simp at h
    subst h
    have hm:merge o ([]:List α)=o:=by cases o<;>rfl
    have:=key [] (by simp) (by simp)
    rw [hm] at this
    exact this
   | succ j=>
    simp only at h
    cases hr:b.toL f (j/2+2) with
    | none=>rw [hr] at h; simp at h
    | some r=>
     rw [hr] at h
     obtain ⟨r1,r2⟩:=zhk f b _ r hr
     cases r with
     | nil=>simp at h
     | cons d e=>
      simp at h
      subst h
      refine key e (by simp at r1; omega) fun q g hq hg => ?_
      have:=r2 (q+1) g (by omega) hg
      simpa using this
theorem zcF {α:Type} {t:Tr α} {n:Nat} {l:List α} (h:t.toL 32 n=some l):l.length=n∧∀ i,i<n→i<lim→l[i]? = t.get i:=by
 obtain ⟨h1,h2⟩:=zhk 32 t n l h
 refine ⟨h1,fun i hi hl => ?_⟩
 unfold Tr.get
 rw [zaI hl,cond_true]
 exact h2 i 32 hi (zmP▸hl)
end Go.Sim
namespace Go.Sim
abbrev Ren:=Nat→Option (Nat×Nat)
def Le (ρ ρ':Ren):Prop:=∀ b p,ρ b=some p→ρ' b=some p
theorem Le.refl (ρ:Ren):Le ρ ρ:=fun _ _ h=>h
theorem Le.trans {a b c:Ren} (h:Le a b) (k:Le b c):Le a c:=fun x p hx=>k x p (h x p hx)
inductive FnRel (ρ:Ren):Fn→Fn→Prop
 | func (f:FuncId):FnRel ρ (.func f) (.func f)
 | method (s:String):FnRel ρ (.method s) (.method s)
 | methodOf (t:TypeId) (s:String):FnRel ρ (.methodOf t s) (.methodOf t s)
 | via (t:TypeId) (p:Array FieldStep) (f:FuncId) (b:Bool):FnRel ρ (.via t p f b) (.via t p f b)
 | yield {b r κ:Nat}:ρ b=some (r,κ)→FnRel ρ (.yield b) (.yield r)
theorem FnRel.mono {ρ ρ':Ren} (h:Le ρ ρ') {f g:Fn} (k:FnRel ρ f g):FnRel ρ' f g:=by
 cases k with
 | yield hb=>exact .yield (h _ _ hb)
 | func=>exact .func _
 | method=>exact .method _
 | methodOf=>exact .methodOf _ _
 | via=>exact .via _ _ _ _
inductive VRel (ρ:Ren):Value→Value→Prop
 | bool (b:Bool):VRel ρ (.bool b) (.bool b)
 | int (k:IntKind) (n:Int):VRel ρ (.int k n) (.int k n)
 | float (k:FloatKind) (b:Nat):VRel ρ (.float k b) (.float k b)
 | sym {re im κ:Nat}:ρ 0=some (0,κ)→zbH κ=true→VRel ρ (.complex .f64 re im) (.int (zdy re im).k ((zdy re im).ev κ))
 | arg {t s κ:Nat} {k:IntKind} {m:Int}:ρ 0=some (0,κ)→zbH κ=true→zts κ t s k m→VRel ρ (.complex .f32 t s) (.int k m)
 | string (s:ByteArray):VRel ρ (.string s) (.string s)
 | ptrNil:VRel ρ (.pointer none) (.pointer none)
 | ptr {b o r κ:Nat}:ρ b=some (r,κ)→VRel ρ (.pointer (some ⟨b,o,none⟩)) (.pointer (some ⟨r,o,none⟩))
 | slcNil {l c:Nat}:c<openCap→VRel ρ (.slice none l c) (.slice none l c)
 | slc {b o r κ l c:Nat}:c<openCap→ρ b=some (r,κ)→VRel ρ (.slice (some ⟨b,o,none⟩) l c) (.slice (some ⟨r,o,none⟩) l c)
 | slcOpen {b r κ l:Nat}:ρ b=some (r,κ)→l≤κ→VRel ρ (.slice (some ⟨b,0,none⟩) l openCap) (.slice (some ⟨r,0,none⟩) l κ)
 | slcLoose {b o r κ l c:Nat}:ρ b=some (r,κ)→l≤c→VRel ρ (.slice (some ⟨b,o,none⟩) l looseCap) (.slice (some ⟨r,o,none⟩) l c)
 | slcNone (a:Option Addr) (c:Nat):VRel ρ (.slice none 0 looseCap) (.slice a 0 c)
 | mapNil:VRel ρ (.map none) (.map none)
 | map {b r κ:Nat}:ρ b=some (r,κ)→VRel ρ (.map (some b)) (.map (some r))
 | chanNil:VRel ρ (.chan none) (.chan none)
 | sptr {b r κ:Nat}:ρ b=some (r,κ)→VRel ρ (.chan (some b)) (.pointer (some ⟨r,κ,none⟩))
 | func {f g:Fn} {a b c d:Array Value}:FnRel ρ f g→a.toList.length=c.toList.length→(∀ (i:Nat) (v w:Value),a.toList[i]? = some v→c.toList[i]? = some w→VRel ρ v w) →
   b.toList.length=d.toList.length→(∀ (i:Nat) (v w:Value),b.toList[i]? = some v→d.toList[i]? = some w→VRel ρ v w)→VRel ρ (.func f a b) (.func g c d)
 | nilFunc:VRel ρ .nilFunc .nilFunc
 | iface {t:TypeId} {v w:Value}:VRel ρ v w→VRel ρ (.iface t v) (.iface t w)
 | nilIface:VRel ρ .nilIface .nilIface
 | agg {a c:Array Value}:a.toList.length=c.toList.length→(∀ (i:Nat) (v w:Value),a.toList[i]? = some v→c.toList[i]? = some w→VRel ρ v w)→VRel ρ (.agg a) (.agg c)
 | tuple {a c:Array Value}:a.toList.length=c.toList.length→(∀ (i:Nat) (v w:Value),a.toList[i]? = some v→c.toList[i]? = some w→VRel ρ v w)→VRel ρ (.tuple a) (.tuple c)
theorem VRel.mono {ρ ρ':Ren} (h:Le ρ ρ') {v w:Value} (k:VRel ρ v w):VRel ρ' v w:=by
 induction k with
 | bool=>exact .bool _
 | int=>exact .int _ _
 | float=>exact .float _ _
 | sym h0 hb=>exact .sym (h _ _ h0) hb
 | arg h0 hb ha=>exact .arg (h _ _ h0) hb ha
 | string=>exact .string _
 | ptrNil=>exact .ptrNil
 | ptr hb=>exact .ptr (h _ _ hb)
 | slcNil hc=>exact .slcNil hc
 | slc hc hb=>exact .slc hc (h _ _ hb)
 | slcOpen hb hl=>exact .slcOpen (h _ _ hb) hl
 | slcLoose hb hl=>exact .slcLoose (h _ _ hb) hl
 | slcNone=>exact .slcNone _ _
 | mapNil=>exact .mapNil
 | map hb=>exact .map (h _ _ hb)
 | chanNil=>exact .chanNil
 | sptr hb=>exact .sptr (h _ _ hb)
 | func hf hl _ hm _ ih1 ih2=>exact .func (hf.mono h) hl ih1 hm ih2
 | nilFunc=>exact .nilFunc
 | iface _ ih=>exact .iface ih
 | nilIface=>exact .nilIface
 | agg hl _ ih=>exact .agg hl ih
 | tuple hl _ ih=>exact .tuple hl ih
structure LRel (ρ:Ren) (l m:List Value):Prop where
 len:l.length=m.length
 get:∀ (i:Nat) (v w:Value),l[i]? = some v→m[i]? = some w→VRel ρ v w
theorem LRel.mono {ρ ρ':Ren} (h:Le ρ ρ') {l m:List Value} (k:LRel ρ l m):LRel ρ' l m:=⟨k.len,fun i v w a b=>(k.get i v w a b).mono h⟩
theorem LRel.nil (ρ:Ren):LRel ρ [] []:=⟨rfl,by simp⟩
theorem LRel.cons {ρ:Ren} {v w:Value} {l m:List Value} (h:VRel ρ v w) (k:LRel ρ l m):LRel ρ (v::l) (w::m):=by
 refine ⟨by simp [k.len],fun i a b ha hb => ?_⟩
 cases i with
 | zero=>simp at ha hb; subst ha hb; exact h
 | succ i=>exact k.get i a b (by simpa using ha) (by simpa using hb)
theorem LRel.some {ρ:Ren} {l m:List Value} (k:LRel ρ l m) {i:Nat} {v:Value} (h:l[i]? = some v):∃ w,m[i]? = some w∧VRel ρ v w:=by
 have hi:i<l.length:=by
  rcases Nat.lt_or_ge i l.length with hi | hi
  ·exact hi
  ·rw [List.getElem?_eq_none hi] at h; simp at h
 have hm:i<m.length:=k.len▸hi
 exact ⟨m[i],List.getElem?_eq_getElem hm,k.get i v _ h (List.getElem?_eq_getElem hm)⟩
theorem LRel.none {ρ:Ren} {l m:List Value} (k:LRel ρ l m) {i:Nat} (h:l[i]? = none):m[i]? = none:=by
 rw [List.getElem?_eq_none_iff] at h ⊢; rw [← k.len]; exact h
theorem LRel.append {ρ:Ren} {a b c d:List Value} (h:LRel ρ a c) (k:LRel ρ b d):LRel ρ (a++b) (c++d):=by
 refine ⟨by simp [h.len,k.len],fun i v w hv hw => ?_⟩
 by_cases hi:i<a.length
 ·rw [List.getElem?_append_left hi] at hv
  rw [List.getElem?_append_left (h.len▸hi)] at hw
  exact h.get i v w hv hw
 ·rw [List.getElem?_append_right (by omega)] at hv
  rw [List.getElem?_append_right (by have:=h.len; omega),← h.len] at hw
  exact k.get _ v w hv hw
theorem LRel.take {ρ:Ren} {a b:List Value} (h:LRel ρ a b) (n:Nat):LRel ρ (a.take n) (b.take n):=by
 refine ⟨by simp [h.len],fun i v w hv hw => ?_⟩
 rw [List.getElem?_take] at hv hw
 split at hv
 ·rename_i hi; rw [if_pos hi] at hw; exact h.get i v w hv hw
 ·simp at hv
theorem LRel.drop {ρ:Ren} {a b:List Value} (h:LRel ρ a b) (n:Nat):LRel ρ (a.drop n) (b.drop n):=by
 refine ⟨by simp [h.len],fun i v w hv hw => ?_⟩
 rw [List.getElem?_drop] at hv hw
 exact h.get _ v w hv hw
theorem VRel.agg' {ρ:Ren} {a c:Array Value} (h:LRel ρ a.toList c.toList):VRel ρ (.agg a) (.agg c):=.agg h.len h.get
theorem VRel.tuple' {ρ:Ren} {a c:Array Value} (h:LRel ρ a.toList c.toList):VRel ρ (.tuple a) (.tuple c):=.tuple h.len h.get
theorem VRel.func' {ρ:Ren} {f g:Fn} {a b c d:Array Value} (hf:FnRel ρ f g) (h:LRel ρ a.toList c.toList) (k:LRel ρ b.toList d.toList):VRel ρ (.func f a b) (.func g c d):=
 .func hf h.len h.get k.len k.get
theorem VRel.agg_inv {ρ:Ren} {a:Array Value} {w:Value} (h:VRel ρ (.agg a) w):∃ c,w=.agg c∧LRel ρ a.toList c.toList:=by
 cases h with | agg hl hg=>exact ⟨_,rfl,hl,hg⟩
theorem VRel.tuple_inv {ρ:Ren} {a:Array Value} {w:Value} (h:VRel ρ (.tuple a) w):∃ c,w=.tuple c∧LRel ρ a.toList c.toList:=by
 cases h with | tuple hl hg=>exact ⟨_,rfl,hl,hg⟩
theorem VRel.func_inv {ρ:Ren} {f:Fn} {a b:Array Value} {w:Value} (h:VRel ρ (.func f a b) w) :
  ∃ g c d,w=.func g c d∧FnRel ρ f g∧LRel ρ a.toList c.toList∧LRel ρ b.toList d.toList:=by
 cases h with | func hf hl hg hm hn=>exact ⟨_,_,_,rfl,hf,⟨hl,hg⟩,⟨hm,hn⟩⟩
theorem VRel.cells {ρ:Ren} {v w:Value} (h:VRel ρ v w):LRel ρ v.cells.toList w.cells.toList:=by
 cases h with
 | agg hl hg=>exact ⟨hl,hg⟩
 | _=>exact LRel.cons (by constructor<;>assumption) (LRel.nil ρ)
theorem ziN {ρ:Ren}:∀ (n:Nat) (v w:Value),zaP n v=true→VRel ρ v w→w=v
 | 0,v,w,h,_=>by simp [zaP] at h
 | n+1,v,w,h,k=>by
  have lists:∀ a c:List Value,a.all (zaP n)=true→a.length=c.length→(∀ (i:Nat) (v w:Value),a[i]? = some v→c[i]? = some w→VRel ρ v w)→c=a:=by
   intro a c ha hl hg
   refine List.ext_getElem? fun i => ?_
   rcases hv:a[i]? with _ | v
   ·rw [List.getElem?_eq_none_iff] at hv ⊢; omega
   ·have hi:i<c.length:=by
     rcases Nat.lt_or_ge i a.length with hi | hi
     ·omega
     ·rw [List.getElem?_eq_none hi] at hv; simp at hv
    have hw:=List.getElem?_eq_getElem hi
    rw [hw]
    have:=ziN n v c[i] (List.all_eq_true.1 ha v (List.mem_of_getElem? hv)) (hg i v _ hv hw)
    rw [this]
  cases k with
  | agg hl hg=>
   simp only [zaP] at h
   rename_i a c
   obtain ⟨a⟩:=a; obtain ⟨c⟩:=c
   rw [lists a c h hl hg]
  | tuple hl hg=>
   simp only [zaP] at h
   rename_i a c
   obtain ⟨a⟩:=a; obtain ⟨c⟩:=c
   rw [lists a c h hl hg]
  | iface k=>
   simp only [zaP] at h
   rw [ziN n _ _ h k]
  | func hf hl hg hm hn=>
   rename_i f g a b c d
   cases hf with
   | yield=>simp [zaP] at h
   | _=>
    simp only [zaP,Bool.and_eq_true] at h
    obtain ⟨a⟩:=a; obtain ⟨b⟩:=b; obtain ⟨c⟩:=c; obtain ⟨d⟩:=d
    rw [lists a c h.1 hl hg,lists b d h.2 hm hn]
  | ptr=>simp [zaP] at h
  | sptr=>simp [zaP] at h
  | sym=>simp [zaP] at h
  | arg=>simp [zaP] at h
  | slc=>simp [zaP] at h
  | slcOpen=>simp [zaP] at h
  | slcLoose=>simp [zaP] at h
  | slcNone=>
   simp only [zaP] at h
   exact absurd (zaB h) (by decide)
  | map=>simp [zaP] at h
  | _=>rfl
theorem zdu {ρ:Ren}:∀ (n:Nat) (v:Value),zaP n v=true→VRel ρ v v
 | 0,v,h=>by simp [zaP] at h
 | n+1,v,h=>by
  have lists:∀ a:List Value,a.all (zaP n)=true→LRel ρ a a:=by
   intro a ha
   refine ⟨rfl,fun i v w hv hw => ?_⟩
   rw [hv] at hw
   obtain rfl:=Option.some.inj hw
   exact zdu n v (List.all_eq_true.1 ha v (List.mem_of_getElem? hv))
  cases v with
  | bool=>exact .bool _
  | int=>exact .int _ _
  | float=>exact .float _ _
  | complex=>simp [zaP] at h
  | string=>exact .string _
  | pointer a=>cases a with
   | none=>exact .ptrNil
   | some=>simp [zaP] at h
  | slice a l c=>cases a with
   | none=>simp only [zaP] at h; exact .slcNil (zaB h)
   | some=>simp [zaP] at h
  | map r=>cases r with
   | none=>exact .mapNil
   | some=>simp [zaP] at h
  | chan r=>cases r with
   | none=>exact .chanNil
   | some=>simp [zaP] at h
  | func f a b=>
   cases f with
   | yield=>simp [zaP] at h
   | func f=>simp only [zaP,Bool.and_eq_true] at h; exact .func' (.func f) (lists _ h.1) (lists _ h.2)
   | method s=>simp only [zaP,Bool.and_eq_true] at h; exact .func' (.method s) (lists _ h.1) (lists _ h.2)
   | methodOf t s=>simp only [zaP,Bool.and_eq_true] at h; exact .func' (.methodOf t s) (lists _ h.1) (lists _ h.2)
   | via t p f b=>simp only [zaP,Bool.and_eq_true] at h; exact .func' (.via t p f b) (lists _ h.1) (lists _ h.2)
  | nilFunc=>exact .nilFunc
  | iface t v=>simp only [zaP] at h; exact .iface (zdu n v h)
  | nilIface=>exact .nilIface
  | agg a=>simp only [zaP] at h; exact .agg' (lists _ h)
  | tuple a=>simp only [zaP] at h; exact .tuple' (lists _ h)
end Go.Sim
namespace Go.Sim
structure TmRel (ρ:Ren) (tm:Tr Value) (nt:Nat) (a:Array Value):Prop where
 size:a.size=nt
 get:∀ (i:Nat) (v:Value),tm.get i=some v→∃ w,a[i]? = some w∧VRel ρ v w
theorem TmRel.mono {ρ ρ':Ren} (h:Le ρ ρ') {tm:Tr Value} {nt:Nat} {a:Array Value} (k:TmRel ρ tm nt a):TmRel ρ' tm nt a:=
 ⟨k.size,fun i v hv=>let ⟨w,hw,hr⟩:=k.get i v hv; ⟨w,hw,hr.mono h⟩⟩
inductive TgRel (ρ:Ren):Target→Target→Prop
 | fn {f g:Fn} {c d:Array Value}:FnRel ρ f g→LRel ρ c.toList d.toList→TgRel ρ (.fn f c) (.fn g d)
 | collected {b r κ:Nat}:ρ b=some (r,κ)→TgRel ρ (.collected b) (.collected r)
theorem TgRel.mono {ρ ρ':Ren} (h:Le ρ ρ') {s t:Target} (k:TgRel ρ s t):TgRel ρ' s t:=by
 cases k with
 | fn hf hl=>exact .fn (hf.mono h) (hl.mono h)
 | collected hb=>exact .collected (h _ _ hb)
structure DRel (ρ:Ren) (d e:Deferred):Prop where
 target:TgRel ρ d.target e.target
 args:LRel ρ d.args.toList e.args.toList
theorem DRel.mono {ρ ρ':Ren} (h:Le ρ ρ') {d e:Deferred} (k:DRel ρ d e):DRel ρ' d e:=⟨k.target.mono h,k.args.mono h⟩
inductive DLRel (ρ:Ren):List Deferred→List Deferred→Prop
 | nil:DLRel ρ [] []
 | cons {d e:Deferred} {l m:List Deferred}:DRel ρ d e→DLRel ρ l m→DLRel ρ (d::l) (e::m)
theorem DLRel.mono {ρ ρ':Ren} (h:Le ρ ρ') {l m:List Deferred} (k:DLRel ρ l m):DLRel ρ' l m:=by
 induction k with
 | nil=>exact .nil
 | cons hd _ ih=>exact .cons (hd.mono h) ih
theorem DLRel.append {ρ:Ren} {a b c d:List Deferred} (h:DLRel ρ a c) (k:DLRel ρ b d):DLRel ρ (a++b) (c++d):=by
 induction h with
 | nil=>exact k
 | cons hd _ ih=>exact .cons hd ih
structure MapRel (ρ:Ren) (es fs:Array MapEntry):Prop where
 size:es.size=fs.size
 get:∀ (i:Nat) (e f:MapEntry),es[i]? = some e→fs[i]? = some f→e.key=f.key∧VRel ρ e.val f.val∧e.born=f.born
theorem MapRel.mono {ρ ρ':Ren} (h:Le ρ ρ') {es fs:Array MapEntry} (k:MapRel ρ es fs):MapRel ρ' es fs:=
 ⟨k.size,fun i e f he hf=>let ⟨a,b,c⟩:=k.get i e f he hf; ⟨a,b.mono h,c⟩⟩
structure LoopRel (ρ:Ren) (l:SLoop) (m:Loop):Prop where
 state:m.state=l.state
 pending:m.pending=l.pending
 fn:m.fn=l.fn
 tm:TmRel ρ l.tm l.nt m.tmps
 params:m.params=l.params
 assign:m.assign=l.assign
 body:m.body=l.body
 defers:∃ κ,ρ l.defers=some (m.defers,κ)
theorem LoopRel.mono {ρ ρ':Ren} (h:Le ρ ρ') {l:SLoop} {m:Loop} (k:LoopRel ρ l m):LoopRel ρ' l m:=
 ⟨k.state,k.pending,k.fn,k.tm.mono h,k.params,k.assign,k.body,let ⟨κ,hk⟩:=k.defers; ⟨κ,h _ _ hk⟩⟩
def znN (w:World) (r m:Nat):Prop:=∃ c e lo hi,w.heap[r]? = some (.cells c e (lo,hi))∧(lo=hi∨m≤lo)
structure CellsAt (E:Env) (ρ:Ren) (w:World) (r κ:Nat) (c:Tr Value) (n:Nat) (elem:TypeId) (opn ro:Bool) (m:Nat):Prop where
 shape:w.shape? r=some (elem,m)
 le:n≤m
 lt:∀ (i:Nat) (v:Value),c.get i=some v→i<n
 shut:opn=false→m=n
 room:opn=true→∃ ti,E.T elem=some ti∧m=κ*ti.size
 get:∀ (i:Nat) (v:Value),c.get i=some v→∃ u,w.cell? ⟨r,i,none⟩=some u∧VRel ρ v u
 free:ro=false→∀ i,i<m→w.frozen? ⟨r,i,none⟩=false
 calm:ro=false→znN w r m
def zcq (E:Env) (ρ:Ren) (w:World) (r κ:Nat):SObj→Prop
 | .cells c n elem opn ro=>∃ m,CellsAt E ρ w r κ c n elem opn ro m
 | .far c _ off=>∃ m e,w.shape? r=some (e,m)∧∀ (i:Nat) (v:Value),c.get i=some v→∃ u,w.cell? ⟨r,off+i,none⟩=some u∧VRel ρ v u
 | .map es clock=>∃ fs,w.heap[r]? = some (.map fs clock)∧MapRel ρ es fs
 | .loop l=>∃ m,w.heap[r]? = some (.loop m)∧LoopRel ρ l m
 | .deferred ds=>∃ es,w.heap[r]? = some (.deferred es)∧match ds,es with
  | some a,some b=>DLRel ρ a b
  | none,none=>True
  | _,_=>False
 | .sent v=>∃ cs e u,w.heap[r]? = some (.cells cs e (0,0))∧cs[κ]? = some u∧VRel ρ v u
 | .iter m since seen last=>∃ rm κm,ρ m=some (rm,κm)∧w.heap[r]? = some (.mapIter (some rm) since seen.reverse.toArray last)
theorem zkU {w w':World} {a:Addr} (h:w'.heap[a.block]? = w.heap[a.block]?):w'.cell? a=w.cell? a:=by
 unfold World.cell?; rw [h]
theorem zhK {w w':World} {r:Nat} (h:w'.heap[r]? = w.heap[r]?):w'.shape? r=w.shape? r:=by
 unfold World.shape?; rw [h]
theorem zuq {w w':World} {a:Addr} (h:w'.heap[a.block]? = w.heap[a.block]?):w'.frozen? a=w.frozen? a:=by
 unfold World.frozen?; rw [h]
theorem zcq.move {E:Env} {ρ ρ':Ren} (hl:Le ρ ρ') {w w':World} {r κ:Nat} (h:w'.heap[r]? = w.heap[r]?) {o:SObj} (k:zcq E ρ w r κ o):zcq E ρ' w' r κ o:=by
 cases o with
 | cells c n elem opn ro=>
  obtain ⟨m,k⟩:=k
  refine ⟨m,by rw [zhK h]; exact k.shape,k.le,k.lt,k.shut,k.room,fun i v hv => ?_,fun hr i hi => ?_,fun hr => ?_⟩
  ·obtain ⟨u,hu,hv⟩:=k.get i v hv
   exact ⟨u,by rw [zkU (a:=⟨r,i,none⟩) h]; exact hu,hv.mono hl⟩
  ·rw [zuq (a:=⟨r,i,none⟩) h]; exact k.free hr i hi
  ·obtain ⟨c,e,lo,hi,h1,h2⟩:=k.calm hr
   exact ⟨c,e,lo,hi,h.trans h1,h2⟩
 | far c n off=>
  obtain ⟨m,e,hs,hg⟩:=k
  exact ⟨m,e,by rw [zhK h]; exact hs,fun i v hv=>let ⟨u,a,b⟩:=hg i v hv; ⟨u,by rw [zkU (a:=⟨r,off+i,none⟩) h]; exact a,b.mono hl⟩⟩
 | map es clock=>obtain ⟨fs,a,b⟩:=k; exact ⟨fs,h.trans a,b.mono hl⟩
 | loop l=>obtain ⟨m,a,b⟩:=k; exact ⟨m,h.trans a,b.mono hl⟩
 | deferred ds=>
  obtain ⟨es,a,b⟩:=k
  refine ⟨es,h.trans a,?_⟩
  cases ds<;>cases es<;>simp_all
  exact b.mono hl
 | sent v=>obtain ⟨cs,e,u,a,b,c⟩:=k; exact ⟨cs,e,u,h.trans a,b,c.mono hl⟩
 | iter m since seen last=>obtain ⟨rm,κm,a,b⟩:=k; exact ⟨rm,κm,hl _ _ a,h.trans b⟩
theorem zcq.there {E:Env} {ρ:Ren} {w:World} {r κ:Nat} {o:SObj} (k:zcq E ρ w r κ o):r<w.heap.size:=by
 have:∃ x,w.heap[r]? = some x:=by
  cases o with
  | cells c n elem opn ro=>
   obtain ⟨m,k⟩:=k
   have:=k.shape
   unfold World.shape? at this
   cases h:w.heap[r]? with
   | none=>rw [h] at this; simp at this
   | some x=>exact ⟨x,rfl⟩
  | far c n off=>
   obtain ⟨m,e,this,_⟩:=k
   unfold World.shape? at this
   cases h:w.heap[r]? with
   | none=>rw [h] at this; simp at this
   | some x=>exact ⟨x,rfl⟩
  | map es clock=>obtain ⟨fs,a,_⟩:=k; exact ⟨_,a⟩
  | loop l=>obtain ⟨m,a,_⟩:=k; exact ⟨_,a⟩
  | deferred ds=>obtain ⟨es,a,_⟩:=k; exact ⟨_,a⟩
  | iter m since seen last=>obtain ⟨_,_,_,a⟩:=k; exact ⟨_,a⟩
  | sent v=>obtain ⟨_,_,_,a,_⟩:=k; exact ⟨_,a⟩
 obtain ⟨x,hx⟩:=this
 rcases Nat.lt_or_ge r w.heap.size with h | h
 ·exact h
 ·rw [Array.getElem?_eq_none h] at hx; simp at hx
def zeu (E:Env) (ρ:Ren):Prop:=∀ g,g<E.G→∃ κ,ρ g=some (g,κ)∧(g=0→zbH κ=true)
theorem zeu.mono {E:Env} {ρ ρ':Ren} (h:Le ρ ρ') (k:zeu E ρ):zeu E ρ':=fun g hg=>let ⟨κ,hk,hb⟩:=k g hg; ⟨κ,h _ _ hk,hb⟩
def zek:SObj→Prop
 | .sent _=>False
 | _=>True
structure WRel (E:Env) (ρ:Ren) (h:SHeap) (w:World):Prop where
 dom:∀ b p,ρ b=some p→b<h.next
 live:∀ b o,h.t.get b=some o→∃ r κ,ρ b=some (r,κ)∧zcq E ρ w r κ o
 inj:∀ b b' o o' r κ κ',h.t.get b=some o→h.t.get b'=some o'→ρ b=some (r,κ)→ρ b'=some (r,κ')→zek o∨κ=κ'→b=b'
 glob:zeu E ρ
def zdG:SObj→Prop
 | .cells _ _ _ _ ro=>ro=false
 | .far _ _ _=>False
 | .sent _=>False
 | _=>True
theorem zfj {o:SObj} (h:zdG o):zek o:=by
 cases o with
 | sent=>exact h
 | _=>trivial
def Own (ρ:Ren) (h:SHeap) (r:Nat):Prop:=∃ b o κ,h.t.get b=some o∧ρ b=some (r,κ)∧zdG o
def zce (ρ:Ren) (h:SHeap) (r:Nat):Prop:=∃ b o κ,h.t.get b=some o∧ρ b=some (r,κ)
structure Stp (ρ:Ren) (h:SHeap) (w:World) (ρ':Ren) (h':SHeap) (w':World):Prop where
 le:Le ρ ρ'
 size:w.heap.size≤w'.heap.size
 keep:∀ r,r<w.heap.size→¬ Own ρ h r→w'.heap[r]? = w.heap[r]? ∧ ¬ Own ρ' h' r
 os:w'.os=w.os
 output:w'.output=w.output
 tape:w'.tape=w.tape
 fresh:∀ r,r<w.heap.size→¬ zce ρ h r→¬ zce ρ' h' r
 names:∀ b,b<h.next→ρ' b=ρ b
 next:h.next≤h'.next
theorem Stp.refl (ρ:Ren) (h:SHeap) (w:World):Stp ρ h w ρ h w:=⟨Le.refl ρ,Nat.le_refl _,fun _ _ k=>⟨rfl,k⟩,rfl,rfl,rfl,fun _ _ k=>k,fun _ _=>rfl,Nat.le_refl _⟩
theorem Stp.trans {ρ ρ' ρ'':Ren} {h h' h'':SHeap} {w w' w'':World} (a:Stp ρ h w ρ' h' w') (b:Stp ρ' h' w' ρ'' h'' w''):Stp ρ h w ρ'' h'' w'':=
 ⟨a.le.trans b.le,Nat.le_trans a.size b.size,fun r hr hn=>
  let ⟨k1,k2⟩:=a.keep r hr hn
  let ⟨k3,k4⟩:=b.keep r (Nat.lt_of_lt_of_le hr a.size) k2
  ⟨k3.trans k1,k4⟩,b.os.trans a.os,b.output.trans a.output,b.tape.trans a.tape,fun r hr hn=>b.fresh r (Nat.lt_of_lt_of_le hr a.size) (a.fresh r hr hn),fun x hx=>(b.names x (Nat.lt_of_lt_of_le hx a.next)).trans (a.names x hx),Nat.le_trans a.next b.next⟩
theorem WRel.drawn {E:Env} {ρ:Ren} {h:SHeap} {w:World} (k:WRel E ρ h w) (n:Nat):WRel E ρ h { w with drawn:=n }:=
 ⟨k.dom,fun b o hb=>let ⟨r,κ,a,c⟩:=k.live b o hb; ⟨r,κ,a,zcq.move (w:=w) (w':={ w with drawn:=n }) (Le.refl ρ) rfl c⟩,k.inj,k.glob⟩
theorem Stp.drawn (ρ:Ren) (h:SHeap) (w:World) (n:Nat):Stp ρ h w ρ h { w with drawn:=n }:=⟨Le.refl ρ,Nat.le_refl _,fun _ _ k=>⟨rfl,k⟩,rfl,rfl,rfl,fun _ _ k=>k,fun _ _=>rfl,Nat.le_refl _⟩
def upd (ρ:Ren) (b:Nat) (p:Nat×Nat):Ren:=fun x=>if x=b then some p else ρ x
theorem zgV {E:Env} {ρ:Ren} {h:SHeap} {w:World} (k:WRel E ρ h w) (p:Nat×Nat):Le ρ (upd ρ h.next p):=by
 intro b q hb
 have:=k.dom b q hb
 unfold upd
 rw [if_neg (by omega)]
 exact hb
theorem WRel.new {E:Env} {ρ:Ren} {h:SHeap} {w:World} (k:WRel E ρ h w) (o:SObj) (obj:Obj) (κ d:Nat)
  (ho:zcq E (upd ρ h.next (w.heap.size,κ)) { w with heap:=w.heap.push obj,drawn:=d } w.heap.size κ o) :
  WRel E (upd ρ h.next (w.heap.size,κ)) (h.new o) { w with heap:=w.heap.push obj,drawn:=d } ∧
   Stp ρ h w (upd ρ h.next (w.heap.size,κ)) (h.new o) { w with heap:=w.heap.push obj,drawn:=d }:=by
 have hl:=zgV k (w.heap.size,κ)
 have old:∀ r,r<w.heap.size→(w.heap.push obj)[r]? = w.heap[r]? := fun r hr=>by
  rw [Array.getElem?_push,if_neg (by omega)]
 have get:∀ b x,(h.new o).t.get b=some x→(b=h.next∧x=o)∨(b≠h.next∧h.t.get b=some x):=by
  intro b x hb
  unfold SHeap.new at hb
  simp only [zaa] at hb
  split at hb
  ·rename_i hc; exact .inl ⟨hc.1,(Option.some.inj hb).symm⟩
  ·by_cases e:b=h.next
   ·subst e
    obtain ⟨r,κ',h1,_⟩:=k.live _ x hb
    exact absurd (k.dom _ _ h1) (by omega)
   ·exact .inr ⟨e,hb⟩
 have at_:∀ b,b≠h.next→upd ρ h.next (w.heap.size,κ) b=ρ b:=fun b hb=>if_neg hb
 have atn:upd ρ h.next (w.heap.size,κ) h.next=some (w.heap.size,κ):=if_pos rfl
 refine ⟨⟨fun b p hb => ?_,fun b x hb => ?_,fun b b' x x' r κ1 κ2 hb hb' h1 h2 hs => ?_,k.glob.mono hl⟩,hl,by simp,fun r hr hn=>⟨old r hr,fun hO=>hn ?_⟩,rfl,rfl,rfl,fun r hr hn hM=>hn ?_,fun b hb=>at_ b (by omega),Nat.le_succ _⟩
 ·show b<h.next+1
  by_cases e:b=h.next
  ·omega
  ·rw [at_ b e] at hb; have:=k.dom b p hb; omega
 ·rcases get b x hb with ⟨rfl,rfl⟩ | ⟨e,hb⟩
  ·exact ⟨_,_,atn,ho⟩
  ·obtain ⟨r,κ',h1,h2⟩:=k.live b x hb
   exact ⟨r,κ',by rw [at_ b e]; exact h1,h2.move hl (old r h2.there)⟩
 ·rcases get b x hb with ⟨e,_⟩ | ⟨e,g⟩<;>rcases get b' x' hb' with ⟨e',_⟩ | ⟨e',g'⟩
  ·omega
  ·rw [e,atn] at h1; rw [at_ b' e'] at h2
   obtain ⟨r',κ',h3,h4⟩:=k.live b' x' g'
   rw [h2] at h3; simp at h1 h3
   have:=h4.there; omega
  ·rw [e',atn] at h2; rw [at_ b e] at h1
   obtain ⟨r',κ',h3,h4⟩:=k.live b x g
   rw [h1] at h3; simp at h2 h3
   have:=h4.there; omega
  ·rw [at_ b e] at h1; rw [at_ b' e'] at h2
   exact k.inj b b' x x' r κ1 κ2 g g' h1 h2 hs
 ·obtain ⟨b,x,κ',hb,h1,h2⟩:=hO
  rcases get b x hb with ⟨rfl,rfl⟩ | ⟨e,hb⟩
  ·rw [atn] at h1; simp at h1; omega
  ·exact ⟨b,x,κ',hb,by rw [← at_ b e]; exact h1,h2⟩
 ·obtain ⟨b,x,κ',hb,h1⟩:=hM
  rcases get b x hb with ⟨rfl,rfl⟩ | ⟨e,hb⟩
  ·rw [atn] at h1; simp at h1; omega
  ·exact ⟨b,x,κ',hb,by rw [← at_ b e]; exact h1⟩
theorem WRel.set {E:Env} {ρ:Ren} {h:SHeap} {w w':World} (k:WRel E ρ h w) {b r κ:Nat} {o o':SObj} (hb:h.t.get b=some o) (hr:ρ b=some (r,κ)) (hn:zdG o)
  (hs:w'.heap.size=w.heap.size) (hk:∀ s,s≠r→w'.heap[s]? = w.heap[s]?) (ho:zcq E ρ w' r κ o') (h1:w'.os=w.os) (h2:w'.output=w.output) (h3:w'.tape=w.tape) :
  WRel E ρ (h.set b (some o')) w'∧Stp ρ h w ρ (h.set b (some o')) w':=by
 have hlt:=zbU hb
 have get:∀ d x,(h.set b (some o')).t.get d=some x→(d=b∧x=o')∨(d≠b∧h.t.get d=some x):=by
  intro d x hd
  unfold SHeap.set at hd
  simp only [zaa,hlt,and_true] at hd
  split at hd
  ·rename_i e; exact .inl ⟨e,(Option.some.inj hd).symm⟩
  ·rename_i e; exact .inr ⟨e,hd⟩
 refine ⟨⟨k.dom,fun d x hd => ?_,fun d d' x x' s κ1 κ2 hd hd' e1 e2 hsn => ?_,k.glob⟩,Le.refl ρ,by omega,fun s hs' hno=>⟨hk s ?_,fun hO=>hno ?_⟩,h1,h2,h3,fun s hs' hno hM=>hno ?_,fun _ _=>rfl,Nat.le_refl _⟩
 ·rcases get d x hd with ⟨rfl,rfl⟩ | ⟨e,hd⟩
  ·exact ⟨r,κ,hr,ho⟩
  ·obtain ⟨s,κ',e1,e2⟩:=k.live d x hd
   refine ⟨s,κ',e1,e2.move (Le.refl ρ) (hk s ?_)⟩
   rintro rfl
   exact e (k.inj b d o x s κ κ' hb hd hr e1 (.inl (zfj hn))).symm
 ·rcases get d x hd with ⟨e,_⟩ | ⟨e,g⟩<;>rcases get d' x' hd' with ⟨e',_⟩ | ⟨e',g'⟩
  ·rw [e,e']
  ·rw [e] at e1 ⊢; exact k.inj _ _ _ _ s κ1 κ2 hb g' e1 e2 (.inl (zfj hn))
  ·rw [e'] at e2 ⊢; exact (k.inj _ _ _ _ s κ2 κ1 hb g e2 e1 (.inl (zfj hn))).symm
  ·exact k.inj _ _ _ _ s κ1 κ2 g g' e1 e2 hsn
 ·rintro rfl; exact hno ⟨b,o,κ,hb,hr,hn⟩
 ·obtain ⟨d,x,κ',hd,e1,e2⟩:=hO
  rcases get d x hd with ⟨rfl,rfl⟩ | ⟨e,hd⟩
  ·rw [hr] at e1; simp at e1; exact ⟨d,o,κ,hb,by rw [hr,e1.1],hn⟩
  ·exact ⟨d,x,κ',hd,e1,e2⟩
 ·obtain ⟨d,x,κ',hd,e1⟩:=hM
  rcases get d x hd with ⟨rfl,rfl⟩ | ⟨e,hd⟩
  ·rw [hr] at e1; simp at e1; exact ⟨d,o,κ,hb,by rw [hr,e1.1]⟩
  ·exact ⟨d,x,κ',hd,e1⟩
end Go.Sim

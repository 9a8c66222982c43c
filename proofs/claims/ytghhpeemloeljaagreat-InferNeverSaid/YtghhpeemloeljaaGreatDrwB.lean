/- Regions that draw their order: the real run beside the canonical one. Regions that draw their order: a floating operation, on the machine. Regions that draw their order: an effect, on the machine. Regions that draw their order: every order comes to the canonical run's end. -/
import Derived.Test.YtghhpeemloeljaaGreatDrwA
set_option linter.unusedVariables false
set_option linter.unusedSimpArgs false
namespace Go.Sim
variable {E:Env}
def zpS (E:Env) (ops:Array Oper) (m res base:Nat) (tm0 tmf:Tr Value) (w0:World) (ρ:Ren) (h:SHeap) (w:World) (s:PStep) (o:Oper):Prop:=
 ∃ R κ elem cs av,ρ (base+s.i)=some (R,κ)∧zcq E ρ w R κ (zhE elem cs av)∧¬ zce ρ h R∧w0.heap.size≤R ∧
  ∀ done effs tm,SF ops m res done effs s→(∀ j∈done,j<m)→TmAt ops tm0 tmf done tm→zbW E (evT E.G tm) o.op=some (elem,cs,av)
structure DC (E:Env) (ih:K) (ops:Array Oper) (m res base nt:Nat) (tm0:Tr Value) (h0:SHeap) (ρ0:Ren) (w0:World) (phf:Ph) (L:Nat→Prop) (done effs:List Nat) (rem:List PStep) (ph:Ph) (ρ:Ren) (tma:Array Value) (w:World):Prop where
 edges:∀ j o,ops[j]? = some o→∀ e∈o.after,Region.binds .any e=true→e.on<j
 big:∀ d,nt≤d→phf.tm.get d=none
 stepsF:StepsF ops m res done effs rem
 quiet:∀ s∈rem,(s.kind=.pure∨s.kind=.read)→∀ o,ops[s.i]? = some o→zhZ E o.op=true
 canon:zdR E ih ops nt base rem ph=.ok phf
 tmAt:TmAt ops tm0 phf.tm done ph.tm
 doneL:∀ j∈done,j<m∧L j
 len:ph.heaps.length=effs.length+1
 low:∀ j,L j→j<m
 closed:zjf ops L
 effL:∀ s∈rem,s.kind=.eff→¬ L s.i
 wr:WRel E ρ ph.h w
 g:zeu E ρ
 tmps:Tmps ops tm0 phf.tm nt L ρ tma
 pend:∀ s∈rem,s.kind=.alloc→L s.i→∀ o,ops[s.i]? = some o→zah ops phf.tm o.guard=some true→zpS E ops m res base tm0 phf.tm w0 ρ ph.h w s o
 names:∀ s∈rem,s.kind=.alloc→¬ L s.i→ρ (base+s.i)=none
 pinj:∀ i j R κ κ',i<res→j<res→ρ (base+i)=some (R,κ)→ρ (base+j)=some (R,κ')→i=j
 bound:∀ i R κ,i<res→ρ (base+i)=some (R,κ)→R<w.heap.size
 stp:Stp ρ0 h0 w0 ρ ph.h w
 next:base+res≤ph.h.next
 lim:ph.h.next≤lim
 base:h0.next=base
theorem StepsF.cover {ops:Array Oper} {m res:Nat} {done effs:List Nat} {r:List PStep} (h:StepsF ops m res done effs r):∀ i,i<m→i∈done∨∃ s∈r,s.i=i:=by
 induction h with
 | nil hc=>exact fun i hi=>.inl (hc i hi)
 | cons hs _ ih=>
  rename_i done effs s r _
  intro i hi
  rcases ih i hi with h | ⟨s',h1,h2⟩
  ·rcases List.mem_append.1 h with h | h
   ·exact .inl h
   ·simp only [List.mem_singleton] at h
    exact .inr ⟨s,by simp,h.symm⟩
  ·exact .inr ⟨s',by simp [h1],h2⟩
theorem StepsF.uniq {ops:Array Oper} {m res:Nat} {done effs:List Nat} {r:List PStep} (h:StepsF ops m res done effs r):∀ s∈r,∀ s'∈r,s.i=s'.i→s=s':=by
 induction h with
 | nil=>intro s hs; simp at hs
 | cons hs hr ih=>
  have hf:=hr.fresh
  intro a ha b hb e
  rcases List.mem_cons.1 ha with h1 | h1<;>rcases List.mem_cons.1 hb with h2 | h2
  ·rw [h1,h2]
  ·exact absurd (by rw [← e,h1]; simp) (hf b h2).1
  ·exact absurd (by rw [e,h2]; simp) (hf a h1).1
  ·exact ih a h1 b h2 e
theorem zlE {ops:Array Oper} {m res:Nat} {tm0 tmf tm:Tr Value} {done effs:List Nat} {s:PStep} {o:Oper} (hs:SF ops m res done effs s) (ho:ops[s.i]? = some o) (ht:TmAt ops tm0 tmf done tm):zah ops tm o.guard=zah ops tmf o.guard:=by
 refine zlx fun g b hg og d hog hdg => ?_
 obtain ⟨g1,g2,_⟩:=hs.guard o g b ho hg
 exact ht.new g g2 og d hog hdg
theorem Stp.adopt {ρ0 ρ:Ren} {h0 h:SHeap} {w0 w:World} (k:Stp ρ0 h0 w0 ρ h w) {b R κ:Nat} {o:SObj} (hb:ρ b=some (R,κ)) (hR:w0.heap.size≤R):Stp ρ0 h0 w0 ρ (h.set b (some o)) w:=by
 have get:∀ d x,(h.set b (some o)).t.get d=some x→d=b∨h.t.get d=some x:=by
  intro d x hd
  unfold SHeap.set at hd
  simp only [zaa] at hd
  split at hd
  ·rename_i e; exact .inl e.1
  ·exact .inr hd
 refine ⟨k.le,k.size,fun r hr hn => ?_,k.os,k.output,k.tape,fun r hr hn => ?_,k.names,k.next⟩
 ·obtain ⟨h1,h2⟩:=k.keep r hr hn
  refine ⟨h1,fun ⟨d,x,κ',hd,e1,e2⟩ => ?_⟩
  rcases get d x hd with rfl | hd
  ·rw [hb] at e1; simp only [Option.some.injEq,Prod.mk.injEq] at e1; omega
  ·exact h2 ⟨d,x,κ',hd,e1,e2⟩
 ·rintro ⟨d,x,κ',hd,e1⟩
  rcases get d x hd with rfl | hd
  ·rw [hb] at e1; simp only [Option.some.injEq,Prod.mk.injEq] at e1; omega
  ·exact k.fresh r hr hn ⟨d,x,κ',hd,e1⟩
section
variable {ih:K} {ops:Array Oper} {m res base nt:Nat} {tm0:Tr Value} {h0:SHeap} {ρ0:Ren} {w0:World} {phf:Ph} {L:Nat→Prop} {done effs:List Nat} {ph:Ph} {ρ:Ren} {tma:Array Value} {w:World}
theorem DC.absorb1 {s:PStep} {r:List PStep} (k:DC E ih ops m res base nt tm0 h0 ρ0 w0 phf L done effs (s::r) ph ρ tma w) (hL:L s.i):∃ ph1,DC E ih ops m res base nt tm0 h0 ρ0 w0 phf L (done++[s.i]) effs r ph1 ρ tma w:=by
 have hk:s.kind ≠ .eff:=fun e=>k.effL s (by simp) e hL
 have hne:s.kind.isEff=false:=by
  cases he:s.kind.isEff with
  | false=>rfl
  | true=>exact absurd ((zez _).1 he) hk
 have hF:=k.stepsF
 cases hF with
 | cons hS hR=>
  rw [hne] at hR
  simp only [Bool.false_eq_true,if_false] at hR
  obtain ⟨o,v,ph1,ho,hd,hc⟩:=ziu k.canon
  have hfr:∀ s'∈r,s'.i≠s.i∧s'.i<m:=fun s' hs'=>by
   have:=hR.fresh s' hs'
   exact ⟨fun e=>this.1 (by simp [e]),this.2⟩
  have ht1:=k.tmAt.step hS hfr ho hd hc (fun j hj=>(k.doneL j hj).1)
  have hdl:∀ j∈done++[s.i],j<m∧L j:=fun j hj=>by
   rcases List.mem_append.1 hj with hj | hj
   ·exact k.doneL j hj
   ·simp only [List.mem_singleton] at hj; rw [hj]; exact ⟨hS.lt,hL⟩
  have hheaps:ph1.heaps=ph.heaps:=by
   rcases hd.heaps with ⟨he,_⟩ | ⟨_,hh,_⟩
   ·exact absurd he hk
   ·exact hh
  have same:ph1.h=ph.h→DC E ih ops m res base nt tm0 h0 ρ0 w0 phf L (done++[s.i]) effs r ph1 ρ tma w:=fun e=>
   ⟨k.edges,k.big,hR,fun s' hs'=>k.quiet s' (by simp [hs']),hc,ht1,hdl,by rw [hheaps]; exact k.len,k.low,k.closed,fun s' hs'=>k.effL s' (by simp [hs']),by rw [e]; exact k.wr,k.g,k.tmps,
    fun s' hs'=>by rw [e]; exact k.pend s' (by simp [hs']),fun s' hs'=>k.names s' (by simp [hs']),k.pinj,k.bound,by rw [e]; exact k.stp,by rw [e]; exact k.next,by rw [e]; exact k.lim,k.base⟩
  cases hd with
  | skipE h=>exact absurd h hk
  | skipF=>exact ⟨_,same rfl⟩
  | eff h=>exact absurd h hk
  | float _ hw hf=>
   cases hf with
   | pure=>exact ⟨_,same rfl⟩
   | read=>exact ⟨_,same rfl⟩
   | touch=>exact ⟨_,same rfl⟩
   | alloc ha hal=>
    rename_i elem cs av
    have hwf:zah ops phf.tm o.guard=some true:=by rw [← zlE hS ho k.tmAt]; exact hw
    obtain ⟨R,κ,elem',cs',av',p1,p2,p3,p4,p5⟩:=k.pend s (by simp) ha hL o ho hwf
    have heq:=p5 done effs ph.tm hS (fun j hj=>(k.doneL j hj).1) k.tmAt
    rw [hal] at heq
    simp only [Option.some.injEq,Prod.mk.injEq] at heq
    obtain ⟨rfl,rfl,rfl⟩:=heq
    obtain ⟨q1,q2⟩:=k.wr.adopt p1 p2 p3
    refine ⟨_,k.edges,k.big,hR,fun s' hs'=>k.quiet s' (by simp [hs']),hc,ht1,hdl,by rw [hheaps]; exact k.len,k.low,k.closed,fun s' hs'=>k.effL s' (by simp [hs']),q1,k.g,k.tmps,
     fun s' hs' hk' hL' o' ho' hw' => ?_,fun s' hs'=>k.names s' (by simp [hs']),k.pinj,k.bound,k.stp.adopt p1 p4,k.next,k.lim,k.base⟩
    obtain ⟨R',κ',elem',cs',av',r1,r2,r3,r4,r5⟩:=k.pend s' (by simp [hs']) hk' hL' o' ho' hw'
    refine ⟨R',κ',elem',cs',av',r1,r2,fun hM=>r3 (q2 R' ?_ hM),r4,r5⟩
    rintro rfl
    have hs'F:=hR.fresh s' hs'
    have hlt':s'.i<res:=by
     obtain ⟨d',e',_,_,_,_,_,hsf,_⟩:=zfM r _ _ _ hR hc ht1 (fun j hj=>(hdl j hj).1) (by rw [hheaps]; exact k.len) s' hs'
     exact hsf.alloc hk'
    exact (hfr s' hs').1 (k.pinj _ _ _ _ _ hlt' (hS.alloc ha) r1 p1)
theorem DC.absorb:∀ (fl r:List PStep) {done:List Nat} {ph:Ph},DC E ih ops m res base nt tm0 h0 ρ0 w0 phf L done effs (fl++r) ph ρ tma w→(∀ s∈fl,L s.i) →
  ∃ ph1,DC E ih ops m res base nt tm0 h0 ρ0 w0 phf L (done++fl.map (·.i)) effs r ph1 ρ tma w
 | [],r,done,ph,k,_=>⟨ph,by simpa using k⟩
 | s::fl,r,done,ph,k,hL=>by
  obtain ⟨ph1,k1⟩:=k.absorb1 (hL s (by simp))
  obtain ⟨ph2,k2⟩:=DC.absorb fl r k1 fun s' hs'=>hL s' (by simp [hs'])
  exact ⟨ph2,by simpa using k2⟩
theorem znq (hc:zjf ops L) {i:Nat} (hr:∀ o,ops[i]? = some o→∀ e∈o.after,Region.binds .any e=true→L e.on):zjf ops fun j=>L j∨j=i:=by
 intro k o hk ho e hm hb
 rcases hk with hk | rfl
 ·exact .inl (hc k o hk ho e hm hb)
 ·exact .inl (hr o ho e hm hb)
theorem DC.float {rem:List PStep} (k:DC E ih ops m res base nt tm0 h0 ρ0 w0 phf L done effs rem ph ρ tma w) {s:PStep} (hs:s∈rem) (hk:s.kind ≠ .eff) (hn:¬ L s.i) (hr:∀ o,ops[s.i]? = some o→∀ e∈o.after,Region.binds .any e=true→L e.on)
  {o:Oper} (ho:ops[s.i]? = some o) {done' effs':List Nat} (hS:SF ops m res done' effs' s) {v u:Value} (hv:∀ d u',o.dst=some d→d<nt→phf.tm.get d=some u'→u'=v)
  {ρ':Ren} {w':World} (hle:Le ρ ρ') (hu:VRel ρ' v u) (hwr:WRel E ρ' ph.h w') (hstp:Stp ρ0 h0 w0 ρ' ph.h w') (hsz:w.heap.size≤w'.heap.size)
  (hpend:∀ s'∈rem,s'.kind=.alloc→L s'.i→∀ o',ops[s'.i]? = some o'→zah ops phf.tm o'.guard=some true→zpS E ops m res base tm0 phf.tm w0 ρ' ph.h w' s' o')
  (hown:s.kind=.alloc→zah ops phf.tm o.guard=some true→zpS E ops m res base tm0 phf.tm w0 ρ' ph.h w' s o)
  (hnames:∀ s'∈rem,s'.kind=.alloc→s'.i≠s.i→ρ' (base+s'.i)=ρ (base+s'.i))
  (hpinj:∀ i j R κ κ',i<res→j<res→ρ' (base+i)=some (R,κ)→ρ' (base+j)=some (R,κ')→i=j) (hbound:∀ i R κ,i<res→ρ' (base+i)=some (R,κ)→R<w'.heap.size) :
  DC E ih ops m res base nt tm0 h0 ρ0 w0 phf (fun j=>L j∨j=s.i) done effs rem ph ρ' (zfz tma o.dst u) w':=by
 have uniq:∀ s'∈rem,s'.i=s.i→s'=s:=fun s' hs' e=>k.stepsF.uniq s' hs' s hs e
 refine ⟨k.edges,k.big,k.stepsF,k.quiet,k.canon,k.tmAt,fun j hj=>⟨(k.doneL j hj).1,.inl (k.doneL j hj).2⟩,k.len,fun j hj => ?_,znq k.closed hr,fun s' hs' hk' hL' => ?_,hwr,k.g.mono hle,?_,fun s' hs' hk' hL' o' ho' hw' => ?_,fun s' hs' hk' hL' => ?_,hpinj,hbound,hstp,k.next,k.lim,k.base⟩
 ·rcases hj with hj | rfl
  ·exact k.low j hj
  ·exact hS.lt
 ·rcases hL' with hL' | e
  ·exact k.effL s' hs' hk' hL'
  ·rw [uniq s' hs' e] at hk'; exact hk hk'
 ·exact (k.tmps.mono hle).write k.low ho hS k.big hv hu hn
 ·rcases hL' with hL' | e
  ·exact hpend s' hs' hk' hL' o' ho' hw'
  ·have:=uniq s' hs' e
   subst this
   rw [ho] at ho'
   obtain rfl:=Option.some.inj ho'
   exact hown hk' hw'
 ·have h1:¬ L s'.i:=fun h=>hL' (.inl h)
  have h2:s'.i≠s.i:=fun h=>hL' (.inr h)
  rw [hnames s' hs' hk' h2]
  exact k.names s' hs' hk' h1
end
end Go.Sim
namespace Go.Sim
variable {E:Env}
section
variable {ih:K} {ops:Array Oper} {m res base nt:Nat} {tm0:Tr Value} {h0:SHeap} {ρ0:Ren} {w0:World} {phf:Ph} {L:Nat→Prop} {done effs:List Nat} {rem:List PStep} {ph:Ph} {ρ:Ren} {tma:Array Value} {w:World}
theorem zBw {h:SHeap} (k:WRel E ρ h w) (hl:h.next≤lim):WRel E ρ zhL w:=by
 have none:∀ b o,zhL.t.get b=some o→False:=by
  intro b o hb
  unfold zhL Tr.get at hb
  simp only [zbP] at hb
  cases Nat.blt b lim<;>simp at hb
 exact ⟨fun b p hb=>Nat.lt_of_lt_of_le (k.dom b p hb) hl,fun b o hb=>(none b o hb).elim,fun b b' o o' r κ κ' hb=>(none b o hb).elim,k.glob⟩
theorem DC.keep_pend (k:DC E ih ops m res base nt tm0 h0 ρ0 w0 phf L done effs rem ph ρ tma w) {ρ':Ren} {h':SHeap} {w':World} (hle:Le ρ ρ') (hM:∀ R,zce ρ' h' R→R<w.heap.size→zce ρ ph.h R) (hw:∀ R,R<w.heap.size→¬ zce ρ ph.h R→w'.heap[R]? = w.heap[R]?)
  {s':PStep} {o':Oper} (hp:zpS E ops m res base tm0 phf.tm w0 ρ ph.h w s' o'):zpS E ops m res base tm0 phf.tm w0 ρ' h' w' s' o':=by
 obtain ⟨R,κ,elem,cs,av,p1,p2,p3,p4,p5⟩:=hp
 have hlt:=p2.there
 exact ⟨R,κ,elem,cs,av,hle _ _ p1,p2.move hle (hw R hlt p3),fun h=>p3 (hM R h hlt),p4,p5⟩
theorem DC.step_float (KE:EnvOK E) (k:DC E ih ops m res base nt tm0 h0 ρ0 w0 phf L done effs rem ph ρ tma w) (head:ph.heaps.head? = some ph.h) (cur:ph.cur=[]) {s:PStep} (hs:s∈rem) (hk:s.kind ≠ .eff) (hn:¬ L s.i)
  (hr:∀ o,ops[s.i]? = some o→∀ e∈o.after,Region.binds .any e=true→L e.on) (x:FxR) (ds:List Deferred) (rest:List Nat) (kk:List Item) (cs:List Frame) :
  ∃ ρ' tma' w',DC E ih ops m res base nt tm0 h0 ρ0 w0 phf (fun j=>L j∨j=s.i) done effs rem ph ρ' tma' w'∧step E.P (lone (fat x tma ds (.inRegion ops (s.i::rest)::kk)) cs w)=.next (lone (fat x tma' ds (.inRegion ops rest::kk)) cs w'):=by
 obtain ⟨done',effs',ph',ph1,o,v,more,hS,ho,hd,ht,hdm,hpre,hheaps,hlen,⟨me,hme1,hme2⟩,hv,hcur⟩:=zfM rem done effs ph k.stepsF k.canon k.tmAt (fun j hj=>(k.doneL j hj).1) k.len s hs
 obtain ⟨hev,hwant⟩:=zsO k.tmps k.g k.closed k.low ho hn hr hS hdm ht
 have hwf:=zlE hS ho ht
 have samePend:∀ s'∈rem,s'.kind=.alloc→L s'.i→∀ o',ops[s'.i]? = some o'→zah ops phf.tm o'.guard=some true→zpS E ops m res base tm0 phf.tm w0 ρ ph.h w s' o':=k.pend
 have quiet:∀ {h:SHeap} {h':SHeap},zhZ E o.op=true→s.kind ≠ .alloc→zah ops ph'.tm o.guard=some true→WRel E ρ h w→zdi E (evT E.G ph'.tm) o h=.ok (.value v,h') →
   ∃ ρ' tma' w',DC E ih ops m res base nt tm0 h0 ρ0 w0 phf (fun j=>L j∨j=s.i) done effs rem ph ρ' tma' w'∧step E.P (lone (fat x tma ds (.inRegion ops (s.i::rest)::kk)) cs w)=.next (lone (fat x tma' ds (.inRegion ops rest::kk)) cs w'):=by
  intro h h' hq hna hw hwr hsim
  have hnd:=zzx hsim
  rw [zro] at hsim
  obtain ⟨v',u,e1,e2,hvu,hrun⟩:=zyl KE hq hev hwr hsim
  injection e1 with e1
  subst e1
  have hdc:=k.float hs hk hn hr ho hS hv (Le.refl ρ) hvu k.wr k.stp (Nat.le_refl _) samePend (fun e=>absurd e hna) (fun _ _ _ _=>rfl) k.pinj k.bound
  rcases hrun with hrun | ⟨_,rfl,hrun⟩
  ·exact ⟨ρ,_,w,hdc,zhq ho (hwant _ hw) (.inr hnd) hrun⟩
  ·exact ⟨ρ,_,w,hdc,ziz ho (hwant _ hw) (.inr hnd) hrun⟩
 cases hd with
 | skipE h=>exact absurd h hk
 | skipF _ hw=>
  have hdc:=k.float hs hk hn hr ho hS hv (Le.refl ρ) (zfL ρ) k.wr k.stp (Nat.le_refl _) samePend (fun _ e=>by rw [← hwf,hw] at e; simp at e) (fun _ _ _ _=>rfl) k.pinj k.bound
  exact ⟨ρ,_,w,hdc,zkC ho (hwant _ hw)⟩
 | eff h=>exact absurd h hk
 | float _ hw hf=>
  cases hf with
  | pure hp hsim=>exact quiet (k.quiet s hs (.inl hp) o ho) (by rw [hp]; simp) hw (zBw k.wr k.lim) hsim
  | read hp hsim=>
   have hlo:s.lo≤effs.length:=by
    cases hl:s.lo with
    | zero=>exact Nat.zero_le _
    | succ l=>
     obtain ⟨e,he,hb,hne⟩:=hS.read hp l hl
     rcases Nat.lt_or_ge l effs.length with h | h
     ·omega
     ·exfalso
      rw [hme1,List.getElem?_append_right h] at he
      obtain ⟨s',h1,h2,h3⟩:=hme2 e (List.mem_of_getElem? he)
      rcases zfR k.closed hr hb with h4 | h4
      ·exact k.effL s' h1 h3 (by rw [h2]; exact h4)
      ·exact hne h4
   have hmem:ph.h∈ph'.heaps.take (ph'.heaps.length-s.lo):=by
    have hl:=k.len
    cases hh:ph.heaps with
    | nil=>rw [hh] at head; simp at head
    | cons a old=>
     rw [hh] at head
     simp only [List.head?_cons,Option.some.injEq] at head
     subst head
     rw [hheaps,hh]
     rw [hh] at hl
     simp only [List.length_cons] at hl
     rw [List.mem_iff_getElem?]
     refine ⟨more.length,?_⟩
     rw [List.getElem?_take,if_pos (by simp; omega),List.getElem?_append_right (Nat.le_refl _)]
     simp
   obtain ⟨h',hsim⟩:=hsim ph.h hmem
   exact quiet (k.quiet s hs (.inr hp) o ho) (by rw [hp]; simp) hw k.wr hsim
  | alloc hp hal=>
   rename_i elem cells av
   have hal':=hal
   rw [zvb] at hal'
   obtain ⟨hav,dsv,hrel,hrun⟩:=zzf KE hev hal'
   have hnone:=k.names s hs hp hn
   have hresi:=hS.alloc hp
   have hlt:base+s.i<ph.h.next:=by have:=k.next; omega
   let ρ':Ren:=upd ρ (base+s.i) (w.heap.size,0)
   have hle:Le ρ ρ':=by
    intro b p hb
    have:b≠base+s.i:=by rintro rfl; rw [hnone] at hb; simp at hb
    simp only [ρ',upd,if_neg this,hb]
   have hat:ρ' (base+s.i)=some (w.heap.size,0):=by simp [ρ',upd]
   have hoth:∀ b,b≠base+s.i→ρ' b=ρ b:=fun b hb=>by simp only [ρ',upd,if_neg hb]
   let w':World:={ w with heap:=w.heap.push (zpe elem dsv av),drawn:=w.drawn }
   have old:∀ r,r<w.heap.size→w'.heap[r]? = w.heap[r]? := fun r hr=>by simp only [w',Array.getElem?_push,if_neg (show ¬ r=w.heap.size by omega)]
   have mlt:∀ r,zce ρ ph.h r→r<w.heap.size:=by
    rintro r ⟨b,ob,κ,hb,h1⟩
    obtain ⟨r',κ',h2,h3⟩:=k.wr.live b ob hb
    rw [h1] at h2
    simp only [Option.some.injEq,Prod.mk.injEq] at h2
    rw [h2.1]
    exact h3.there
   have hwr:WRel E ρ' ph.h w':=k.wr.more hle (fun b p hb=>by
    by_cases e:b=base+s.i
    ·rw [e]; exact hlt
    ·rw [hoth b e] at hb; exact k.wr.dom b p hb) (fun r hr=>old r (mlt r hr))
   have hmap:∀ r,zce ρ' ph.h r→zce ρ ph.h r:=fun r hr=>zce.of_le k.wr hle hr
   have hstp:Stp ρ0 h0 w0 ρ' ph.h w':=by
    refine ⟨k.stp.le.trans hle,by simp only [w',Array.size_push]; have:=k.stp.size; omega,fun r hr hno => ?_,k.stp.os,k.stp.output,k.stp.tape,fun r hr hno hM=>k.stp.fresh r hr hno (hmap r hM),fun b hb => ?_,k.stp.next⟩
    ·obtain ⟨h1,h2⟩:=k.stp.keep r hr hno
     refine ⟨(old r (by have:=k.stp.size; omega)).trans h1,fun ⟨b,ob,κ,hb,h3,h4⟩=>h2 ?_⟩
     obtain ⟨r',κ',h5,_⟩:=k.wr.live b ob hb
     have h6:=hle _ _ h5
     rw [h3] at h6
     simp only [Option.some.injEq,Prod.mk.injEq] at h6
     exact ⟨b,ob,κ',hb,by rw [h5,h6.1],h4⟩
    ·have hbn:=k.base
     rw [hoth b (by omega)]
     exact k.stp.names b hb
   have hdc:=k.float hs hk hn hr ho hS hv hle (zAw hav hat) hwr hstp (by simp [w'])
    (fun s' hs' hk' hL' o' ho' hw'=>k.keep_pend hle (fun R hM _=>hmap R hM) (fun R hR _=>old R hR) (k.pend s' hs' hk' hL' o' ho' hw'))
    (fun _ _=>⟨w.heap.size,0,elem,cells,av,hat,zzv (hrel.mono hle),fun hM=>by have:=mlt _ (hmap _ hM); omega,k.stp.size,fun d2 e2 tm2 hs2 hd2 ht2=>by
     rw [← hal]
     exact zlt fun y hy=>by
      cases y with
      | tmp t=>exact zyW k.edges hs2 hS hd2 hdm ht2 ht ho hy
      | _=>rfl⟩)
    (fun s' hs' _ hne=>hoth _ (by omega))
    (fun i j R κ κ' hi hj h1 h2=>by
     by_cases ei:i=s.i
     ·by_cases ej:j=s.i
      ·omega
      ·exfalso
       rw [ei,hat] at h1
       rw [hoth _ (by omega)] at h2
       simp only [Option.some.injEq,Prod.mk.injEq] at h1
       have:=k.bound j R κ' hj h2
       omega
     ·rw [hoth _ (by omega)] at h1
      by_cases ej:j=s.i
      ·exfalso
       rw [ej,hat] at h2
       simp only [Option.some.injEq,Prod.mk.injEq] at h2
       have:=k.bound i R κ hi h1
       omega
      ·rw [hoth _ (by omega)] at h2
       exact k.pinj i j R κ κ' hi hj h1 h2)
    (fun i R κ hi h1=>by
     simp only [w',Array.size_push]
     by_cases ei:i=s.i
     ·rw [ei,hat] at h1
      simp only [Option.some.injEq,Prod.mk.injEq] at h1
      omega
     ·rw [hoth _ (by omega)] at h1
      have:=k.bound i R κ hi h1
      omega)
   have hnd:∀ c,o.op ≠ .defer c:=by
    intro c e
    rw [e] at hal
    simp [zbW] at hal
   exact ⟨ρ',_,w',hdc,zhq ho (hwant _ hw) (.inr hnd) (hrun w)⟩
  | touch hp hto=>
   rename_i j
   unfold zqD at hto
   split at hto
   ·rename_i a b y hop
    split at hto
    ·rename_i e t1 t2 t3 c l n hta hevx
     split at hto
     ·rename_i u1 u2 u3 hte
      cases hc:(Nat.beq a b&&Nat.beq c (base+j)&&zgp j ph'.cur&&Nat.blt n openCap&&zqQ ops j) with
      | false=>rw [hc] at hto; simp at hto
      | true=>
       rw [hc,cond_true] at hto
       obtain rfl:=Option.some.inj hto
       simp only [Bool.and_eq_true,zaF,decide_eq_true_eq] at hc
       obtain ⟨⟨⟨⟨c1,c2⟩,c3⟩,c4⟩,c5⟩:=hc
       have c4:=zaB c4
       subst c2
       rcases hcur j ((zff _ _).1 c3) with h | ⟨s',q1,q2,q3,q4⟩
       ·rw [cur] at h; simp at h
       ·obtain ⟨hbj,hjne⟩:=hS.touch j hp
        have hLj:L j:=by
         rcases zfR k.closed hr hbj with h | h
         ·exact h
         ·exact absurd h hjne
        obtain ⟨oj,hoj⟩:∃ oj,ops[s'.i]? = some oj:=by
         obtain ⟨_,_,_,_,o2,_,_,_,ho2,_⟩:=zfM rem done effs ph k.stepsF k.canon k.tmAt (fun j hj=>(k.doneL j hj).1) k.len s' q1
         exact ⟨o2,ho2⟩
        obtain ⟨R,κ,elem,cells,av,p1,p2,p3,p4,p5⟩:=k.pend s' q1 q3 (by rw [q2]; exact hLj) oj hoj (q4 oj (by rw [← q2]; exact hoj))
        rw [q2] at p1
        have hav:av ≠ .mp:=by
         obtain ⟨d2,e2,ph2,_,_,_,_,hsf2,_,_,ht2,hd2,_⟩:=zfM rem done effs ph k.stepsF k.canon k.tmAt (fun j hj=>(k.doneL j hj).1) k.len s' q1
         refine zuP (p5 d2 e2 _ hsf2 hd2 ht2) ?_
         unfold zqQ at c5
         rw [← q2,hoj] at c5
         simpa using c5
        have p2':=p2
        rw [znn hav] at p2'
        have hxe:=hev y _ (by rw [← zsK E.G ph'.tm o y (by rw [hop]; simp [Op.operands])]; exact hevx)
        obtain ⟨r',κ',c',hb,_,hxv,hcc,_,_⟩:=hxe.slc_some
        simp only at hb hxv
        rw [p1] at hb
        simp only [Option.some.injEq,Prod.mk.injEq] at hb
        obtain ⟨rfl,rfl⟩:=hb
        rw [hcc c4] at hxv
        obtain ⟨w',hrun,hobj,hoth,hsz,hos,hout,htape⟩:=zxT KE hop c1 hta hte hxv p2'
        have hwr:WRel E ρ ph.h w':=k.wr.other fun r hr=>hoth r (fun e=>p3 (e▸hr))
        have hstp:Stp ρ0 h0 w0 ρ ph.h w':=by
         refine ⟨k.stp.le,by rw [hsz]; exact k.stp.size,fun r hr hno => ?_,hos.trans k.stp.os,hout.trans k.stp.output,htape.trans k.stp.tape,k.stp.fresh,k.stp.names,k.stp.next⟩
         obtain ⟨h1,h2⟩:=k.stp.keep r hr hno
         exact ⟨(hoth r (by omega)).trans h1,h2⟩
        have hdc:=k.float hs hk hn hr ho hS hv (Le.refl ρ) (u:=.slice (some ⟨R,0,none⟩) l n) (.slc c4 p1) hwr hstp (by omega)
         (fun s2 hs2 hk2 hL2 o2 ho2 hw2=>by
          obtain ⟨R2,κ2,elem2,cells2,av2,z1,z2,z3,z4,z5⟩:=k.pend s2 hs2 hk2 hL2 o2 ho2 hw2
          by_cases e:R2=R
          ·subst e
           have hi2:s2.i<res:=by
            obtain ⟨_,_,_,_,_,_,_,hsf,_⟩:=zfM rem done effs ph k.stepsF k.canon k.tmAt (fun j hj=>(k.doneL j hj).1) k.len s2 hs2
            exact hsf.alloc hk2
           have hi':s'.i<res:=by
            obtain ⟨_,_,_,_,_,_,_,hsf,_⟩:=zfM rem done effs ph k.stepsF k.canon k.tmAt (fun j hj=>(k.doneL j hj).1) k.len s' q1
            exact hsf.alloc q3
           have:=k.pinj s2.i s'.i R2 _ _ hi2 hi' z1 (by rw [q2]; exact p1)
           have:=k.stepsF.uniq s2 hs2 s' q1 this
           subst this
           rw [hoj] at ho2
           obtain rfl:=Option.some.inj ho2
           exact ⟨R2,κ,elem,cells,av,by rw [q2]; exact p1,by rw [znn hav]; exact hobj,p3,p4,p5⟩
          ·exact ⟨R2,κ2,elem2,cells2,av2,z1,z2.move (Le.refl ρ) (hoth R2 e),z3,z4,z5⟩)
         (fun e=>by rw [hp] at e; simp at e) (fun _ _ _ _=>rfl) k.pinj (fun i R2 κ2 hi h1=>by rw [hsz]; exact k.bound i R2 κ2 hi h1)
        exact ⟨ρ,_,w',hdc,zhq ho (hwant _ hw) (.inr fun c e=>by rw [hop] at e; simp at e) hrun⟩
     ·simp at hto
    ·simp at hto
   ·simp at hto
end
end Go.Sim
namespace Go.Sim
variable {E:Env}
theorem zxr (KE:EnvOK E) {ih:K} (hih:KOK E ih) {ops:Array Oper} {i:Nat} {o:Oper} (ho:ops[i]? = some o) {x:FxR} {tma:Array Value} {ds:List Deferred} {rest:List Nat} {kk:List Item} {cs:List Frame}
  (hwant:Region.wanted o (yielded ops tma)=true) {ρ:Ren} {ev:Ev} (hev:zcE ρ ev (zcA tma)) {h:SHeap} {w:World} (hw:WRel E ρ h w) (hg:zeu E ρ) {out:SNext×SHeap} (hsim:zdi E ev o h=.ok out) {v:Value} {h':SHeap} (hc:callOut ih out=.ok (v,h')) :
  ∃ ρ' w' u,VRel ρ' v u∧WRel E ρ' h' w'∧Stp ρ h w ρ' h' w'∧Steps E.P (lone (fat x tma ds (.inRegion ops (i::rest)::kk)) cs w) (lone (fat x (zfz tma o.dst u) ds (.inRegion ops rest::kk)) cs w'):=by
 have hnd:∀ c,o.op ≠ .defer c:=by
  intro c e
  obtain ⟨dst,op,ty,pos,after,guard⟩:=o
  simp only at e
  subst e
  have hs:zgd ev c h=.ok out:=hsim
  unfold zgd at hs
  split at hs
  ·injection hs with hs
   subst hs
   simp [callOut] at hc
  ·simp at hs
 obtain ⟨n,h1⟩:=out
 obtain ⟨ρ1,w1,n1,k1,k2,k3,k4⟩:=zAY KE hev hw hsim
 cases k1 with
 | value hv=>
  simp only [callOut,Except.ok.injEq,Prod.mk.injEq] at hc
  obtain ⟨rfl,rfl⟩:=hc
  exact ⟨ρ1,w1,_,hv,k2,k3,.one (zhq ho hwant (.inr hnd) k4)⟩
 | skip=>
  simp only [callOut,Except.ok.injEq,Prod.mk.injEq] at hc
  obtain ⟨rfl,rfl⟩:=hc
  exact ⟨ρ1,w1,_,zfL ρ1,k2,k3,.one (ziz ho hwant (.inr hnd) k4)⟩
 | enter ha=>
  simp only [callOut] at hc
  obtain ⟨ρ2,w2,u,f1,f2,f3,f4⟩:=hih _ _ _ _ hc ρ1 w1 k2 (hg.mono k3.le) _ ha (fat x tma ds (.inRegion ops (i::rest)::kk)) cs (.inl rfl)
  simp only [zed,ho,Option.bind_some] at f4
  exact ⟨ρ2,w2,u,f1,f2,k3.trans f3,.head (ztw ho hwant (.inr hnd) k4) f4⟩
 | round hb hl ha hsz=>
  simp only [callOut] at hc
  obtain ⟨ρ2,w2,u,f1,f2,f3,f4⟩:=hih _ _ _ _ hc ρ1 w1 k2 (hg.mono k3.le) _ _ _ _ hb hl ha hsz (fat x tma ds (.inRegion ops (i::rest)::kk)) cs
  simp only [zed,ho,Option.bind_some] at f4
  exact ⟨ρ2,w2,u,f1,f2,k3.trans f3,.head (zsM ho hwant (.inr hnd) k4) f4⟩
 | defer=>simp [callOut] at hc
 | recover=>simp [callOut] at hc
theorem StepsF.at {ops:Array Oper} {m res:Nat}:∀ (fl:List PStep) {done effs:List Nat} {s:PStep} {r:List PStep},StepsF ops m res done effs (fl++s::r)→∃ effs',SF ops m res (done++fl.map (·.i)) effs' s
 | [],done,effs,s,r,h=>by
  cases h with
  | cons hs _=>exact ⟨effs,by simpa using hs⟩
 | f::fl,done,effs,s,r,h=>by
  cases h with
  | cons _ hr=>
   obtain ⟨e,he⟩:=StepsF.at fl hr
   exact ⟨e,by simpa using he⟩
section
variable {ih:K} {ops:Array Oper} {m res base nt:Nat} {tm0:Tr Value} {h0:SHeap} {ρ0:Ren} {w0:World} {phf:Ph} {L:Nat→Prop} {done effs:List Nat} {rem:List PStep} {ph:Ph} {ρ:Ren} {tma:Array Value} {w:World}
theorem DC.eff1 (KE:EnvOK E) (hih:KOK E ih) {s:PStep} {r:List PStep} (k:DC E ih ops m res base nt tm0 h0 ρ0 w0 phf L done effs (s::r) ph ρ tma w) (hk:s.kind=.eff) (hn:¬ L s.i)
  (hr:∀ o,ops[s.i]? = some o→∀ e∈o.after,Region.binds .any e=true→L e.on) (x:FxR) (ds:List Deferred) (rest:List Nat) (kk:List Item) (cs:List Frame) :
  ∃ ph' ρ' tma' w',DC E ih ops m res base nt tm0 h0 ρ0 w0 phf (fun j=>L j∨j=s.i) (done++[s.i]) (effs++[s.i]) r ph' ρ' tma' w'∧ph'.heaps.head? = some ph'.h∧ph'.cur=[] ∧
   Steps E.P (lone (fat x tma ds (.inRegion ops (s.i::rest)::kk)) cs w) (lone (fat x tma' ds (.inRegion ops rest::kk)) cs w'):=by
 have hF:=k.stepsF
 have hne:s.kind.isEff=true:=(zez _).2 hk
 cases hF with
 | cons hS hR=>
  rw [hne,if_pos rfl] at hR
  obtain ⟨o,v,ph1,ho,hd,hc⟩:=ziu k.canon
  have hdm:∀ j∈done,j<m:=fun j hj=>(k.doneL j hj).1
  obtain ⟨hev,hwant⟩:=zsO k.tmps k.g k.closed k.low ho hn hr hS hdm k.tmAt
  have hfr:∀ s'∈r,s'.i≠s.i∧s'.i<m:=fun s' hs'=>by
   have:=hR.fresh s' hs'
   exact ⟨fun e=>this.1 (by simp [e]),this.2⟩
  have ht1:=k.tmAt.step hS hfr ho hd hc hdm
  have hv:∀ d u',o.dst=some d→d<nt→phf.tm.get d=some u'→u'=v:=fun d u hdd hlt hu=>by
   rw [← ht1.new s.i (by simp) o d ho hdd,hd.tm,hdd] at hu
   exact zrI hlt hu
  have hdl:∀ j∈done++[s.i],j<m∧(L j∨j=s.i):=fun j hj=>by
   rcases List.mem_append.1 hj with hj | hj
   ·exact ⟨(k.doneL j hj).1,.inl (k.doneL j hj).2⟩
   ·simp only [List.mem_singleton] at hj; rw [hj]; exact ⟨hS.lt,.inr rfl⟩
  have fin:∀ {ρ':Ren} {w':World} {u:Value},VRel ρ' v u→WRel E ρ' ph1.h w'→Stp ρ ph.h w ρ' ph1.h w'→ph1.h.next≤_root_.Go.Sim.lim→ph1.heaps.length=ph.heaps.length+1 →
    DC E ih ops m res base nt tm0 h0 ρ0 w0 phf (fun j=>L j∨j=s.i) (done++[s.i]) (effs++[s.i]) r ph1 ρ' (zfz tma o.dst u) w':=by
   intro ρ' w' u hu hwr hst hlim hhl
   have hsame:∀ j,j<res→ρ' (base+j)=ρ (base+j):=fun j hj=>hst.names _ (by have:=k.next; omega)
   refine ⟨k.edges,k.big,hR,fun s' hs'=>k.quiet s' (by simp [hs']),hc,ht1,hdl,by rw [hhl]; simp [k.len],fun j hj => ?_,znq k.closed hr,fun s' hs' hk' hL' => ?_,hwr,k.g.mono hst.le,(k.tmps.mono hst.le).write k.low ho hS k.big hv hu hn,
    fun s' hs' hk' hL' o' ho' hw' => ?_,fun s' hs' hk' hL' => ?_,fun i j R κ κ' hi hj h1 h2 => ?_,fun i R κ hi h1 => ?_,k.stp.trans hst,Nat.le_trans k.next hst.next,hlim,k.base⟩
   ·rcases hj with hj | rfl
    ·exact k.low j hj
    ·exact hS.lt
   ·rcases hL' with hL' | e
    ·exact k.effL s' (by simp [hs']) hk' hL'
    ·exact (hfr s' hs').1 e
   ·rcases hL' with hL' | e
    ·refine k.keep_pend hst.le (fun R hM hlt => ?_) (fun R hlt hno => ?_) (k.pend s' (by simp [hs']) hk' hL' o' ho' hw')
     ·exact Classical.byContradiction fun hno=>hst.fresh R hlt hno hM
     ·exact (hst.keep R hlt fun ⟨b,ob,κ,h1,h2,_⟩=>hno ⟨b,ob,κ,h1,h2⟩).1
    ·exact absurd e (hfr s' hs').1
   ·have hi':s'.i<res:=by
     obtain ⟨_,_,_,_,_,_,_,hsf,_⟩:=zfM (s::r) done effs ph k.stepsF k.canon k.tmAt hdm k.len s' (by simp [hs'])
     exact hsf.alloc hk'
    rw [hsame _ hi']
    exact k.names s' (by simp [hs']) hk' fun h=>hL' (.inl h)
   ·rw [hsame i hi] at h1
    rw [hsame j hj] at h2
    exact k.pinj i j R κ κ' hi hj h1 h2
   ·rw [hsame i hi] at h1
    exact Nat.lt_of_lt_of_le (k.bound i R κ hi h1) hst.size
  cases hd with
  | skipE _ hw=>exact ⟨_,ρ,_,w,fin (zfL ρ) k.wr (Stp.refl _ _ _) k.lim rfl,rfl,rfl,.one (zkC ho (hwant _ hw))⟩
  | skipF h=>exact absurd hk h
  | eff _ hw hsim hcall hlim=>
   rw [zro] at hsim
   obtain ⟨ρ',w',u,f1,f2,f3,f4⟩:=zxr KE hih ho (x:=x) (ds:=ds) (rest:=rest) (kk:=kk) (cs:=cs) (hwant _ hw) hev k.wr k.g hsim hcall
   exact ⟨_,ρ',_,w',fin f1 f2 f3 hlim rfl,rfl,rfl,f4⟩
  | float h=>exact absurd hk h
theorem DC.step_eff (KE:EnvOK E) (hih:KOK E ih) (k:DC E ih ops m res base nt tm0 h0 ρ0 w0 phf L done effs rem ph ρ tma w) {s:PStep} (hs:s∈rem) (hk:s.kind=.eff) (hn:¬ L s.i)
  (hr:∀ o,ops[s.i]? = some o→∀ e∈o.after,Region.binds .any e=true→L e.on) (x:FxR) (ds:List Deferred) (rest:List Nat) (kk:List Item) (cs:List Frame) :
  ∃ done' effs' rem' ph' ρ' tma' w',DC E ih ops m res base nt tm0 h0 ρ0 w0 phf (fun j=>L j∨j=s.i) done' effs' rem' ph' ρ' tma' w'∧ph'.heaps.head? = some ph'.h∧ph'.cur=[] ∧
   Steps E.P (lone (fat x tma ds (.inRegion ops (s.i::rest)::kk)) cs w) (lone (fat x tma' ds (.inRegion ops rest::kk)) cs w'):=by
 obtain ⟨fl,r,rfl⟩:=List.append_of_mem hs
 obtain ⟨effs',hS⟩:=StepsF.at fl k.stepsF
 have hL:∀ s'∈fl,L s'.i:=by
  intro s' hs'
  have hm:s'.i∈done++fl.map (·.i):=List.mem_append.2 (.inr (List.mem_map.2 ⟨s',hs',rfl⟩))
  rcases zfR k.closed hr (hS.eff hk _ hm) with h | h
  ·exact h
  ·exact absurd (h▸hm) hS.new
 obtain ⟨ph1,k1⟩:=DC.absorb fl (s::r) k hL
 obtain ⟨ph',ρ',tma',w',a,b,c,d⟩:=k1.eff1 KE hih hk hn hr x ds rest kk cs
 exact ⟨_,_,_,ph',ρ',tma',w',a,b,c,d⟩
theorem DC.step (KE:EnvOK E) (hih:KOK E ih) (k:DC E ih ops m res base nt tm0 h0 ρ0 w0 phf L done effs rem ph ρ tma w) (head:ph.heaps.head? = some ph.h) (cur:ph.cur=[]) {i:Nat} (hi:i<m) (hn:¬ L i)
  (hr:∀ o,ops[i]? = some o→∀ e∈o.after,Region.binds .any e=true→L e.on) (x:FxR) (ds:List Deferred) (rest:List Nat) (kk:List Item) (cs:List Frame) :
  ∃ done' effs' rem' ph' ρ' tma' w',DC E ih ops m res base nt tm0 h0 ρ0 w0 phf (fun j=>L j∨j=i) done' effs' rem' ph' ρ' tma' w'∧ph'.heaps.head? = some ph'.h∧ph'.cur=[] ∧
   Steps E.P (lone (fat x tma ds (.inRegion ops (i::rest)::kk)) cs w) (lone (fat x tma' ds (.inRegion ops rest::kk)) cs w'):=by
 rcases k.stepsF.cover i hi with h | ⟨s,hs,rfl⟩
 ·exact absurd (k.doneL i h).2 hn
 ·by_cases hk:s.kind=.eff
  ·exact k.step_eff KE hih hs hk hn hr x ds rest kk cs
  ·obtain ⟨ρ',tma',w',a,b⟩:=k.step_float KE head cur hs hk hn hr x ds rest kk cs
   exact ⟨done,effs,rem,ph,ρ',tma',w',a,head,cur,.one b⟩
theorem DC.finish (k:DC E ih ops m res base nt tm0 h0 ρ0 w0 phf L done effs rem ph ρ tma w) (hall:∀ i,i<m→L i):TmRel ρ phf.tm nt tma∧WRel E ρ phf.h w∧zeu E ρ∧Stp ρ0 h0 w0 ρ phf.h w:=by
 have hrem:∀ s∈rem,L s.i:=fun s hs=>hall s.i (k.stepsF.fresh s hs).2
 obtain ⟨ph1,k1⟩:=DC.absorb rem [] (by simpa using k) hrem
 have hph:ph1=phf:=by
  have:=k1.canon
  simpa [zdR] using this
 subst hph
 refine ⟨⟨k1.tmps.size,fun t v hv => ?_⟩,k1.wr,k1.g,k1.stp⟩
 by_cases hw:∃ j,L j∧∃ o,ops[j]? = some o∧o.dst=some t
 ·obtain ⟨j,hj,o,ho,hd⟩:=hw
  exact k1.tmps.val j o t v hj ho hd hv
 ·rw [k1.tmAt.old t fun j hj o ho hd=>hw ⟨j,(k1.doneL j hj).2,o,ho,hd⟩] at hv
  exact k1.tmps.outer t v hv fun j o hj ho hd=>hw ⟨j,hj,o,ho,hd⟩
end
end Go.Sim
namespace Go.Sim
variable {E:Env}
def LP (L:Array Bool) (i:Nat):Prop:=L.getD i false=true
theorem zzu {L:Array Bool} {i:Nat} (hi:i<L.size):LP (L.setIfInBounds i true)=fun j=>LP L j∨j=i:=by
 funext j
 apply propext
 unfold LP
 by_cases e:j=i
 ·subst e
  simp [hi]
 ·rw [getD_set_ne false (Ne.symm e)]
  simp [e]
theorem zvF (ops:Array Oper) (fuel t:Nat) (L:Array Bool) :
  (Region.ready .any ops L=[]∧Region.linearise.go .any ops (fuel+1) t L []=[]) ∨
   ∃ i,i∈Region.ready .any ops L∧Region.linearise.go .any ops (fuel+1) t L []=i::Region.linearise.go .any ops fuel (t/(Region.ready .any ops L).length) (L.setIfInBounds i true) []:=by
 have hgo:Region.linearise.go .any ops (fuel+1) t L []=(match (Region.ready .any ops L)[t%(Region.ready .any ops L).length]? with
   | some i=>Region.linearise.go .any ops fuel (t/(Region.ready .any ops L).length) (L.setIfInBounds i true) [i]
   | none=>([]:List Nat).reverse):=rfl
 cases hi:(Region.ready .any ops L)[t%(Region.ready .any ops L).length]? with
 | none=>
  left
  refine ⟨?_,by rw [hgo,hi]; rfl⟩
  cases hr:Region.ready .any ops L with
  | nil=>rfl
  | cons x xs=>
   rw [hr] at hi
   have hlt:t%(x::xs).length<(x::xs).length:=Nat.mod_lt _ (by simp)
   rw [List.getElem?_eq_getElem hlt] at hi
   simp at hi
 | some i=>
  right
  refine ⟨i,List.mem_of_getElem? hi,?_⟩
  rw [hgo,hi]
  simp only
  rw [linearise_go_acc]
  rfl
theorem znw {ops:Array Oper} {L:Array Bool} (hL:L.size=ops.size) {i:Nat} (h:i∈Region.ready .any ops L):i<ops.size∧¬ LP L i∧∀ o,ops[i]? = some o→∀ e∈o.after,Region.binds .any e=true→LP L e.on:=by
 obtain ⟨h1,o,ho,h2⟩:=mem_ready.1 h
 have hi:i<L.size:=by
  rcases Nat.lt_or_ge i L.size with h | h
  ·exact h
  ·simp [Array.getD_eq_getD_getElem?,Array.getElem?_eq_none h] at h1
 refine ⟨hL▸hi,fun hp => ?_,fun o' ho' e he hb => ?_⟩
 ·unfold LP at hp
  simp only [Array.getD_eq_getD_getElem?,Array.getElem?_eq_getElem hi,Option.getD_some] at h1 hp
  rw [h1] at hp
  simp at hp
 ·rw [ho] at ho'
  obtain rfl:=Option.some.inj ho'
  exact h2 e he hb
theorem zps {ops:Array Oper} {L:Array Bool} (hL:L.size=ops.size) (he:∀ j o,ops[j]? = some o→∀ e∈o.after,Region.binds .any e=true→e.on<j) (h:Region.ready .any ops L=[]):∀ i,i<ops.size→LP L i:=by
 intro i
 induction i using Nat.strongRecOn with
 | _ i ih=>
  intro hi
  refine Classical.byContradiction fun hn => ?_
  have hm:i∈Region.ready .any ops L:=by
   rw [mem_ready]
   refine ⟨?_,ops[i],Array.getElem?_eq_getElem hi,fun e hm hb=>ih e.on (he i _ (Array.getElem?_eq_getElem hi) e hm hb) ?_⟩
   ·unfold LP at hn
    have hi':i<L.size:=hL▸hi
    simp only [Array.getD_eq_getD_getElem?,Array.getElem?_eq_getElem hi',Option.getD_some,Bool.not_eq_true] at hn ⊢
    exact hn
   ·have:=he i _ (Array.getElem?_eq_getElem hi) e hm hb
    omega
  rw [h] at hm
  simp at hm
def zir (n fuel:Nat) (L:Nat→Prop):Prop:=∃ l:List Nat,(∀ i,i<n→¬ L i→i∈l)∧l.length≤fuel
theorem zir.zero {n:Nat} {L:Nat→Prop} (h:zir n 0 L):∀ i,i<n→L i:=by
 obtain ⟨l,h1,h2⟩:=h
 have:l=[]:=List.eq_nil_of_length_eq_zero (by omega)
 subst this
 intro i hi
 refine Classical.byContradiction fun hn => ?_
 have:=h1 i hi hn
 simp at this
theorem zir.next {n fuel:Nat} {L:Nat→Prop} (h:zir n (fuel+1) L) {i:Nat} (hi:i<n) (hn:¬ L i):zir n fuel fun j=>L j∨j=i:=by
 obtain ⟨l,h1,h2⟩:=h
 refine ⟨l.erase i,fun j hj hnj => ?_,?_⟩
 ·have hne:j≠i:=fun e=>hnj (.inr e)
  rw [List.mem_erase_of_ne hne]
  exact h1 j hj fun h=>hnj (.inl h)
 ·rw [List.length_erase_of_mem (h1 i hi hn)]
  omega
theorem zBj (KE:EnvOK E) {ih:K} (hih:KOK E ih) {fx:Fx} {x:FxR} {ops:Array Oper} {m:Nat} (he:∀ j o,ops[j]? = some o→∀ e∈o.after,Region.binds .any e=true→e.on<j) (ht:∀ j,m≤j→j<ops.size→∀ i,i<j→Bef ops i j)
  (kk:List Item) (cs:List Frame) (hcs:zfQ x.kind cs) {st':St}:∀ (fuel t:Nat) (L:Array Bool) (j:Nat) (ρ:Ren) (st:St) (tm:Array Value) (ds:List Deferred) (w:World),m≤j→j≤ops.size→L.size=ops.size→(∀ i,LP L i↔i<j)→zir ops.size fuel (LP L) →
   FxRel ρ fx x→SRel E ρ fx st tm ds w→zep E ih fx ops (ops.toList.drop j) st=.ok st' →
   ∃ ρ' tm' ds' w',SRel E ρ' fx st' tm' ds' w'∧Stp ρ st.h w ρ' st'.h w'∧Steps E.P (lone (fat x tm ds (.inRegion ops (Region.linearise.go .any ops fuel t L [])::kk)) cs w) (lone (fat x tm' ds' kk) cs w'):=by
 have done:∀ {j:Nat} {ρ:Ren} {st:St} {tm:Array Value} {ds:List Deferred} {w:World},j≤ops.size→ops.size≤j→SRel E ρ fx st tm ds w→zep E ih fx ops (ops.toList.drop j) st=.ok st' →
   ∃ ρ' tm' ds' w',SRel E ρ' fx st' tm' ds' w'∧Stp ρ st.h w ρ' st'.h w'∧Steps E.P (lone (fat x tm ds (.inRegion ops []::kk)) cs w) (lone (fat x tm' ds' kk) cs w'):=by
  intro j ρ st tm ds w h1 h2 hs hok
  rw [List.drop_eq_nil_of_le (by simpa using h2)] at hok
  simp only [zep,Except.ok.injEq] at hok
  subst hok
  exact ⟨ρ,tm,ds,w,hs,Stp.refl _ _ _,.one zib⟩
 intro fuel
 induction fuel with
 | zero=>
  intro t L j ρ st tm ds w h1 h2 h3 h4 h5 h6 h7 h8
  have hall:=h5.zero
  refine done h2 ?_ h7 h8
  refine Nat.le_of_not_lt fun hlt => ?_
  have:=(h4 j).1 (hall j hlt)
  omega
 | succ fuel ih2=>
  intro t L j ρ st tm ds w h1 h2 h3 h4 h5 h6 h7 h8
  rcases zvF ops fuel t L with ⟨hr,hgo⟩ | ⟨i,hi,hgo⟩
  ·rw [hgo]
   have hall:=zps h3 he hr
   refine done h2 ?_ h7 h8
   refine Nat.le_of_not_lt fun hlt => ?_
   have:=(h4 j).1 (hall j hlt)
   omega
  ·rw [hgo]
   obtain ⟨hin,hnl,hpre⟩:=znw h3 hi
   have hij:j≤i:=by
    refine Nat.le_of_not_lt fun hlt=>hnl ((h4 i).2 hlt)
   have hcl:zjf ops (LP L):=fun k o hk ho e hm hb=>(h4 e.on).2 (by have:=he k o ho e hm hb; have:=(h4 k).1 hk; omega)
   have hieq:i=j:=by
    rcases Nat.eq_or_lt_of_le hij with h | h
    ·exact h.symm
    ·exfalso
     rcases zfR hcl hpre (ht i (by omega) hin j h) with hb | hb
     ·have:=(h4 j).1 hb; omega
     ·omega
   subst hieq
   have hdrop:ops.toList.drop i=ops[i]::ops.toList.drop (i+1):=by
    rw [List.drop_eq_getElem_cons (by simpa using hin)]
    simp
   rw [hdrop] at h8
   simp only [zep] at h8
   split at h8
   ·simp at h8
   ·rename_i st1 hop
    obtain ⟨ρ1,tm1,ds1,w1,k1,k2,k3⟩:=zuA KE hih h6 h7 (Array.getElem?_eq_getElem hin) hop (Region.linearise.go .any ops fuel (t/(Region.ready .any ops L).length) (L.setIfInBounds i true) []) kk cs hcs
    have hset:=zzu (L:=L) (i:=i) (by rw [h3]; exact hin)
    obtain ⟨ρ2,tm2,ds2,w2,l1,l2,l3⟩:=ih2 (t/(Region.ready .any ops L).length) (L.setIfInBounds i true) (i+1) ρ1 st1 tm1 ds1 w1 (by omega) (by omega) (by simpa using h3)
     (fun q=>by
      rw [hset]
      constructor
      ·rintro (h | h)
       ·have:=(h4 q).1 h; omega
       ·omega
      ·intro h
       by_cases e:q=i
       ·exact .inr e
       ·exact .inl ((h4 q).2 (by omega))) (by rw [hset]; exact h5.next hin hnl) (h6.mono k2.le) k1 h8
    exact ⟨ρ2,tm2,ds2,w2,l1,k2.trans l2,k3.trans l3⟩
theorem zAP (KE:EnvOK E) {ih:K} (hih:KOK E ih) {fx:Fx} {x:FxR} {ops:Array Oper} {p:Plan} (hp:PF E ops p) {tm0:Tr Value} {h0:SHeap} {ρ0:Ren} {w0:World} {phf:Ph} {base:Nat} (hx:FxRel ρ0 fx x) {dv ds:List Deferred} (hds:DLRel ρ0 dv ds)
  (kk:List Item) (cs:List Frame) (hcs:zfQ x.kind cs) {st':St} (hops:zep E ih fx ops (ops.toList.drop p.m) ⟨phf.tm,phf.h,dv⟩=.ok st') :
  ∀ (fuel t:Nat) (L:Array Bool) (done effs:List Nat) (rem:List PStep) (ph:Ph) (ρ:Ren) (tma:Array Value) (w:World),L.size=ops.size→DC E ih ops p.m p.res base fx.nt tm0 h0 ρ0 w0 phf (LP L) done effs rem ph ρ tma w→ph.heaps.head? = some ph.h→ph.cur=[]→zir ops.size fuel (LP L) →
   ∃ ρ' tm' ds' w',SRel E ρ' fx st' tm' ds' w'∧Stp ρ0 h0 w0 ρ' st'.h w'∧Steps E.P (lone (fat x tma ds (.inRegion ops (Region.linearise.go .any ops fuel t L [])::kk)) cs w) (lone (fat x tm' ds' kk) cs w'):=by
 have last:∀ {fuel t:Nat} {L:Array Bool} {done effs:List Nat} {rem:List PStep} {ph:Ph} {ρ:Ren} {tma:Array Value} {w:World},L.size=ops.size→DC E ih ops p.m p.res base fx.nt tm0 h0 ρ0 w0 phf (LP L) done effs rem ph ρ tma w→(∀ i,i<p.m→LP L i)→zir ops.size fuel (LP L) →
   ∃ ρ' tm' ds' w',SRel E ρ' fx st' tm' ds' w'∧Stp ρ0 h0 w0 ρ' st'.h w'∧Steps E.P (lone (fat x tma ds (.inRegion ops (Region.linearise.go .any ops fuel t L [])::kk)) cs w) (lone (fat x tm' ds' kk) cs w'):=by
  intro fuel t L done effs rem ph ρ tma w hL k hall hc
  obtain ⟨f1,f2,f3,f4⟩:=k.finish hall
  have hs:SRel E ρ fx ⟨phf.tm,phf.h,dv⟩ tma ds w:=⟨f1,hds.mono f4.le,f2,f3⟩
  obtain ⟨ρ',tm',ds',w',a,b,c⟩:=zBj KE hih hp.edges hp.tail kk cs hcs fuel t L p.m ρ _ tma ds w (Nat.le_refl _) hp.le hL (fun i=>⟨k.low i,hall i⟩) hc (hx.mono f4.le) hs hops
  exact ⟨ρ',tm',ds',w',a,f4.trans b,c⟩
 intro fuel
 induction fuel with
 | zero=>
  intro t L done effs rem ph ρ tma w hL k _ _ hc
  have hall:=hc.zero
  exact last hL k (fun i hi=>hall i (Nat.lt_of_lt_of_le hi hp.le)) hc
 | succ fuel ih2=>
  intro t L done effs rem ph ρ tma w hL k head cur hc
  rcases zvF ops fuel t L with ⟨hr,hgo⟩ | ⟨i,hi,hgo⟩
  ·have hall:=zps hL hp.edges hr
   exact last hL k (fun i hi=>hall i (Nat.lt_of_lt_of_le hi hp.le)) hc
  ·obtain ⟨hin,hnl,hpre⟩:=znw hL hi
   by_cases him:i<p.m
   ·rw [hgo]
    obtain ⟨done',effs',rem',ph',ρ',tma',w',a,b,c,d⟩:=k.step KE hih head cur him hnl hpre x ds (Region.linearise.go .any ops fuel (t/(Region.ready .any ops L).length) (L.setIfInBounds i true) []) kk cs
    have hset:=zzu (L:=L) (i:=i) (by rw [hL]; exact hin)
    rw [← hset] at a
    obtain ⟨ρ2,tm2,ds2,w2,l1,l2,l3⟩:=ih2 (t/(Region.ready .any ops L).length) (L.setIfInBounds i true) done' effs' rem' ph' ρ' tma' w' (by simpa using hL) a b c (by rw [hset]; exact hc.next hin hnl)
    exact ⟨ρ2,tm2,ds2,w2,l1,l2,d.trans l3⟩
   ·refine last hL k (fun j hj => ?_) hc
    rcases zfR k.closed hpre (hp.tail i (by omega) hin j (by omega)) with h | h
    ·exact h
    ·omega
theorem zCa (KE:EnvOK E) (hmix:E.P.follows .mixedOrders=true):zcp E:=by
 intro ih hih id ops fx x ρ st tma ds w o st' hx hs hok k cs hcs
 obtain ⟨tm,h,dv⟩:=st
 simp only [ziB] at hok
 split at hok
 ·simp at hok
 ·rename_i steps m res hp
  have hF:=zzm hp
  cases hl:Nat.ble (h.next+res) lim with
  | false=>rw [hl] at hok; simp at hok
  | true=>
   rw [hl,cond_true] at hok
   have hl:=zdA hl
   split at hok
   ·simp at hok
   ·rename_i hps tmf hf cur hdr
    obtain ⟨hok2,rfl⟩:=zjy hok
    let w0:World:={ w with drawn:=w.drawn+1 }
    have hw0:WRel E ρ h w0:=hs.w.drawn _
    have hstep:=zqd (P:=E.P) (x:=x) (tm:=tma) (ds:=ds) (k:=k) (cs:=cs) (w:=w) (id:=id) (ops:=ops)
    have hsch:∀ t,Region.schedule (E.P.follows .mixedOrders) ops t=Region.linearise.go .any ops ops.size t (Array.replicate ops.size false) []:=fun t=>by
     simp only [Region.schedule,hmix,Bool.true_or,if_true]
     rfl
    rw [hsch] at hstep
    have hno:∀ i,¬ LP (Array.replicate ops.size false) i:=by
     intro i hi
     unfold LP at hi
     rw [Array.getD_eq_getD_getElem?,Array.getElem?_replicate] at hi
     split at hi<;>simp at hi
    have hnone:∀ i,ρ (h.next+i)=none:=fun i=>by
     cases hb:ρ (h.next+i) with
     | none=>rfl
     | some q=>have:=hs.w.dom _ _ hb; simp only at this; omega
    have hdc:DC E ih ops m res h.next fx.nt tm h ρ w0 ⟨hps,tmf,hf,cur⟩ (LP (Array.replicate ops.size false)) [] [] steps ⟨[⟨h.t,h.next+res⟩],tm,⟨h.t,h.next+res⟩,[]⟩ ρ tma w0:=by
     refine ⟨hF.edges,fun d hd => ?_,hF.steps,hF.quiet,hdr,⟨fun t _=>rfl,fun j hj=>by simp at hj⟩,fun j hj=>by simp at hj,rfl,fun j hj=>absurd hj (hno j),fun j o hj=>absurd hj (hno j),fun s _ _=>hno _,
      ⟨fun b q hb=>by have:=hw0.dom b q hb; simp only at this ⊢; omega,hw0.live,hw0.inj,hw0.glob⟩,hs.g,⟨hs.tm.size,fun t v hv _=>hs.tm.get t v hv,fun j o d v hj=>absurd hj (hno j)⟩,fun s _ _ hj=>absurd hj (hno _),fun s _ _ _=>hnone _,
      fun i j R κ κ' _ _ h1=>by rw [hnone i] at h1; simp at h1,fun i R κ _ h1=>by rw [hnone i] at h1; simp at h1,?_,Nat.le_refl _,hl,rfl⟩
     ·have h1:=zlc (t:=d) steps _ _ hdr (.inr hd)
      simp only at h1
      rw [h1]
      cases hg:tm.get d with
      | none=>rfl
      | some v=>
       obtain ⟨u,hu,_⟩:=hs.tm.get d v hg
       have hsz:=hs.tm.size
       rw [Array.getElem?_eq_none (by omega)] at hu
       simp at hu
     ·exact ⟨Le.refl ρ,Nat.le_refl _,fun r _ hn=>⟨rfl,hn⟩,rfl,rfl,rfl,fun r _ hn=>hn,fun _ _=>rfl,Nat.le_add_right _ _⟩
    have hcov:zir ops.size ops.size (LP (Array.replicate ops.size false)):=⟨List.range ops.size,fun i hi _=>by simpa using hi,by simp⟩
    obtain ⟨ρ',tm',ds',w',a,b,c⟩:=zAP KE hih hF hx hs.ds k cs hcs hok2 ops.size (w.tape w.drawn (.order x.fn id)) (Array.replicate ops.size false) [] [] steps _ ρ tma w0 (by simp) hdc rfl rfl hcov
    exact ⟨ρ',tm',ds',w',_,a,(Stp.drawn ρ h w (w.drawn+1)).trans b,rfl,.head hstep c⟩
end Go.Sim

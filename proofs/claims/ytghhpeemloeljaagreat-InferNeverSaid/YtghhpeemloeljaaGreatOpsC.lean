/- The simulator's operations, each held against the model's: calls of builtins that look. The simulator's operations, each held against the model's: builtins that look, least and greatest, a slice's address. The simulator's operations, each held against the model's: what append and copy take, copy. The simulator's operations, each held against the model's: append. The simulator's operations, each held against the model's: a string over bytes. The simulator's operations, each held against the model's: conversions. The simulator's operations, each held against the model's: walks over maps. The simulator's operations, each held against the model's: calls, deferred calls; all operations. -/
import Derived.Test.YtghhpeemloeljaaGreatOpsB
import Derived.Laws.Append
import Derived.Laws.IdiomStrings
set_option linter.unusedVariables false
set_option linter.unusedSimpArgs false
namespace Go.Sim
variable {E:Env}
theorem zdF {o:Oper} {c:Call} {b:Builtin} (ho:o.op=.call c) (hc:c.callee=.builtin b) :
  ∃ cs:Array Bool,∀ ρ,execOp ρ o=builtin b c.argTypes o.type cs (c.args.map ρ):=by
 refine ⟨c.args.map fun | .const _=>true | _=>false,fun ρ => ?_⟩
 unfold execOp
 rw [ho]
 simp only [resolve,hc,pure_bind,invoke]
 rfl
theorem zfk {ρ:Ren} {l:List Value} {a:Array Value} {x:Value} (h:LRel ρ (x::l) a.toList):∃ u m,a=⟨u::m⟩∧VRel ρ x u∧LRel ρ l m:=by
 obtain ⟨m⟩:=a
 cases m with
 | nil=>have:=h.len; simp at this
 | cons u m=>
  exact ⟨u,m,rfl,h.get 0 _ _ rfl rfl,⟨by have:=h.len; simpa using this,fun i v w hv hw=>h.get (i+1) v w (by simpa using hv) (by simpa using hw)⟩⟩
theorem zfi {ρ:Ren} {m:List Value} (h:LRel ρ [] m):m=[]:=by
 have:=h.len
 exact List.eq_nil_of_length_eq_zero (by simpa using this.symm)
theorem zhV {ρ:Ren} {ev:Ev} {eval:Operand→Value} (hev:zcE ρ ev eval) {h:SHeap} {w:World} {o:Oper} {n:SNext} {h':SHeap} {c:Call} {b:Builtin}
  (ho:o.op=.call c) (hc:c.callee=.builtin b) (hok:zbZ E.P ev o h=.ok (n,h')):zfh ρ h w n h' ((execOp eval o).run E.P w):=by
 refine zeA hev o hok fun e1 e2 he => ?_
 obtain ⟨cs,hex⟩:=zdF ho hc
 rw [hex,hex]
 congr 1
 refine Array.map_congr_left fun x hx=>he x ?_
 rw [ho]
 show x∈c.operands.toList
 unfold Call.operands
 rw [hc]
 simpa using hx
theorem zdK {ρ:Ren} {eval:Operand→Value} {h:SHeap} {w:World} {o:Oper} {s:Sem Value} (hex:execOp eval o=(do let v ← s; pure (.value v))) {v u:Value}
  (hr:s.run E.P w=.ok u w) (hv:VRel ρ v u):zfh ρ h w (.value v) h ((execOp eval o).run E.P w):=by
 rw [hex,zaw _ _ _ _ _ hr]
 exact .val hv
theorem zvw (x:Value) (l:List Value):(⟨x::l⟩:Array Value)[0]? = some x:=rfl
theorem znb {x:Option TypeId} {ti:TI} (h:x.bind E.T=some ti):∃ t,x=some t∧E.T t=some ti:=by
 cases x with
 | none=>simp at h
 | some t=>exact ⟨t,rfl,h⟩
theorem zzI (K:EnvOK E) {ρ:Ren} {ev:Ev} {eval:Operand→Value} (hev:zcE ρ ev eval) {h:SHeap} {w:World} (hw:WRel E ρ h w) {o:Oper} {n:SNext} {h':SHeap} {c:Call}
  (ho:o.op=.call c) (hc:c.callee=.builtin .len) {x:Value} (hargs:zaj ev c.args.toList=some [x])
  (hok:zks E ev o ((c.argTypes[0]?).bind E.T) x h=.ok (n,h')):zfh ρ h w n h' ((execOp eval o).run E.P w):=by
 obtain ⟨cs,hex⟩:=zdF ho hc
 obtain ⟨u,m,he,hu,hm⟩:=zfk (zdj hev _ _ hargs)
 have hm:=zfi hm
 subst hm
 have hx:execOp eval o=(do let v ← Builtin.len_ c.argTypes o.type #[u]; pure (.value v)):=by rw [hex,he]; rfl
 unfold zks at hok
 split at hok
 ·rename_i e b1 b2 b3 a l k ht
  obtain ⟨t,h1,h2⟩:=znb ht
  obtain ⟨rfl,rfl⟩:=zaq hok
  have:∃ ra cap',u=.slice ra l cap':=by cases hu<;>exact ⟨_,_,rfl⟩
  obtain ⟨ra,cap',rfl⟩:=this
  refine zdK hx (u:=.int .i64 l) ?_ (.int _ _)
  unfold Builtin.len_
  simp [h1,K.und h2 w,goInt]
 ·rename_i b1 b2 b3 s ht
  obtain ⟨t,h1,h2⟩:=znb ht
  obtain ⟨rfl,rfl⟩:=zaq hok
  have:=hu.str_inv
  subst this
  refine zdK hx (u:=.int .i64 s.size) ?_ (by rw [ziF]; exact .int _ _)
  unfold Builtin.len_
  simp only [h1,zvw,Sem.run_bind,K.und h2 w,Result.andThen_ok]
  rfl
 ·rename_i kt et b1 b2 b3 r ht
  obtain ⟨t,h1,h2⟩:=znb ht
  split at hok
  ·rename_i es cl hg
   obtain ⟨rfl,rfl⟩:=zaq hok
   obtain ⟨q,κ,hb,rfl⟩:=hu.map_inv
   obtain ⟨fs,hfs,hmr⟩:=zeG hw hg hb
   refine zdK hx (u:=.int .i64 fs.size) ?_ (by rw [hmr.size]; exact .int _ _)
   unfold Builtin.len_
   simp only [h1,zvw,Sem.run_bind,K.und h2 w,Result.andThen_ok,zch E.P hfs]
   rfl
  ·simp at hok
 ·exact zhV hev ho hc hok
end Go.Sim
namespace Go.Sim
variable {E:Env}
theorem zkX {ρ:Ren} {x y:Value} {a:Array Value} (h:LRel ρ [x,y] a.toList):∃ u v,a = #[u,v]∧VRel ρ x u∧VRel ρ y v:=by
 obtain ⟨u,m,rfl,hu,hm⟩:=zfk h
 obtain ⟨v,m',e,hv,hm'⟩:=zfk (a:=m.toArray) (by simpa using hm)
 have:=zfi hm'
 subst this
 obtain rfl:m=[v]:=by simpa using e
 exact ⟨u,v,rfl,hu,hv⟩
theorem zJF (K:EnvOK E) {ρ:Ren} {ev:Ev} {eval:Operand→Value} (hev:zcE ρ ev eval) {h:SHeap} {w:World} (hw:WRel E ρ h w) {o:Oper} {n:SNext} {h':SHeap} {c:Call}
  (ho:o.op=.call c) (hc:c.callee=.builtin .cap) {sa:Option Addr} {sl sc:Nat} (hargs:zaj ev c.args.toList=some [.slice sa sl sc])
  {e:TypeId} {b1 b2:Nat} {b3:Option Value} (ht:(c.argTypes[0]?).bind E.T=some ⟨.slice e,b1,b2,b3⟩)
  (hok:(if openCap≤sc then .error "cap  open" else zal (.int .i64 sc) h:R)=.ok (n,h')):zeE E ρ h w n h' ((execOp eval o).run E.P w):=by
 obtain ⟨cs,hex⟩:=zdF ho hc
 obtain ⟨u,m,he,hu,hm⟩:=zfk (zdj hev _ _ hargs)
 have hm:=zfi hm
 subst hm
 have hx:execOp eval o=(do let v ← Builtin.cap_ c.argTypes o.type #[u]; pure (.value v)):=by rw [hex,he]; rfl
 obtain ⟨t,h1,h2⟩:=znb ht
 split at hok
 ·simp at hok
 ·rename_i hlt
  obtain ⟨rfl,rfl⟩:=zaq hok
  have:∃ ra,u=.slice ra sl sc:=by
   cases hu with
   | slcNil=>exact ⟨_,rfl⟩
   | slc=>exact ⟨_,rfl⟩
   | slcOpen=>exact absurd (Nat.le_refl openCap) hlt
   | slcLoose=>exact absurd (show openCap≤looseCap by decide) hlt
   | slcNone=>exact absurd (show openCap≤looseCap by decide) hlt
  obtain ⟨ra,rfl⟩:=this
  refine zfh.out hw (zdK hx (u:=.int .i64 sc) ?_ (.int _ _))
  unfold Builtin.cap_
  simp [h1,K.und h2 w,goInt]
theorem ztC {ρ:Ren} {ev:Ev} {eval:Operand→Value} (hev:zcE ρ ev eval) {h:SHeap} {w:World} (hw:WRel E ρ h w) {o:Oper} {n:SNext} {h':SHeap} {c:Call} (mx:Bool)
  (ho:o.op=.call c) (hc:c.callee=.builtin (if mx then .max else .min)) {x y:Value} (hargs:zaj ev c.args.toList=some [x,y])
  (hok:zhj E ev o (zmo mx x y) h=.ok (n,h')):zfh ρ h w n h' ((execOp eval o).run E.P w):=by
 unfold zhj at hok
 split at hok
 ·rename_i v hv
  obtain ⟨rfl,rfl⟩:=zaq hok
  obtain ⟨cs,hex⟩:=zdF ho hc
  obtain ⟨u1,u2,he,hu1,hu2⟩:=zkX (zdj hev _ _ hargs)
  unfold zmo at hv
  split at hv
  ·rename_i k a k' b
   obtain rfl:=Option.some.inj hv
   have e1:=hu1.int_inv
   have e2:=hu2.int_inv
   subst e1 e2
   have bi:∀ (p:Prop) [Decidable p] (s t:Int),(bif decide p then s else t)=(if p then s else t):=by intro p _ s t; by_cases hp:p<;>simp [hp]
   cases mx
   ·have hx:execOp eval o=(do let v ← Builtin.min_ c.argTypes o.type #[.int k a,.int k' b]; pure (.value v)):=by rw [hex,he]; rfl
    refine (zdK hx (u:=.int k (if b<a then b else a)) ?_ (by rw [cond_false,bi]; exact .int _ _))
    unfold Builtin.min_
    simp [Builtin.min2]
   ·have hx:execOp eval o=(do let v ← Builtin.max_ c.argTypes o.type #[.int k a,.int k' b]; pure (.value v)):=by rw [hex,he]; rfl
    refine (zdK hx (u:=.int k (if b>a then b else a)) ?_ (by rw [cond_true,bi]; exact .int _ _))
    unfold Builtin.max_
    simp [Builtin.max2]
  ·rename_i hno
   cases hsy:(zey x||zey y) with
   | false=>rw [hsy] at hv; simp at hv
   | true=>
    rw [hsy,cond_true] at hv
    obtain ⟨κ,h0,hb⟩:∃ κ,ρ 0=some (0,κ)∧zbH κ=true:=by
     rcases Bool.or_eq_true_iff.1 hsy with q | q
     ·exact zhs q hu1
     ·exact zhs q hu2
    unfold zqZ at hv
    split at hv
    ·rename_i f g hf hg
     have e1:=ziH h0 hf hu1
     have e2:=ziH h0 hg hu2
     subst e1 e2
     cases hk:decide (f.k=g.k) with
     | false=>rw [hk] at hv; simp at hv
     | true=>
      rw [hk,cond_true] at hv
      have hk:=of_decide_eq_true hk
      cases mx
      ·have hx:execOp eval o=(do let v ← Builtin.min_ c.argTypes o.type #[.int f.k (f.ev κ),.int g.k (g.ev κ)]; pure (.value v)):=by rw [hex,he]; rfl
       refine (zdK hx (u:=.int f.k (if g.ev κ<f.ev κ then g.ev κ else f.ev κ)) ?_ ?_)
       ·unfold Builtin.min_
        simp [Builtin.min2]
       ·rw [cond_false] at hv
        split at hv
        ·rename_i q
         rw [if_pos (of_decide_eq_true (zij q hb).symm),hk]; exact (SyF.val_ok hv h0 hb).1
        ·rename_i q
         rw [if_neg (of_decide_eq_false (zij q hb).symm)]; exact (SyF.val_ok hv h0 hb).1
        ·simp at hv
      ·have hx:execOp eval o=(do let v ← Builtin.max_ c.argTypes o.type #[.int f.k (f.ev κ),.int g.k (g.ev κ)]; pure (.value v)):=by rw [hex,he]; rfl
       refine (zdK hx (u:=.int f.k (if g.ev κ>f.ev κ then g.ev κ else f.ev κ)) ?_ ?_)
       ·unfold Builtin.max_
        simp [Builtin.max2]
       ·rw [cond_true] at hv
        split at hv
        ·rename_i q
         rw [if_pos (of_decide_eq_true (zij q hb).symm),hk]; exact (SyF.val_ok hv h0 hb).1
        ·rename_i q
         rw [if_neg (of_decide_eq_false (zij q hb).symm)]; exact (SyF.val_ok hv h0 hb).1
        ·simp at hv
    ·simp at hv
 ·exact zhV hev ho hc hok
theorem zre {ρ:Ren} {ev:Ev} {eval:Operand→Value} (hev:zcE ρ ev eval) {h:SHeap} {w:World} (hw:WRel E ρ h w) {o:Oper} {n:SNext} {h':SHeap} {c:Call} (mx:Bool)
  (ho:o.op=.call c) (hc:c.callee=.builtin (if mx then .max else .min)) {x y:Value} (hargs:zaj ev c.args.toList=some [x,y])
  (hok:zhj E ev o (zmo mx x y) h=.ok (n,h')):zeE E ρ h w n h' ((execOp eval o).run E.P w):=
 (ztC hev hw mx ho hc hargs hok).out hw
theorem zsQ {ρ:Ren} {ev:Ev} {eval:Operand→Value} (hev:zcE ρ ev eval) {h:SHeap} {w:World} (hw:WRel E ρ h w) {o:Oper} {n:SNext} {h':SHeap} {c:Call}
  (ho:o.op=.call c) (hc:c.callee=.builtin .unsafeSliceData) {a:Addr} {len cp:Nat} (hargs:zaj ev c.args.toList=some [.slice (some a) len cp])
  (hok:(if len=0 then .error "sliceData  empty" else if cp<openCap∧cp=0 then .error "sliceData" else zal (.pointer (some a)) h:R)=.ok (n,h')):zeE E ρ h w n h' ((execOp eval o).run E.P w):=by
 obtain ⟨cs,hex⟩:=zdF ho hc
 obtain ⟨u,m,he,hu,hm⟩:=zfk (zdj hev _ _ hargs)
 have hm:=zfi hm
 subst hm
 have hx:execOp eval o=(do let v ← Builtin.unsafeSliceData_ c.argTypes o.type #[u]; pure (.value v)):=by rw [hex,he]; rfl
 split at hok
 ·simp at hok
 ·rename_i hlen
  split at hok
  ·simp at hok
  ·rename_i hcp
   obtain ⟨rfl,rfl⟩:=zaq hok
   obtain ⟨b,of,sp⟩:=a
   obtain ⟨r,κ,c',hb,hs,rfl,g1,g2,g3⟩:=hu.slc_some
   simp only at hb hs g2
   subst hs
   have hc':c'≠0:=by
    have h3:cp<openCap∨cp=openCap∨cp=looseCap:=by
     cases hu with
     | slc h=>exact .inl h
     | slcOpen=>exact .inr (.inl rfl)
     | slcLoose=>exact .inr (.inr rfl)
    rcases h3 with h | h | h
    ·have:=g1 h; omega
    ·have:=g2 h; omega
    ·have:=g3 h; omega
   refine zfh.out hw (zdK hx (u:=.pointer (some ⟨r,of,none⟩)) ?_ (.ptr hb))
   show (ite (c'≠0) (pure (.pointer (some ⟨r,of,none⟩))) _:Sem Value).run E.P w=_
   simp [hc']
end Go.Sim
namespace Go.Sim
variable {E:Env}
theorem znx {ρ:Ren} {w:World} {r s:Nat} {c:Tr Value} (hget:∀ (i:Nat) (v:Value),c.get i=some v→∃ u,w.cell? ⟨r,s+i,none⟩=some u∧VRel ρ v u)
  {off k:Nat} {l:List Value} (hl:c.toListFrom off k=some l):∃ us:List Value,LRel ρ l us∧us.length=k∧∀ j u,us[j]? = some u→w.cell? ⟨r,s+off+j,none⟩=some u:=by
 obtain ⟨g1,g2⟩:=zds c k off l hl
 have cell:∀ j,j<k→∃ u,w.cell? ⟨r,s+off+j,none⟩=some u∧∀ v,l[j]? = some v→VRel ρ v u:=by
  intro j hj
  have hv:=g2 j hj
  rw [List.getElem?_eq_getElem (by omega)] at hv
  obtain ⟨u,hu,hr⟩:=hget _ _ hv.symm
  rw [← Nat.add_assoc] at hu
  refine ⟨u,hu,fun v hv' => ?_⟩
  rw [List.getElem?_eq_getElem (by omega)] at hv'
  obtain rfl:=Option.some.inj hv'
  exact hr
 let us:List Value:=(List.range k).map fun j=>(w.cell? ⟨r,s+off+j,none⟩).getD undef
 have hlen:us.length=k:=by simp [us]
 have hus:∀ j u,us[j]? = some u→w.cell? ⟨r,s+off+j,none⟩=some u:=by
  intro j u hu
  have hj:j<k:=by
   rcases Nat.lt_or_ge j k with hj | hj
   ·exact hj
   ·rw [List.getElem?_eq_none (by omega)] at hu; simp at hu
  obtain ⟨x,hx,_⟩:=cell j hj
  simp [us,hj,hx] at hu
  rw [hx,hu]
 refine ⟨us,⟨by omega,fun i v u hv hu => ?_⟩,hlen,hus⟩
 have hi:i<k:=by
  rcases Nat.lt_or_ge i k with hj | hj
  ·exact hj
  ·rw [List.getElem?_eq_none (by omega)] at hv; simp at hv
 obtain ⟨x,hx,hr⟩:=cell i hi
 have:=hus i u hu
 rw [hx] at this
 obtain rfl:=Option.some.inj this
 exact hr v hv
theorem zgT {ρ:Ren} {h:SHeap} {w:World} (hw:WRel E ρ h w) {b r κ:Nat} {c:Tr Value} {n:Nat} {e:TypeId} {op ro:Bool} (hg:h.t.get b=some (.cells c n e op ro)) (hb:ρ b=some (r,κ))
  {off k:Nat} {l:List Value} (hl:c.toListFrom off k=some l):∃ us:List Value,LRel ρ l us∧us.length=k∧∀ j u,us[j]? = some u→w.cell? ⟨r,off+j,none⟩=some u:=by
 obtain ⟨r',κ',h1,m,hm⟩:=hw.live _ _ hg
 rw [hb] at h1
 obtain ⟨rfl,rfl⟩:r=r'∧κ=κ':=by simpa using h1
 have:=znx (r:=r) (s:=0) (fun i v hv=>by rw [Nat.zero_add]; exact hm.get i v hv) hl
 simpa using this
theorem ztq {ρ:Ren} {x u:Value} (hx:VRel ρ x u) {n:Nat} (hn:zkT x=some n) (w:World):(Builtin.lenOf u).run E.P w=.ok n w:=by
 cases hx<;>simp [zkT] at hn<;>subst hn<;>simp [Builtin.lenOf]
theorem zmb {ρ:Ren} {h:SHeap} {w:World} (hw:WRel E ρ h w) {size n len:Nat} {x u:Value} {l:List Value} (hx:VRel ρ x u) (hlen:zkT x=some len) (hn:n≤len)
  (hf:zhW E h size n x=.ok l):∃ us:List Value,LRel ρ l us∧∀ d,(Builtin.firstCells size n u).run E.P { w with drawn:=d }=.ok us.toArray { w with drawn:=d }:=by
 unfold zhW at hf
 split at hf
 ·rename_i a l' c'
  obtain ⟨b,of,sp⟩:=a
  obtain ⟨r,κ,c2,hb,hs,rfl,_⟩:=hx.slc_some
  simp only at hb hs
  subst hs
  split at hf
  ·rename_i c m e op ro hg
   unfold zcM at hf
   split at hf
   ·rename_i l2 hl2
    injection hf with hf
    subst hf
    obtain ⟨us,h1,h2,h3⟩:=zgT hw hg hb hl2
    refine ⟨us,h1,fun d=>run_firstCells_some { w with drawn:=d } size n ⟨r,of,none⟩ l' c2 us h2 fun j v hv => ?_⟩
    rw [zdo]
    exact h3 j v hv
   ·simp at hf
  ·rename_i c m foff hg
   obtain ⟨r',κ',k1,m',e',_,hm⟩:=hw.live _ _ hg
   rw [hb] at k1
   obtain ⟨rfl,rfl⟩:r=r'∧κ=κ':=by simpa using k1
   cases hle:Nat.ble foff of with
   | false=>rw [hle] at hf; simp at hf
   | true=>
    rw [hle,cond_true] at hf
    unfold zcM at hf
    split at hf
    ·rename_i l2 hl2
     injection hf with hf
     subst hf
     obtain ⟨us,h1,h2,h3⟩:=znx (r:=r) (s:=foff) hm hl2
     refine ⟨us,h1,fun d=>run_firstCells_some { w with drawn:=d } size n ⟨r,of,none⟩ l' c2 us h2 fun j v hv => ?_⟩
     rw [zdo]
     have:=h3 j v hv
     rw [show foff+(of-foff)=of by have:=Nat.le_of_ble_eq_true hle; omega] at this
     exact this
    ·simp at hf
  ·simp at hf
 ·rename_i l' c'
  injection hf with hf
  subst hf
  simp only [zkT,Option.some.injEq] at hlen
  cases hx with
  | slcNil=>exact ⟨[],.nil ρ,fun d=>by simp [Builtin.firstCells]⟩
  | slcNone a c=>
   have:n=0:=by omega
   subst this
   refine ⟨[],.nil ρ,fun d => ?_⟩
   cases a<;>simp [Builtin.firstCells,loadCells,loadCellsFrom]
 ·rename_i s
  injection hf with hf
  subst hf
  have:=hx.str_inv
  subst this
  refine ⟨((s.extract 0 n).data.map fun b=>(.int .u8 b.toNat:Value)).toList,?_,fun d=>by
   simp only [Builtin.firstCells,Sem.run_pure]⟩
  rw [Array.toList_map]
  refine ⟨rfl,fun i v u hv hu => ?_⟩
  rw [hv] at hu
  obtain rfl:=Option.some.inj hu
  rw [List.getElem?_map] at hv
  cases hb:(s.extract 0 n).data.toList[i]? with
  | none=>rw [hb] at hv; simp at hv
  | some b=>rw [hb] at hv; simp at hv; subst hv; exact .int _ _
 ·simp at hf
theorem zsT (a b:Nat):Nat.min a b≤a:=Nat.min_le_left a b
theorem zDJ (K:EnvOK E) {ρ:Ren} {ev:Ev} {eval:Operand→Value} (hev:zcE ρ ev eval) {h:SHeap} {w:World} (hw:WRel E ρ h w) {o:Oper} {n:SNext} {h':SHeap} {c:Call}
  (ho:o.op=.call c) (hc:c.callee=.builtin .copy) {a:Addr} {dl dc:Nat} {src:Value} (hargs:zaj ev c.args.toList=some [.slice (some a) dl dc,src])
  (hok:ztW E ((c.argTypes[0]?).bind E.T) a dl src h=.ok (n,h')):zeE E ρ h w n h' ((execOp eval o).run E.P w):=by
 obtain ⟨cs,hex⟩:=zdF ho hc
 obtain ⟨u1,u2,he,hu1,hu2⟩:=zkX (zdj hev _ _ hargs)
 have hx:execOp eval o=(do let v ← Builtin.copy_ c.argTypes o.type #[u1,u2]; pure (.value v)):=by rw [hex,he]; rfl
 unfold ztW at hok
 split at hok
 ·rename_i elem b1 b2 b3 sl ht hsl
  obtain ⟨t,h1,h2⟩:=znb ht
  split at hok
  ·rename_i ei hei
   split at hok
   ·rename_i cells tr m el op hfc hg
    split at hok
    ·rename_i tr' hst
     obtain ⟨rfl,rfl⟩:=zaq hok
     obtain ⟨us,hrel,hrun⟩:=zmb hw hu2 hsl (zsT sl dl) hfc
     obtain ⟨b,of,sp⟩:=a
     obtain ⟨r,κ,c2,hb,hs,rfl,_⟩:=hu1.slc_some
     simp only at hb hs hg hst
     subst hs
     obtain ⟨⟨_,rfl,hrun2⟩,g1,g2⟩:=znl hw hg hb (zei _ _ _ _ _ hst) hrel
     refine ⟨ρ,_,_,.value (.int _ _),g1,g2,?_⟩
     rw [hx]
     refine zaw _ _ _ _ _ ?_
     have hrun:=hrun w.drawn
     unfold Builtin.copy_
     simp only [h1,show (#[(.slice (some ⟨r,of,none⟩) dl c2:Value),u2]:Array Value)[0]? = some (.slice (some ⟨r,of,none⟩) dl c2) from rfl,show (#[(.slice (some ⟨r,of,none⟩) dl c2:Value),u2]:Array Value)[1]? = some u2 from rfl,
      Sem.run_bind,K.und h2 w,Result.andThen_ok,ztq hu2 hsl w,K.sizeOf hei w,hrun,hrun2,Sem.run_pure,goInt]
    ·simp at hok
   ·simp at hok
   ·simp at hok
  ·simp at hok
 ·simp at hok
end Go.Sim
namespace Go.Sim
variable {E:Env}
theorem WRel.kill {ρ:Ren} {h:SHeap} {w:World} (k:WRel E ρ h w) (b:Nat):WRel E ρ (h.set b none) w∧Stp ρ h w ρ (h.set b none) w:=by
 have get:∀ d x,(h.set b none).t.get d=some x→h.t.get d=some x:=by
  intro d x hd
  unfold SHeap.set at hd
  simp only [zaa] at hd
  split at hd
  ·simp at hd
  ·exact hd
 refine ⟨⟨k.dom,fun d x hd=>k.live d x (get d x hd),fun d d' x x' s κ1 κ2 hd hd'=>k.inj d d' x x' s κ1 κ2 (get _ _ hd) (get _ _ hd'),k.glob⟩,Le.refl ρ,Nat.le_refl _,fun s hs hno=>⟨rfl,fun hO=>hno ?_⟩,rfl,rfl,rfl,fun s hs hno hM=>hno ?_,fun _ _=>rfl,Nat.le_refl _⟩
 ·obtain ⟨d,x,κ,hd,e1,e2⟩:=hO
  exact ⟨d,x,κ,get d x hd,e1,e2⟩
 ·obtain ⟨d,x,κ,hd,e1⟩:=hM
  exact ⟨d,x,κ,get d x hd,e1⟩
theorem WRel.again {ρ:Ren} {h:SHeap} {w w':World} (k:WRel E ρ h w) {b r κ:Nat} {o:SObj} (hb:h.t.get b=some o) (hr:ρ b=some (r,κ)) (hn:zdG o) (o':SObj)
  (hs:w'.heap.size=w.heap.size) (hk:∀ s,s≠r→w'.heap[s]? = w.heap[s]?) (ho:zcq E (upd ρ h.next (r,κ)) w' r κ o') (h1:w'.os=w.os) (h2:w'.output=w.output) (h3:w'.tape=w.tape) :
  WRel E (upd ρ h.next (r,κ)) ((h.set b none).new o') w'∧Stp ρ h w (upd ρ h.next (r,κ)) ((h.set b none).new o') w':=by
 have hl:=zgV k (r,κ)
 have hbn:b≠h.next:=by have:=k.dom b _ hr; omega
 have hlt:=zbU hb
 have at_:∀ d,d≠h.next→upd ρ h.next (r,κ) d=ρ d:=fun d hd=>if_neg hd
 have atn:upd ρ h.next (r,κ) h.next=some (r,κ):=if_pos rfl
 have get:∀ d x,((h.set b none).new o').t.get d=some x→(d=h.next∧x=o')∨(d≠h.next∧d≠b∧h.t.get d=some x):=by
  intro d x hd
  unfold SHeap.new SHeap.set at hd
  simp only [zaa] at hd
  split at hd
  ·rename_i hc; exact .inl ⟨hc.1,(Option.some.inj hd).symm⟩
  ·split at hd
   ·simp at hd
   ·rename_i hc
    have hdb:d≠b:=fun e=>hc ⟨e,hlt⟩
    by_cases e:d=h.next
    ·subst e
     obtain ⟨r',κ',h1,_⟩:=k.live _ x hd
     exact absurd (k.dom _ _ h1) (by omega)
    ·exact .inr ⟨e,hdb,hd⟩
 refine ⟨⟨fun d p hd => ?_,fun d x hd => ?_,fun d d' x x' s κ1 κ2 hd hd' e1 e2 hsn => ?_,k.glob.mono hl⟩,hl,by omega,fun s hs' hno=>⟨hk s ?_,fun hO=>hno ?_⟩,h1,h2,h3,fun s hs' hno hM=>hno ?_,fun b hb=>at_ b (by omega),Nat.le_succ _⟩
 ·show d<h.next+1
  by_cases e:d=h.next
  ·omega
  ·rw [at_ d e] at hd; have:=k.dom d p hd; omega
 ·rcases get d x hd with ⟨rfl,rfl⟩ | ⟨e,e',hd⟩
  ·exact ⟨r,κ,atn,ho⟩
  ·obtain ⟨s,κ',e1,e2⟩:=k.live d x hd
   refine ⟨s,κ',by rw [at_ d e]; exact e1,e2.move hl (hk s ?_)⟩
   rintro rfl
   exact e' (k.inj b d o x s κ κ' hb hd hr e1 (.inl (zfj hn))).symm
 ·rcases get d x hd with ⟨e,_⟩ | ⟨e,f,g⟩<;>rcases get d' x' hd' with ⟨e',_⟩ | ⟨e',f',g'⟩
  ·rw [e,e']
  ·rw [e,atn] at e1
   rw [at_ d' e'] at e2
   obtain ⟨rfl,rfl⟩:r=s∧κ=κ1:=by simpa using e1
   exact absurd (k.inj b d' o x' r κ κ2 hb g' hr e2 (.inl (zfj hn))).symm f'
  ·rw [e',atn] at e2
   rw [at_ d e] at e1
   obtain ⟨rfl,rfl⟩:r=s∧κ=κ2:=by simpa using e2
   exact absurd (k.inj b d o x r κ κ1 hb g hr e1 (.inl (zfj hn))).symm f
  ·rw [at_ d e] at e1
   rw [at_ d' e'] at e2
   exact k.inj _ _ _ _ s κ1 κ2 g g' e1 e2 hsn
 ·rintro rfl; exact hno ⟨b,o,κ,hb,hr,hn⟩
 ·obtain ⟨d,x,κ',hd,e1,e2⟩:=hO
  rcases get d x hd with ⟨rfl,rfl⟩ | ⟨e,_,hd⟩
  ·rw [atn] at e1; simp at e1; exact ⟨b,o,κ,hb,by rw [hr,e1.1],hn⟩
  ·rw [at_ d e] at e1; exact ⟨d,x,κ',hd,e1,e2⟩
 ·obtain ⟨d,x,κ',hd,e1⟩:=hM
  rcases get d x hd with ⟨rfl,rfl⟩ | ⟨e,_,hd⟩
  ·rw [atn] at e1; simp at e1; exact ⟨b,o,κ,hb,by rw [hr,e1.1]⟩
  ·rw [at_ d e] at e1; exact ⟨d,x,κ',hd,e1⟩
section
variable {P:Program} {w w2:World} {ats:Array TypeId} {ty st xt elem:TypeId} {d:TypeDesc} {i:TypeInfo} {base:Option Addr} {sLen sCap n:Nat} {u:Value}
theorem zig (h0:ats[0]? = some st) (h1:ats[1]? = some xt) (hs:P.underlying st=some (.slice elem)) (hx:P.underlying xt=some d) (hd:∀ k,d ≠ .int k) (hi:P.info? elem=some i)
  (hn:(Builtin.lenOf u).run P w=.ok n w) (hfit:sLen+n≤sCap) {us:List Value} (hf:(Builtin.firstCells i.size n u).run P w=.ok us.toArray w)
  (hst:match base with | some a=>(storeCells (a.add (sLen*i.size)) us).run P w=.ok () w2 | none=>w2=w) :
  (Builtin.append_ ats ty #[.slice base sLen sCap,u]).run P w=.ok (.slice base (sLen+n) sCap) w2:=by
 have hz:(match d with | .int _=>true | _=>false)=false:=by cases d<;>first | rfl | exact absurd rfl (hd _)
 unfold Builtin.append_
 cases base with
 | none=>
  simp only at hst
  subst hst
  simp [h0,h1,run_underlying hs,run_underlying hx,hz,sizeOf,typeInfo,hi,hn,hfit,hf]
 | some a=>
  simp only at hst
  simp [h0,h1,run_underlying hs,run_underlying hx,hz,sizeOf,typeInfo,hi,hn,hfit,hf,hst]
theorem zql (h0:ats[0]? = some st) (h1:ats[1]? = some xt) (hs:P.underlying st=some (.slice elem)) (hx:P.underlying xt=some d) (hd:∀ k,d ≠ .int k) (hi:P.info? elem=some i)
  {z:Value} (hz:i.zero=some z) (hn:(Builtin.lenOf u).run P w=.ok n w) (hfit:sCap<sLen+n) (hby:(sLen+n)*(i.bytes+1)≤70368744177664) {us old:List Value}
  (hf:(Builtin.firstCells i.size n u).run P { w with drawn:=w.drawn+1 }=.ok us.toArray { w with drawn:=w.drawn+1 })
  (ho:(Builtin.firstCells i.size sLen (.slice base sLen sCap)).run P { w with drawn:=w.drawn+1 }=.ok old.toArray { w with drawn:=w.drawn+1 }) :
  ∃ cap:Nat,sLen+n≤cap∧(Builtin.append_ ats ty #[.slice base sLen sCap,u]).run P w=.ok (.slice (some ⟨w.heap.size,0,none⟩) (sLen+n) cap)
   { w with heap:=w.heap.push (.cells (old.toArray++us.toArray++Builtin.zeroCells z.cells (cap-(sLen+n))) elem),drawn:=w.drawn+1 }:=by
 have hzz:(match d with | .int _=>true | _=>false)=false:=by cases d<;>first | rfl | exact absurd rfl (hd _)
 have hb1:(sLen+n)*i.bytes≤70368744177664:=Nat.le_trans (Nat.mul_le_mul_left _ (Nat.le_succ _)) hby
 have hb2:sLen+n≤70368744177664:=Nat.le_trans (Nat.le_mul_of_pos_right _ (Nat.succ_pos _)) hby
 have h48:=growslice_fits (bytes:=i.bytes) hfit (by omega)
 have h63:¬ (9223372036854775807<((sLen:Int)+(n:Int))):=by omega
 have h48':¬ (281474976710656<Builtin.nextslicecap (sLen+n) sCap*i.bytes):=by omega
 have hnf:¬ (sLen+n≤sCap):=by omega
 refine ⟨grownCap w (sLen+n) sCap elem,Nat.le_add_right _ _,?_⟩
 unfold Builtin.append_
 simp [h0,h1,run_underlying hs,run_underlying hx,hzz,sizeOf,typeInfo,zeroValue,hi,hz,hn,hnf,h63,h48',Question.forced,newRow,grownCap]
 have hf':(Builtin.firstCells i.size n u).run P w.drew=.ok us.toArray w.drew:=hf
 have ho':(Builtin.firstCells i.size sLen (.slice base sLen sCap)).run P w.drew=.ok old.toArray w.drew:=ho
 rw [ho',Result.andThen_ok,hf',Result.andThen_ok,← Array.append_assoc]
 simp only [List.append_toArray]
 rfl
end
theorem zxR (K:EnvOK E) {t:TypeId} {ti:TI} (ht:E.T t=some ti) {z:Value} (hz:ti.zero=some z):z.cells.size=ti.size:=(K.zeroRel ht hz (fun _=>none)).2.1
theorem zuh {ρ:Ren} {w:World} {ds:Array Value} {elem d n κ:Nat} {c:Tr Value} (hle:n≤ds.size) (hroom:∃ ti,E.T elem=some ti∧ds.size=κ*ti.size)
  (hget:∀ (i:Nat) (v:Value),c.get i=some v→∃ u,ds[i]? = some u∧VRel ρ v u)
  (hlt:∀ (i:Nat) (v:Value),c.get i=some v→i<n):zcq E ρ { w with heap:=w.heap.push (.cells ds elem),drawn:=d } w.heap.size κ (.cells c n elem true false):=by
 have hn:({ w with heap:=w.heap.push (.cells ds elem),drawn:=d }:World).heap[w.heap.size]? = some (.cells ds elem (0,0)):=by simp
 refine ⟨ds.size,?_,hle,hlt,fun e=>by simp at e,fun _=>hroom,fun i v hv => ?_,fun _ i _ => ?_,fun _=>⟨_,_,0,0,hn,.inl rfl⟩⟩
 ·unfold World.shape?; rw [hn]
 ·obtain ⟨u,hu,hr⟩:=hget i v hv
  refine ⟨u,?_,hr⟩
  unfold World.cell?
  simp only [hn]
  exact hu
 ·unfold World.frozen?
  simp only [hn]
  simp
theorem zqC (z:Array Value) (n:Nat):(Builtin.zeroCells z n).size=n*z.size:=by simp [Builtin.zeroCells]
theorem ztN (K:EnvOK E) {ρ:Ren} {h:SHeap} {w:World} (hw:WRel E ρ h w) {elem:TypeId} {ei:TI} (hei:E.T elem=some ei) {z:Value} (hz:ei.zero=some z) {rb:Option Addr} {sLen rc n:Nat} {u:Value}
  {c':Tr Value} {ol us:List Value} (hol:ol.length=sLen*ei.size) (hus:us.length=n*ei.size) (hgrow:rc<sLen+n) (hby:(sLen+n)*(ei.bytes+1)≤70368744177664)
  (hn:(Builtin.lenOf u).run E.P w=.ok n w) (hf:(Builtin.firstCells ei.size n u).run E.P { w with drawn:=w.drawn+1 }=.ok us.toArray { w with drawn:=w.drawn+1 })
  (ho:(Builtin.firstCells ei.size sLen (.slice rb sLen rc)).run E.P { w with drawn:=w.drawn+1 }=.ok ol.toArray { w with drawn:=w.drawn+1 })
  (hget:∀ (i:Nat) (v:Value),c'.get i=some v→∃ u,(ol++us)[i]? = some u∧VRel ρ v u) {ats:Array TypeId} {ty st xt:TypeId} {d:TypeDesc}
  (h0:ats[0]? = some st) (h1:ats[1]? = some xt) (hst:E.P.underlying st=some (.slice elem)) (hxt:E.P.underlying xt=some d) (hd:∀ k,d ≠ .int k) {N:Nat} (hN:N=sLen*ei.size+n*ei.size) :
  ∃ ρ' w' r,VRel ρ' (.slice (some ⟨h.next,0,none⟩) (sLen+n) openCap) r∧WRel E ρ' (h.new (.cells c' N elem true false)) w'∧Stp ρ h w ρ' (h.new (.cells c' N elem true false)) w' ∧
   (Builtin.append_ ats ty #[.slice rb sLen rc,u]).run E.P w=.ok r w':=by
 obtain ⟨i,hi,hsz,hby',hz'⟩:=K.info hei
 rw [← hsz] at hf ho
 rw [← hby'] at hby
 obtain ⟨cap,hc,hrun⟩:=zql (ty:=ty) h0 h1 hst hxt hd hi (hz' z hz) hn hgrow hby hf ho
 have hzs:=zxR K hei hz
 have hsize:(ol.toArray++us.toArray++Builtin.zeroCells z.cells (cap-(sLen+n))).size=cap*ei.size:=by
  simp only [Array.size_append,List.size_toArray,zqC,hzs,hol,hus,← Nat.add_mul]
  congr 1
  omega
 have hle:sLen*ei.size+n*ei.size≤cap*ei.size:=by rw [← Nat.add_mul]; exact Nat.mul_le_mul_right _ hc
 obtain ⟨k1,k2⟩:=hw.new (.cells c' N elem true false) (.cells (ol.toArray++us.toArray++Builtin.zeroCells z.cells (cap-(sLen+n))) elem) cap (w.drawn+1)
  (zuh (by rw [hsize,hN]; exact hle) ⟨ei,hei,hsize⟩ (fun i v hv=>by
   obtain ⟨u,hu,hr⟩:=hget i v hv
   refine ⟨u,?_,hr.mono (zgV hw _)⟩
   rw [Array.getElem?_append_left]
   ·simpa using hu
   ·rcases Nat.lt_or_ge i (ol++us).length with h | h
    ·simpa using h
    ·rw [List.getElem?_eq_none h] at hu; simp at hu) (fun i v hv=>by
   obtain ⟨u,hu,hr⟩:=hget i v hv
   rcases Nat.lt_or_ge i (ol++us).length with h | h
   ·simp at h; omega
   ·rw [List.getElem?_eq_none h] at hu; simp at hu))
 exact ⟨_,_,_,.slcOpen (κ:=cap) (by simp [upd]) hc,k1,k2,hrun⟩
theorem zuT (K:EnvOK E) {ρ:Ren} {h:SHeap} {w:World} (hw:WRel E ρ h w) {elem n:Nat} {ei:TI} {base rb:Option Addr} {sLen sCap rc:Nat} {x u:Value} {new:List Value} {v:Value} {h':SHeap}
  (hei:E.T elem=some ei) {z:Value} (hz:ei.zero=some z) (hs:VRel ρ (.slice base sLen sCap) (.slice rb sLen rc)) (hx:VRel ρ x u) (hn:zkT x=some n) (hnew:zhW E h ei.size n x=.ok new)
  (hok:zkG E h elem ei.size ei.bytes base sLen sCap n new=.ok (v,h')) {ats:Array TypeId} {ty st xt:TypeId} {d:TypeDesc}
  (h0:ats[0]? = some st) (h1:ats[1]? = some xt) (hst:E.P.underlying st=some (.slice elem)) (hxt:E.P.underlying xt=some d) (hd:∀ k,d ≠ .int k) :
  ∃ ρ' w' r,VRel ρ' v r∧WRel E ρ' h' w'∧Stp ρ h w ρ' h' w'∧(Builtin.append_ ats ty #[.slice rb sLen rc,u]).run E.P w=.ok r w':=by
 obtain ⟨i,hi,hsz,hby,hz'⟩:=K.info hei
 obtain ⟨us,hrel,hrun⟩:=zmb hw hx hn (Nat.le_refl n) hnew
 have hlr:=ztq (E:=E) hx hn w
 have hrun0:(Builtin.firstCells i.size n u).run E.P w=.ok us.toArray w:=by rw [hsz]; exact hrun w.drawn
 unfold zkG at hok
 cases hg:(Nat.beq new.length (n*ei.size)&&Nat.ble ((sLen+n)*(ei.bytes+1)) 70368744177664) with
 | false=>rw [hg] at hok; simp at hok
 | true=>
  rw [hg,cond_true] at hok
  simp only [Bool.and_eq_true,zaF,decide_eq_true_eq] at hg
  have g1:=hg.1
  have g2:=zdA hg.2
  have hlen:=hrel.len
  have hul:us.length=n*ei.size:=by omega
  cases hop:Nat.beq sCap openCap with
  | true=>
   rw [hop,cond_true] at hok
   rw [zaF,decide_eq_true_eq] at hop
   subst hop
   unfold zku at hok
   split at hok
   ·simp at hok
   ·rename_i b off sp
    split at hok
    ·rename_i cs m el hgb
     cases hc:(Nat.beq off 0&&Nat.beq el elem&&Nat.beq m (sLen*ei.size)) with
     | false=>
      rw [hc,cond_false] at hok
      cases hd2:(Nat.beq off 0&&Nat.beq el elem&&Nat.ble ((sLen+n)*ei.size) m&&Nat.blt 0 ei.size) with
      | false=>rw [hd2] at hok; simp at hok
      | true=>
       rw [hd2,cond_true] at hok
       simp only [Bool.and_eq_true,zaF,decide_eq_true_eq] at hd2
       obtain ⟨⟨⟨c1,c2⟩,c3⟩,c4⟩:=hd2
       have c3:=zdA c3
       have c4:=zaB c4
       subst c1
       obtain rfl:=c2.symm
       unfold zpJ at hok
       split at hok
       ·rename_i cs' hst'
        obtain ⟨rfl,rfl⟩:=zaq hok
        have hspec:=zei _ _ _ _ _ hst'
        obtain ⟨r,κ,c2,hb,hsp,he,_,hk,_⟩:=hs.slc_some
        simp only [Value.slice.injEq] at he
        simp only at hb hsp
        obtain ⟨rfl,_,rfl⟩:=he
        subst hsp
        obtain ⟨_,rfl,hkl⟩:=hk rfl
        obtain ⟨r',κ',e1,m',hm⟩:=hw.live _ _ hgb
        rw [hb] at e1
        obtain ⟨rfl,rfl⟩:r=r'∧rc=κ':=by simpa using e1
        obtain ⟨ti,hti,hroom⟩:=hm.room rfl
        rw [hei] at hti
        obtain rfl:=Option.some.inj hti
        have hfit:sLen+n≤rc:=by
         have h1:=hm.le
         rw [hroom] at h1
         exact Nat.le_of_mul_le_mul_right (Nat.le_trans c3 h1) c4
        have hle:sLen*ei.size+us.length≤m':=by
         rw [hroom,hul,← Nat.add_mul]; exact Nat.mul_le_mul_right _ hfit
        have hcell:∀ j,j<us.length→(w.cell? ⟨r,sLen*ei.size+j,none⟩).isSome=true:=fun j hj=>zgq hm.shape (by omega)
        have hst2:=run_storeCells_cells (P:=E.P) r (sLen*ei.size) us 0 w (by simpa using hcell) (fun j hj=>by simpa using hm.free rfl (sLen*ei.size+j) (by omega)) (fun q hq=>by
         obtain ⟨j,hj⟩:=List.mem_iff_getElem?.1 hq
         rcases hv:new[j]? with _ | v
         ·have:=hrel.none hv; rw [this] at hj; simp at hj
         ·exact zkP (hrel.get j v q hv hj) (zgr new hspec.scalar v (List.mem_of_getElem? hv)))
        have hrest:=zgv r us (sLen*ei.size) w
        obtain ⟨k1,k2⟩:=hw.set (o':=.cells cs' m elem true false) (w':=w.setCells r (sLen*ei.size) us) hgb hb rfl (zgo r us _ w) (fun s hs'=>zge r us _ w s hs')
         ⟨m',by rw [zgb]; exact hm.shape,hm.le,fun i v hv=>by
          rcases hspec.get i v hv with ⟨j,hj,rfl,_⟩ | ⟨_,hg'⟩
          ·exact hspec.fits j hj
          ·exact hm.lt i v hg',fun e=>by simp at e,fun _=>⟨ei,hei,hroom⟩,fun i v hv=>by
          rcases hspec.get i v hv with ⟨j,hj,rfl,hv'⟩ | ⟨ho,hg'⟩
          ·obtain ⟨q,hq,hr⟩:=hrel.some hv'
           have hj':j<us.length:=hlen▸hj
           refine ⟨q,?_,hr⟩
           rw [World.cell?_setCells_in r us _ w hcell j hj']
           rw [List.getElem?_eq_getElem hj'] at hq
           exact hq
          ·obtain ⟨q,hq,hr⟩:=hm.get i v hg'
           refine ⟨q,?_,hr⟩
           rw [World.cell?_setCells_out r us _ w _ (fun _ _=>by rcases ho with ho | ho<;>simp<;>omega)]
           exact hq,fun _ i hi=>by rw [World.frozen?_setCells]; exact hm.free rfl i hi,fun _=>(hm.calm rfl).setCells us _ w⟩ hrest.1 hrest.2.1 hrest.2.2.1
        refine ⟨_,_,_,.slcOpen (r:=r) (κ:=rc) hb hfit,k1,k2,?_⟩
        refine zig (ty:=ty) h0 h1 hst hxt hd hi hlr hfit hrun0 ?_
        simp only
        rw [zdo,Nat.zero_add,hsz]
        simpa using hst2
       ·simp at hok
     | true=>
      rw [hc,cond_true] at hok
      simp only [Bool.and_eq_true,zaF,decide_eq_true_eq] at hc
      obtain ⟨⟨c1,c2⟩,c3⟩:=hc
      subst c1
      obtain rfl:=c2.symm
      subst c3
      split at hok
      ·rename_i cs' hst'
       obtain ⟨rfl,rfl⟩:=zaq hok
       have hspec:=zei _ _ _ _ _ hst'
       obtain ⟨r,κ,c2,hb,hsp,he,_,hk,_⟩:=hs.slc_some
       simp only [Value.slice.injEq] at he
       simp only at hb hsp
       obtain ⟨rfl,_,rfl⟩:=he
       subst hsp
       obtain ⟨_,rfl,hkl⟩:=hk rfl
       obtain ⟨r',κ',e1,m',hm⟩:=hw.live _ _ hgb
       rw [hb] at e1
       obtain ⟨rfl,rfl⟩:r=r'∧rc=κ':=by simpa using e1
       obtain ⟨ti,hti,hroom⟩:=hm.room rfl
       rw [hei] at hti
       obtain rfl:=Option.some.inj hti
       have hN:sLen*ei.size+new.length=sLen*ei.size+n*ei.size:=by omega
       by_cases hfit:sLen+n≤rc
       · -- in its place
        have hle:sLen*ei.size+us.length≤m':=by
         rw [hroom,hul,← Nat.add_mul]; exact Nat.mul_le_mul_right _ hfit
        have hcell:∀ j,j<us.length→(w.cell? ⟨r,sLen*ei.size+j,none⟩).isSome=true:=fun j hj=>zgq hm.shape (by omega)
        have hst2:=run_storeCells_cells (P:=E.P) r (sLen*ei.size) us 0 w (by simpa using hcell) (fun j hj=>by simpa using hm.free rfl (sLen*ei.size+j) (by omega)) (fun q hq=>by
         obtain ⟨j,hj⟩:=List.mem_iff_getElem?.1 hq
         rcases hv:new[j]? with _ | v
         ·have:=hrel.none hv; rw [this] at hj; simp at hj
         ·exact zkP (hrel.get j v q hv hj) (zgr new hspec.scalar v (List.mem_of_getElem? hv)))
        have hrest:=zgv r us (sLen*ei.size) w
        have hkk:=hw.again (o':=.cells cs' (sLen*ei.size+new.length) elem true false) (w':=w.setCells r (sLen*ei.size) us) hgb hb rfl (zgo r us _ w) (fun s hs'=>zge r us _ w s hs')
         ⟨m',by rw [zgb]; exact hm.shape,by omega,fun i v hv=>by
          rcases hspec.get i v hv with ⟨j,hj,rfl,_⟩ | ⟨_,hg'⟩
          ·exact hspec.fits j hj
          ·have:=hm.lt i v hg'; omega,fun e=>by simp at e,fun _=>⟨ei,hei,hroom⟩,fun i v hv=>by
          rcases hspec.get i v hv with ⟨j,hj,rfl,hv'⟩ | ⟨ho,hg'⟩
          ·obtain ⟨q,hq,hr⟩:=hrel.some hv'
           have hj':j<us.length:=hlen▸hj
           refine ⟨q,?_,hr.mono (zgV hw _)⟩
           rw [World.cell?_setCells_in r us _ w hcell j hj']
           rw [List.getElem?_eq_getElem hj'] at hq
           exact hq
          ·obtain ⟨q,hq,hr⟩:=hm.get i v hg'
           refine ⟨q,?_,hr.mono (zgV hw _)⟩
           rw [World.cell?_setCells_out r us _ w _ (fun _ _=>by rcases ho with ho | ho<;>simp<;>omega)]
           exact hq,fun _ i hi=>by rw [World.frozen?_setCells]; exact hm.free rfl i hi,fun _=>(hm.calm rfl).setCells us _ w⟩ hrest.1 hrest.2.1 hrest.2.2.1
        refine ⟨_,_,_,.slcOpen (r:=r) (κ:=rc) (by simp [upd]) hfit,hkk.1,hkk.2,?_⟩
        refine zig (ty:=ty) h0 h1 hst hxt hd hi hlr hfit hrun0 ?_
        simp only
        rw [zdo,Nat.zero_add,hsz]
        simpa using hst2
       · -- in a new row
        have hcell:∀ j,j<sLen*ei.size→(w.cell? ⟨r,j,none⟩).isSome=true:=fun j hj=>zgq hm.shape (by have:=hm.le; omega)
        let ol:List Value:=(List.range (sLen*ei.size)).map fun j=>(w.cell? ⟨r,j,none⟩).getD undef
        have holl:ol.length=sLen*ei.size:=by simp [ol]
        have hols:∀ j u,ol[j]? = some u→w.cell? ⟨r,j,none⟩=some u:=by
         intro j u hu
         have hj:j<sLen*ei.size:=by
          rcases Nat.lt_or_ge j (sLen*ei.size) with hj | hj
          ·exact hj
          ·rw [List.getElem?_eq_none (by omega)] at hu; simp at hu
         have hx:=hcell j hj
         obtain ⟨y,hy⟩:=Option.isSome_iff_exists.1 hx
         simp [ol,hj,hy] at hu
         rw [hy,hu]
        have hold:(Builtin.firstCells ei.size sLen (.slice (some ⟨r,0,none⟩) sLen rc)).run E.P { w with drawn:=w.drawn+1 }=.ok ol.toArray { w with drawn:=w.drawn+1 }:=
         run_firstCells_some { w with drawn:=w.drawn+1 } ei.size sLen ⟨r,0,none⟩ sLen rc ol holl fun j v hv=>by
          rw [zdo,Nat.zero_add]; exact hols j v hv
        obtain ⟨k1,k2⟩:=hw.kill b
        obtain ⟨ρ',w',q,f1,f2,f3,f4⟩:=ztN K k1 hei hz (c':=cs') holl hul (by omega) g2 hlr (hrun _) hold (fun i v hv=>by
         rcases hspec.get i v hv with ⟨j,hj,rfl,hv'⟩ | ⟨ho,hg'⟩
         ·obtain ⟨q,hq,hr⟩:=hrel.some hv'
          refine ⟨q,?_,hr⟩
          rw [List.getElem?_append_right (by omega),holl,Nat.add_sub_cancel_left]
          exact hq
         ·obtain ⟨q,hq,hr⟩:=hm.get i v hg'
          have hi:=hm.lt i v hg'
          refine ⟨q,?_,hr⟩
          rw [List.getElem?_append_left (by omega),show ol[i]? = some ((w.cell? ⟨r,i,none⟩).getD undef) by simp [ol,hi],hq]
          rfl) (ty:=ty) h0 h1 hst hxt hd hN
        exact ⟨ρ',w',q,f1,f2,k2.trans f3,f4⟩
      ·simp at hok
    ·simp at hok
  | false=>
   rw [hop,cond_false] at hok
   cases hsc:Nat.blt sCap openCap with
   | false=>rw [hsc] at hok; simp at hok
   | true=>
    rw [hsc,cond_true] at hok
    have hsc:=zaB hsc
    have hbase:rc=sCap∧((base=none∧rb=none)∨∃ b o r κ,base=some ⟨b,o,none⟩∧rb=some ⟨r,o,none⟩∧ρ b=some (r,κ)):=by
     cases hs with
     | slcNil _=>exact ⟨rfl,.inl ⟨rfl,rfl⟩⟩
     | slc _ hb=>exact ⟨rfl,.inr ⟨_,_,_,_,rfl,rfl,hb⟩⟩
     | slcOpen=>exact absurd hsc (by decide)
     | slcLoose=>exact absurd hsc (by decide)
     | slcNone=>exact absurd hsc (by decide)
    obtain ⟨rfl,hbase⟩:=hbase
    cases hfit:Nat.ble (sLen+n) rc with
    | true=>
     rw [hfit,cond_true] at hok
     have hfit:=zdA hfit
     cases hn0:Nat.beq n 0 with
     | false=>rw [hn0] at hok; simp at hok
     | true=>
      rw [hn0,cond_true] at hok
      rw [zaF,decide_eq_true_eq] at hn0
      subst hn0
      obtain ⟨rfl,rfl⟩:=zaq hok
      have hu0:us=[]:=List.eq_nil_of_length_eq_zero (by omega)
      subst hu0
      refine ⟨ρ,w,_,hs,hw,Stp.refl _ _ _,zig (ty:=ty) h0 h1 hst hxt hd hi hlr hfit hrun0 ?_⟩
      cases rb with
      | none=>rfl
      | some a=>simp [storeCells]
    | false=>
     rw [hfit,cond_false] at hok
     have hfit:rc<sLen+n:=by
      rcases Nat.lt_or_ge rc (sLen+n) with h | h
      ·exact h
      ·rw [Nat.ble_eq_true_of_le h] at hfit; simp at hfit
     unfold zoN at hok
     split at hok
     ·simp at hok
     ·rename_i old hold
      cases hol:Nat.beq old.length (sLen*ei.size) with
      | false=>rw [hol] at hok; simp at hok
      | true=>
       rw [hol,cond_true] at hok
       rw [zaF,decide_eq_true_eq] at hol
       obtain ⟨rfl,rfl⟩:=zaq hok
       obtain ⟨ol,hrel2,hrun2⟩:=zmb hw hs (len:=sLen) rfl (Nat.le_refl _) hold
       have hl2:=hrel2.len
       unfold zai
       exact ztN K hw hei hz (by omega) hul hfit g2 hlr (hrun _) (hrun2 _) (fun i v hv=>by
        obtain ⟨q,hq,hr⟩:=(hrel2.append hrel).some (zcX hv)
        exact ⟨q,hq,hr⟩) h0 h1 hst hxt hd (by simp; omega)
theorem zxW (K:EnvOK E) {ρ:Ren} {ev:Ev} {eval:Operand→Value} (hev:zcE ρ ev eval) {h:SHeap} {w:World} (hw:WRel E ρ h w) {o:Oper} {h':SHeap} {c:Call}
  (ho:o.op=.call c) (hc:c.callee=.builtin .append) {args:List Value} (hargs:zaj ev c.args.toList=some args)
  {v:Value} (hok:zgf E c args h=.ok (v,h')):zeE E ρ h w (.value v) h' ((execOp eval o).run E.P w):=by
 obtain ⟨cs,hex⟩:=zdF ho hc
 unfold zgf at hok
 split at hok
 ·rename_i base sLen sCap x st rest hat
  obtain ⟨u1,u,he,hu1,hu⟩:=zkX (zdj hev _ _ hargs)
  have hx:execOp eval o=(do let v ← Builtin.append_ c.argTypes o.type #[u1,u]; pure (.value v)):=by rw [hex,he]; rfl
  rw [hx]
  have h0:c.argTypes[0]? = some st:=by rw [← Array.getElem?_toList,hat]; rfl
  cases hpa:zkM E rest with
  | false=>rw [hpa] at hok; simp at hok
  | true=>
   rw [hpa,cond_true] at hok
   split at hok
   ·rename_i elem b1 b2 b3 hst
    split at hok
    ·rename_i dd size bytes zz n hei hln
     split at hok
     ·simp at hok
     ·rename_i new hnew
      have hxt:∃ xt xi,c.argTypes[1]? = some xt∧E.T xt=some xi∧∀ k,xi.desc ≠ .int k:=by
       unfold zkM at hpa
       cases rest with
       | nil=>simp at hpa
       | cons xt r=>
        simp only at hpa
        cases hxt:E.T xt with
        | none=>rw [hxt] at hpa; simp at hpa
        | some xi=>
         refine ⟨xt,xi,by rw [← Array.getElem?_toList,hat]; rfl,hxt,fun k hk => ?_⟩
         rw [hxt] at hpa
         simp only [hk] at hpa
         simp at hpa
      obtain ⟨xt,xi,h1,hxi,hni⟩:=hxt
      have:∃ rb rc,u1=.slice rb sLen rc:=by cases hu1<;>exact ⟨_,_,rfl⟩
      obtain ⟨rb,rc,rfl⟩:=this
      obtain ⟨ρ',w',r,g1,g2,g3,g4⟩:=zuT K hw hei rfl hu1 hu hln hnew hok (ty:=o.type) h0 h1 (K.type _ _ hst).2.1 (K.type _ _ hxi).2.1 hni
      exact ⟨ρ',w',_,.value g1,g2,g3,zaw _ _ _ _ _ g4⟩
    ·simp at hok
   ·simp at hok
 ·simp at hok
end Go.Sim
namespace Go.Sim
variable {E:Env}
theorem zin {ρ:Ren}:∀ (l us:List Value) (bs:List UInt8),zcN l=some bs→LRel ρ l us→us=l
 | [],us,bs,_,h=>zfi h
 | v::l,us,bs,hb,h=>by
  cases us with
  | nil=>have:=h.len; simp at this
  | cons u us=>
   have hv:=h.get 0 v u rfl rfl
   have ht:LRel ρ l us:=⟨by have:=h.len; simpa using this,fun i a b ha hb=>h.get (i+1) a b (by simpa using ha) (by simpa using hb)⟩
   unfold zcN at hb
   split at hb
   ·rename_i e; simp at e
   ·rename_i n r e
    injection e with e1 e2
    subst e1 e2
    have:=hv.int_inv
    subst this
    split at hb
    ·rename_i l' hl'
     rw [zin l us l' hl' ht]
    ·simp at hb
   ·simp at hb
theorem zjQ (P:Program) (w:World):∀ (l:List Value) (bs:List UInt8) (r o:Nat) (acc:ByteArray),zcN l=some bs→(∀ (j:Nat) (v:Value),l[j]? = some v→w.cell? ⟨r,o+j,none⟩=some v) →
  (loadBytes ⟨r,o,none⟩ acc l.length).run P w=.ok ⟨acc.data++bs.toArray⟩ w
 | [],bs,r,o,acc,hb,_=>by
  simp [zcN] at hb
  subst hb
  simp [loadBytes]
 | v::l,bs,r,o,acc,hb,h=>by
  unfold zcN at hb
  split at hb
  ·rename_i e; simp at e
  ·rename_i n t e
   injection e with e1 e2
   subst e1 e2
   split at hb
   ·rename_i l' hl'
    obtain rfl:=Option.some.inj hb
    have h0:w.cell? ⟨r,o,none⟩=some (.int .u8 n):=by simpa using h 0 _ rfl
    have ih:=zjQ P w l l' r (o+1) (acc.push n.toNat.toUInt8) hl' (fun j v hj=>by
     have:=h (j+1) v (by simpa using hj)
     rw [show o+1+j=o+(j+1) by omega]
     exact this)
    have ha:Addr.add ⟨r,o,none⟩ 1=⟨r,o+1,none⟩:=zdo r o 1
    simp only [List.length_cons,loadBytes,Sem.run_bind,run_load,h0,Result.andThen_ok,ha,ih]
    congr 2
    simp [ByteArray.push]
   ·simp at hb
  ·simp at hb
theorem zuH {P:Program} {fits:TypeId→Bool} {e:TypeId} (hc:P.cellsOf e=1) (hf:fits e=true) (d count off n:Nat) (h:off+n≤count):rowAt P fits (d+1) e count off n=true:=by
 simp [rowAt,hc,hf,h,Nat.mod_one]
theorem zwh {P:Program} {e u:TypeId} (hc:P.cellsOf e=1) (hl:sameLayout P P.depth e u=true) (count off n:Nat) (hn:off+n≤count):liesAt P P.depth e count off u n=true:=by
 have hd:P.depth=(2*(P.types.size+Made.depth)+1)+1:=rfl
 rw [hd]
 simp only [liesAt,Bool.or_eq_true]
 left
 rw [hd] at hl ⊢
 exact zuH hc hl _ _ _ _ hn
theorem zfJ (w:World) (b o n s:Nat) (hs:s≠b):(w.freeze ⟨b,o,none⟩ n).heap[s]? = w.heap[s]? := by
 unfold World.freeze
 split
 ·rfl
 ·simp only [Array.getElem?_modify]
  rw [if_neg (fun e=>hs e.symm)]
theorem zjA (w:World) (a:Addr) (n:Nat):(w.freeze a n).heap.size=w.heap.size:=by
 unfold World.freeze
 split<;>simp
theorem ziR (w:World) (a:Addr) (n s:Nat):(w.freeze a n).shape? s=w.shape? s:=by
 by_cases hs:s=a.block
 ·subst hs
  unfold World.freeze
  split
  ·rfl
  ·unfold World.shape?
   simp only [Array.getElem?_modify,if_true]
   cases h:w.heap[a.block]? with
   | none=>rfl
   | some x=>cases x<;>simp
 ·exact zhK (zfJ w a.block a.off n s hs |> fun h=>by obtain ⟨b,o,sp⟩:=a; simpa [World.freeze] using h)
theorem zjL (w:World) (a:Addr) (n:Nat) (b:Addr):(w.freeze a n).cell? b=w.cell? b:=by
 by_cases hs:b.block=a.block
 ·unfold World.freeze
  split
  ·rfl
  ·unfold World.cell?
   simp only [Array.getElem?_modify,hs,if_true]
   cases h:w.heap[a.block]? with
   | none=>rfl
   | some x=>cases x<;>simp
 ·exact zkU (zfJ w a.block a.off n _ hs |> fun h=>by obtain ⟨b,o,sp⟩:=a; simpa [World.freeze] using h)
theorem zoE (K:EnvOK E) {ρ:Ren} {ev:Ev} {eval:Operand→Value} (hev:zcE ρ ev eval) {h:SHeap} {w:World} (hw:WRel E ρ h w) {o:Oper} {sn:SNext} {h':SHeap} {c:Call}
  (ho:o.op=.call c) (hc:c.callee=.builtin .unsafeString) {a:Addr} {kd:IntKind} {n:Nat} (hargs:zaj ev c.args.toList=some [.pointer (some a),.int kd (.ofNat n)])
  (hok:zht E ((c.argTypes[0]?).bind E.T) a n h=.ok (sn,h')):zeE E ρ h w sn h' ((execOp eval o).run E.P w):=by
 obtain ⟨cs,hex⟩:=zdF ho hc
 obtain ⟨u1,u2,he,hu1,hu2⟩:=zkX (zdj hev _ _ hargs)
 have hx:execOp eval o=(do let v ← Builtin.unsafeString_ c.argTypes o.type #[u1,u2]; pure (.value v)):=by rw [hex,he]; rfl
 have e2:=hu2.int_inv
 subst e2
 unfold zht at hok
 split at hok
 ·rename_i u b1 b2 b3 tr m e op ht hg
  obtain ⟨t,h1,h2⟩:=znb ht
  split at hok
  ·simp at hok
  ·rename_i hn0
   split at hok
   ·simp at hok
   ·rename_i hbl
    split at hok
    ·simp at hok
    ·rename_i hfit
     split at hok
     ·rename_i l hl
      split at hok
      ·rename_i bs hbs
       obtain ⟨rfl,rfl⟩:=zaq hok
       obtain ⟨b,of,sp⟩:=a
       obtain ⟨r,κ,hb,hs,rfl⟩:=hu1.ptr_inv
       simp only at hb hs hg hl hfit
       subst hs
       obtain ⟨us,f1,f2,f3⟩:=zgT hw hg hb hl
       have:=zin l us bs hbs f1
       subst this
       obtain ⟨r',κ',e1,m',hm⟩:=hw.live _ _ hg
       rw [hb] at e1
       obtain ⟨rfl,rfl⟩:r=r'∧κ=κ':=by simpa using e1
       have hlay:=K.bytesLie e u (by simpa using hbl)
       have hlies:liesAt E.P E.P.depth e (m'/E.P.cellsOf e) of u n=true:=zwh hlay.1 hlay.2 _ _ _ (by rw [hlay.1,Nat.div_one]; have:=hm.le; omega)
       have hlt:of+n≤lim:=by
        have hsp:=zds tr n of us hl
        have:=hsp.2 (n-1) (by omega)
        rw [List.getElem?_eq_getElem (by omega)] at this
        have:=zbU this.symm
        omega
       have hload:=zjQ E.P w us bs r of .empty hbs f3
       rw [f2] at hload
       have hmax:IntKind.i64.max=9223372036854775807:=rfl
       have hbig:¬ (9223372036854775807:Int)<(n:Int):=by unfold lim at hlt; omega
       have hrun:(Builtin.unsafeString_ c.argTypes o.type #[.pointer (some ⟨r,of,none⟩),.int kd (.ofNat n)]).run E.P w=.ok (.string ⟨bs.toArray⟩) (w.freeze ⟨r,of,none⟩ n):=by
        have hneg:¬ (n:Int)<0:=by omega
        have hz:¬ (n:Int)=0:=by omega
        show (bind (asInt (.int kd (.ofNat n))) _:Sem Value).run E.P w=_
        simp [asInt,asIntOf,h1,hmax,hbig,hneg,hn0,variablesAt,hm.shape,elemOf,run_underlying (K.type _ _ h2).2.1,hlies,hload]
       obtain ⟨g1,g2⟩:=hw.set (o':=.cells tr m e op true) (w':=w.freeze ⟨r,of,none⟩ n) hg hb rfl (zjA _ _ _) (fun s hs=>zfJ w r of n s hs)
        ⟨m',by rw [ziR]; exact hm.shape,hm.le,hm.lt,hm.shut,hm.room,fun i v hv=>by rw [zjL]; exact hm.get i v hv,fun e=>by simp at e,fun e=>by simp at e⟩
        (by unfold World.freeze; split<;>rfl) (by unfold World.freeze; split<;>rfl) (by unfold World.freeze; split<;>rfl)
       exact ⟨ρ,_,_,.value (.string _),g1,g2,by rw [hx]; exact zaw _ _ _ _ _ hrun⟩
      ·simp at hok
     ·simp at hok
 ·simp at hok
end Go.Sim
namespace Go.Sim
variable {E:Env}
theorem zcw {ρ:Operand→Value} {o:Oper} {a b:TypeId} {x:Operand} (ho:o.op=.convert a b x):execOp ρ o=(do let v ← convert a b (ρ x); pure (.value v)):=by unfold execOp; rw [ho]
theorem zlQ:∀ (l:List Value) (bs:List UInt8),zcN l=some bs→∃ ns:List Int,l=ns.map (Value.int .u8)∧ns.length=bs.length∧∀ s:ByteArray,ns.foldl (fun r n=>r.push (UInt8.ofNat n.toNat)) s=⟨s.data++bs.toArray⟩
 | [],bs,h=>by
  simp [zcN] at h
  subst h
  exact ⟨[],rfl,rfl,fun s=>by simp⟩
 | v::l,bs,h=>by
  unfold zcN at h
  split at h
  ·rename_i e; simp at e
  ·rename_i n r e
   injection e with e1 e2
   subst e1 e2
   split at h
   ·rename_i l' hl'
    obtain rfl:=Option.some.inj h
    obtain ⟨ns,h1,h2,h3⟩:=zlQ l l' hl'
    refine ⟨n::ns,by rw [h1]; rfl,by simp [h2],fun s => ?_⟩
    rw [List.foldl_cons,h3]
    congr 1
    simp [ByteArray.push]
   ·simp at h
  ·simp at h
theorem ztH (k:IntKind) (n:Int):zoD k n=k.wrap n:=by
 unfold zoD
 cases n with
 | negSucc m=>rfl
 | ofNat m=>
  cases k with
  | i64=>
   simp only
   cases h:Nat.blt m 9223372036854775808 with
   | false=>rfl
   | true=>
    have:=zaB h
    simp only [cond_true]
    unfold IntKind.wrap
    simp only [IntKind.bits,IntKind.signed,Bool.true_and]
    have e:(Int.ofNat m)%((2:Int)^64)=Int.ofNat m:=by
     rw [Int.ofNat_eq_natCast]; omega
    simp only [Nat.reduceSub,e]
    rw [if_neg]
    simp only [decide_eq_true_eq,Int.ofNat_eq_natCast]
    omega
  | u64=>simp [IntKind.wrap,IntKind.bits,IntKind.signed]
  | u32=>simp [IntKind.wrap,IntKind.bits,IntKind.signed]
  | u8=>simp [IntKind.wrap,IntKind.bits,IntKind.signed]
  | _=>rfl
theorem znC {w:World} {r m:Nat} (h:znN w r m):znN (w.freeze ⟨r,m,none⟩ 1) r m∧∀ i,i<m→(w.freeze ⟨r,m,none⟩ 1).frozen? ⟨r,i,none⟩=false:=by
 obtain ⟨c,e,lo,hi,h1,h2⟩:=h
 have hn:(w.freeze ⟨r,m,none⟩ 1).heap[r]? = some (.cells c e (if lo==hi then (m,m+1) else (min lo m,max hi (m+1)))):=by
  unfold World.freeze
  rw [if_neg (by decide)]
  simp [Array.getElem?_modify,h1]
 have key:∃ a b,(if lo==hi then (m,m+1) else (min lo m,max hi (m+1)))=(a,b)∧m≤a:=by
  by_cases e:lo=hi
  ·exact ⟨m,m+1,by simp [e],Nat.le_refl _⟩
  ·have:m≤lo:=by rcases h2 with h | h<;>omega
   exact ⟨min lo m,max hi (m+1),by simp [e],by omega⟩
 obtain ⟨a,b,k1,k2⟩:=key
 rw [k1] at hn
 refine ⟨⟨c,e,a,b,hn,.inr k2⟩,fun i hi => ?_⟩
 unfold World.frozen?
 simp only [hn]
 simp
 omega
theorem WRel.touch {ρ:Ren} {h:SHeap} {w w':World} (k:WRel E ρ h w) {b r κ:Nat} {o:SObj} (hb:h.t.get b=some o) (hr:ρ b=some (r,κ)) (hn:zdG o)
  (hs:w'.heap.size=w.heap.size) (hk:∀ s,s≠r→w'.heap[s]? = w.heap[s]?) (ho:zcq E ρ w' r κ o) (h1:w'.os=w.os) (h2:w'.output=w.output) (h3:w'.tape=w.tape) :
  WRel E ρ h w'∧Stp ρ h w ρ h w':=by
 refine ⟨⟨k.dom,fun d x hd => ?_,k.inj,k.glob⟩,Le.refl ρ,by omega,fun s hs' hno=>⟨hk s ?_,hno⟩,h1,h2,h3,fun s _ hno=>hno,fun _ _=>rfl,Nat.le_refl _⟩
 ·obtain ⟨s,κ',e1,e2⟩:=k.live d x hd
  by_cases e:s=r
  ·subst e
   obtain rfl:=(k.inj b d o x s κ κ' hb hd hr e1 (.inl (zfj hn))).symm
   rw [hb] at hd
   obtain rfl:=Option.some.inj hd
   exact ⟨s,κ,hr,ho⟩
  ·exact ⟨s,κ',e1,e2.move (Le.refl ρ) (hk s e)⟩
 ·rintro rfl; exact hno ⟨b,o,κ,hb,hr,hn⟩
theorem zlp {ρ:Ren} {ev:Ev} {eval:Operand→Value} (hev:zcE ρ ev eval) {h:SHeap} {w:World} {o:Oper} {n:SNext} {h':SHeap} {a b:TypeId} {x:Operand}
  (ho:o.op=.convert a b x) (hok:zbZ E.P ev o h=.ok (n,h')):zfh ρ h w n h' ((execOp eval o).run E.P w):=by
 refine zeA hev o hok fun e1 e2 he => ?_
 rw [zcw ho,zcw ho,he x (by rw [ho]; simp [Op.operands])]
theorem zha (P:Program) {w:World} {r of:Nat} {e m:Nat} (h:w.shape? r=some (e,m)):(Conv.seenAt ⟨r,of,none⟩).run P w=.ok ⟨r,of,none⟩ w:=by
 unfold Conv.seenAt viewAt
 simp [h]
theorem zuO (K:EnvOK E) (a b:TypeId) (x:Operand):zdN E (zfl a b x) (.convert a b x):=by
 intro ev eval ρ h w o n h' ho hev hw hok
 unfold zfl zfK at hok
 split at hok
 · -- a string's bytes
  rename_i b1 b2 b3 e c1 c2 c3 s hs hd hx
  split at hok
  ·rename_i d2 d3 he
   obtain ⟨rfl,rfl⟩:=zaq hok
   have hxe:=(hev x _ hx).str_inv
   rw [zcw ho,hxe]
   have hrun:=run_bytes_of_string (P:=E.P) w a b e s (K.type _ _ hs).2.1 (K.type _ _ hd).2.1 (K.type _ _ he).2.1
   have hcap:s.size≤grownCap w s.size 0 e:=Nat.le_add_right _ _
   have hsize:(bytesRow s (grownCap w s.size 0 e)).size=grownCap w s.size 0 e:=by
    unfold bytesRow
    simp
    have:s.data.size=s.size:=rfl
    omega
   have hlen:(s.data.toList.map fun b=>(.int .u8 b.toNat:Value)).length=s.size:=by rw [List.length_map,ziF]
   let ds:=bytesRow s (grownCap w s.size 0 e)
   have hds:ds.size=grownCap w s.size 0 e:=hsize
   have hn:({ w with heap:=w.heap.push (.cells ds e (ds.size,ds.size+1)),drawn:=w.drawn+1 }:World).heap[w.heap.size]? = some (.cells ds e (ds.size,ds.size+1)):=by simp
   obtain ⟨g1,g2⟩:=hw.new (.cells (Tr.ofL 33 (s.data.toList.map fun b=>(.int .u8 b.toNat:Value))) (s.data.toList.map fun b=>(.int .u8 b.toNat:Value)).length e true false) (.cells ds e (ds.size,ds.size+1)) (grownCap w s.size 0 e) (w.drawn+1)
    ⟨ds.size,by unfold World.shape?; rw [hn],by rw [hds,hlen]; exact hcap,fun i v hv=>ztA hv,fun e=>by simp at e,fun _=>⟨_,he,by rw [hds]; exact (Nat.mul_one _).symm⟩,fun i v hv=>by
     have hv:=zcX hv
     refine ⟨v,?_,?_⟩
     ·unfold World.cell?
      simp only [hn]
      show ds[i]? = some v
      rw [← hv]
      simp only [ds,bytesRow]
      rw [Array.getElem?_append_left]
      ·simp
      ·rcases Nat.lt_or_ge i (s.data.toList.map fun b=>(.int .u8 b.toNat:Value)).length with h | h
       ·simpa using h
       ·rw [List.getElem?_eq_none h] at hv; simp at hv
     ·rw [List.getElem?_map] at hv
      cases hb:s.data.toList[i]? with
      | none=>rw [hb] at hv; simp at hv
      | some b=>rw [hb] at hv; simp at hv; subst hv; exact .int _ _,fun _ i hi=>by
     unfold World.frozen?
     simp only [hn]
     simp
     omega,fun _=>⟨_,_,_,_,hn,.inr (Nat.le_refl _)⟩⟩
   unfold zai
   exact ⟨_,_,_,.value (.slcOpen (κ:=grownCap w s.size 0 e) (by simp [upd]) hcap),g1,g2,zaw _ _ _ _ _ hrun⟩
  ·simp at hok
 · -- bytes as a string
  rename_i e b1 b2 b3 c1 c2 c3 ad len cap hs hd hx
  split at hok
  ·rename_i d1 d2 d3 c m el op ro he hg
   split at hok
   ·rename_i l hl
    split at hok
    ·rename_i bs hbs
     obtain ⟨rfl,rfl⟩:=zaq hok
     obtain ⟨r,κ,c',hb,hsp,hxe,_⟩:=(hev x _ hx).slc_some
     obtain ⟨bb,of,sp⟩:=ad
     simp only at hb hsp hg hl hxe
     subst hsp
     obtain ⟨us,f1,f2,f3⟩:=zgT hw hg hb hl
     have:=zin l us bs hbs f1
     subst this
     obtain ⟨ns,k1,k2,k3⟩:=zlQ us bs hbs
     rw [zcw ho,hxe]
     have hload:(loadCells ⟨r,of,none⟩ len).run E.P w=.ok (ns.map (Value.int .u8)).toArray w:=by
      have:=run_loadCells_list (P:=E.P) w ⟨r,of,none⟩ us (fun j u hu=>by rw [zdo]; exact f3 j u hu)
      rw [f2,k1] at this
      exact this
     have hrun:=run_convert_bytes_string (P:=E.P) w a b e (some ⟨r,of,none⟩) len c' (K.type _ _ hs).2.1 (K.type _ _ he).2.1 (K.type _ _ hd).2.1
     rw [run_bytesToString w ⟨r,of,none⟩ len c' ns hload,k3] at hrun
     rw [zaw _ _ _ _ _ hrun]
     have:(⟨ByteArray.empty.data++bs.toArray⟩:ByteArray)=⟨bs.toArray⟩:=by simp
     rw [this]
     exact .val hw (.string _)
    ·simp at hok
   ·simp at hok
  ·simp at hok
 · -- to unsafe.Pointer
  rename_i t b1 b2 b3 c1 c2 c3 ad hs hd hx
  split at hok
  ·rename_i c m el op ro ti hg hti
   split at hok
   ·rename_i hc
    obtain ⟨rfl,rfl⟩:=zaq hok
    obtain ⟨r,κ,hb,hsp,hxe⟩:=(hev x _ hx).ptr_inv
    obtain ⟨bb,of,sp⟩:=ad
    simp only at hb hsp hg hxe hc
    subst hsp
    obtain ⟨r',κ',e1,m',hm⟩:=hw.live _ _ hg
    rw [hb] at e1
    obtain ⟨rfl,rfl⟩:r=r'∧κ=κ':=by simpa using e1
    rw [zcw ho,hxe]
    have hlt:of<m':=by have:=hm.le; omega
    have hrun:(convert a b (.pointer (some ⟨r,of,none⟩))).run E.P w=.ok (.pointer (some ⟨r,of,none⟩)) w:=by
     have hns:¬ (m'≤of):=by omega
     simp [convert,K.und hs w,K.und hd w,Conv.unsafePointer,zha E.P hm.shape,cellsIn,hm.shape,K.sizeOf hti w,hc.2.2,hns]
    rw [zaw _ _ _ _ _ hrun]
    exact .val hw (.ptr hb)
   ·simp at hok
  ·simp at hok
 · -- from unsafe.Pointer
  rename_i b1 b2 b3 u c1 c2 c3 ad hs hd hx
  split at hok
  ·rename_i c m e ro hg
   split at hok
   ·rename_i hlie
    obtain ⟨rfl,rfl⟩:=zaq hok
    obtain ⟨r,κ,hb,hsp,hxe⟩:=(hev x _ hx).ptr_inv
    obtain ⟨bb,of,sp⟩:=ad
    simp only at hb hsp hg hxe hlie
    subst hsp
    obtain ⟨r',κ',e1,m',hm⟩:=hw.live _ _ hg
    rw [hb] at e1
    obtain ⟨rfl,rfl⟩:r=r'∧κ=κ':=by simpa using e1
    have hmm:=hm.shut rfl
    subst hmm
    rw [zcw ho,hxe]
    obtain ⟨hl,hu⟩:=K.lies e m' of u hlie
    obtain ⟨ui,hui⟩:=Option.isSome_iff_exists.1 hu
    have hrun:(convert a b (.pointer (some ⟨r,of,none⟩))).run E.P w=.ok (.pointer (some ⟨r,of,none⟩)) w:=by
     simp [convert,K.und hs w,K.und hd w,Conv.unsafePointer,zha E.P hm.shape,sizeOf,typeInfo,hui,variablesAt,hm.shape,hl]
    rw [zaw _ _ _ _ _ hrun]
    exact .val hw (.ptr hb)
   ·simp at hok
  ·simp at hok
 · -- a slice of the same type
  rename_i e0 b1 b2 b3 e c1 c2 c3 ad len cap hs hd hx
  split at hok
  ·simp at hok
  ·rename_i hab
   have hab:a=b:=by simpa using hab
   subst hab
   split at hok
   ·rename_i d1 d2 d3 c m el op he hg
    obtain ⟨rfl,rfl⟩:=zaq hok
    rw [hs] at hd
    cases hd
    have hvr:=hev x _ hx
    obtain ⟨r,κ,c',hb,hsp,hxe,_⟩:=hvr.slc_some
    obtain ⟨bb,of,sp⟩:=ad
    simp only at hb hsp hg hxe
    subst hsp
    obtain ⟨r',κ',e1,m',hm⟩:=hw.live _ _ hg
    rw [hb] at e1
    obtain ⟨rfl,rfl⟩:r=r'∧κ=κ':=by simpa using e1
    rw [hxe] at hvr
    rw [zcw ho,hxe]
    have hrun:(convert a a (.slice (some ⟨r,of,none⟩) len c')).run E.P w=.ok (.slice (some ⟨r,of,none⟩) len c') (w.freeze ⟨r,m',none⟩ 1):=by
     simp [convert,K.und hs w,K.und he w,markStringish,hm.shape]
    obtain ⟨q1,q2⟩:=znC (hm.calm rfl)
    obtain ⟨g1,g2⟩:=hw.touch (w':=w.freeze ⟨r,m',none⟩ 1) hg hb rfl (zjA _ _ _) (fun s hs=>zfJ w r m' 1 s hs)
     ⟨m',by rw [ziR]; exact hm.shape,hm.le,hm.lt,hm.shut,hm.room,fun i v hv=>by rw [zjL]; exact hm.get i v hv,fun _=>q2,fun _=>q1⟩
     (by unfold World.freeze; split<;>rfl) (by unfold World.freeze; split<;>rfl) (by unfold World.freeze; split<;>rfl)
    exact ⟨ρ,_,_,.value hvr,g1,g2,zaw _ _ _ _ _ hrun⟩
   ·simp at hok
 · -- whole numbers
  rename_i ts k c1 c2 c3 kk nn hs hd hx
  obtain ⟨rfl,rfl⟩:=zaq hok
  have hxe:=(hev x _ hx).int_inv
  rw [zcw ho,hxe]
  have hrun:(convert a b (.int kk nn)).run E.P w=.ok (.int k (k.wrap nn)) w:=by
   simp only [convert,Sem.run_bind,K.und hs w,K.und hd w,Result.andThen_ok,Conv.intToInt]
   cases ts.desc<;>rfl
  rw [zaw _ _ _ _ _ hrun,ztH]
  exact .val hw (.int _ _)
 · -- numbers that hang on unknown ones
  rename_i k0 a1 a2 a3 k c1 c2 c3 fk re im hs hd hx
  have hra:=hev x _ hx
  obtain ⟨κ,h0,hb⟩:=zhs (v:=.complex fk re im) rfl hra
  split at hok
  ·rename_i v hv
   obtain ⟨rfl,rfl⟩:=zaq hok
   unfold zpU at hv
   split at hv
   ·rename_i f hf
    have hxe:=ziH h0 hf hra
    obtain ⟨v1,v2⟩:=SyF.val_ok hv h0 hb
    have v2:k.wrap (f.ev κ)=f.ev κ:=v2
    rw [zcw ho,hxe]
    have hrun:(convert a b (.int f.k (f.ev κ))).run E.P w=.ok (.int k (f.ev κ)) w:=by
     simp only [convert,Sem.run_bind,K.und hs w,K.und hd w,Result.andThen_ok,Conv.intToInt,v2]
     rfl
    rw [zaw _ _ _ _ _ hrun]
    exact .val hw v1
   ·obtain ⟨l,n,hxe,v1⟩:=znr hv hra
    rw [zcw ho,hxe]
    have hrun:(convert a b (.int l n)).run E.P w=.ok (.int k (k.wrap n)) w:=by
     simp only [convert,Sem.run_bind,K.und hs w,K.und hd w,Result.andThen_ok,Conv.intToInt]
     rfl
    rw [zaw _ _ _ _ _ hrun]
    exact .val hw v1
  ·simp at hok
 ·exact (zlp hev ho hok).out hw
theorem zwq (K:EnvOK E) (a b:TypeId) (x:Operand) (hne:∀ e y1 y2 y3,E.T b≠some ⟨.slice e,y1,y2,y3⟩):zdJ E (zfl a b x) (.convert a b x):=by
 intro ev eval ρ h w o n h' ho hev hw hok
 unfold zfl zfK at hok
 split at hok
 · -- a string's bytes
  rename_i hd _
  exact absurd hd (hne _ _ _ _)
 · -- bytes as a string
  rename_i e b1 b2 b3 c1 c2 c3 ad len cap hs hd hx
  split at hok
  ·rename_i d1 d2 d3 c m el op ro he hg
   split at hok
   ·rename_i l hl
    split at hok
    ·rename_i bs hbs
     obtain ⟨rfl,rfl⟩:=zaq hok
     obtain ⟨r,κ,c',hb,hsp,hxe,_⟩:=(hev x _ hx).slc_some
     obtain ⟨bb,of,sp⟩:=ad
     simp only at hb hsp hg hl hxe
     subst hsp
     obtain ⟨us,f1,f2,f3⟩:=zgT hw hg hb hl
     have:=zin l us bs hbs f1
     subst this
     obtain ⟨ns,k1,k2,k3⟩:=zlQ us bs hbs
     rw [zcw ho,hxe]
     have hload:(loadCells ⟨r,of,none⟩ len).run E.P w=.ok (ns.map (Value.int .u8)).toArray w:=by
      have:=run_loadCells_list (P:=E.P) w ⟨r,of,none⟩ us (fun j u hu=>by rw [zdo]; exact f3 j u hu)
      rw [f2,k1] at this
      exact this
     have hrun:=run_convert_bytes_string (P:=E.P) w a b e (some ⟨r,of,none⟩) len c' (K.type _ _ hs).2.1 (K.type _ _ he).2.1 (K.type _ _ hd).2.1
     rw [run_bytesToString w ⟨r,of,none⟩ len c' ns hload,k3] at hrun
     rw [zaw _ _ _ _ _ hrun]
     have:(⟨ByteArray.empty.data++bs.toArray⟩:ByteArray)=⟨bs.toArray⟩:=by simp
     rw [this]
     exact .val (.string _)
    ·simp at hok
   ·simp at hok
  ·simp at hok
 · -- to unsafe.Pointer
  rename_i t b1 b2 b3 c1 c2 c3 ad hs hd hx
  split at hok
  ·rename_i c m el op ro ti hg hti
   split at hok
   ·rename_i hc
    obtain ⟨rfl,rfl⟩:=zaq hok
    obtain ⟨r,κ,hb,hsp,hxe⟩:=(hev x _ hx).ptr_inv
    obtain ⟨bb,of,sp⟩:=ad
    simp only at hb hsp hg hxe hc
    subst hsp
    obtain ⟨r',κ',e1,m',hm⟩:=hw.live _ _ hg
    rw [hb] at e1
    obtain ⟨rfl,rfl⟩:r=r'∧κ=κ':=by simpa using e1
    rw [zcw ho,hxe]
    have hlt:of<m':=by have:=hm.le; omega
    have hrun:(convert a b (.pointer (some ⟨r,of,none⟩))).run E.P w=.ok (.pointer (some ⟨r,of,none⟩)) w:=by
     have hns:¬ (m'≤of):=by omega
     simp [convert,K.und hs w,K.und hd w,Conv.unsafePointer,zha E.P hm.shape,cellsIn,hm.shape,K.sizeOf hti w,hc.2.2,hns]
    rw [zaw _ _ _ _ _ hrun]
    exact .val (.ptr hb)
   ·simp at hok
  ·simp at hok
 · -- from unsafe.Pointer
  rename_i b1 b2 b3 u c1 c2 c3 ad hs hd hx
  split at hok
  ·rename_i c m e ro hg
   split at hok
   ·rename_i hlie
    obtain ⟨rfl,rfl⟩:=zaq hok
    obtain ⟨r,κ,hb,hsp,hxe⟩:=(hev x _ hx).ptr_inv
    obtain ⟨bb,of,sp⟩:=ad
    simp only at hb hsp hg hxe hlie
    subst hsp
    obtain ⟨r',κ',e1,m',hm⟩:=hw.live _ _ hg
    rw [hb] at e1
    obtain ⟨rfl,rfl⟩:r=r'∧κ=κ':=by simpa using e1
    have hmm:=hm.shut rfl
    subst hmm
    rw [zcw ho,hxe]
    obtain ⟨hl,hu⟩:=K.lies e m' of u hlie
    obtain ⟨ui,hui⟩:=Option.isSome_iff_exists.1 hu
    have hrun:(convert a b (.pointer (some ⟨r,of,none⟩))).run E.P w=.ok (.pointer (some ⟨r,of,none⟩)) w:=by
     simp [convert,K.und hs w,K.und hd w,Conv.unsafePointer,zha E.P hm.shape,sizeOf,typeInfo,hui,variablesAt,hm.shape,hl]
    rw [zaw _ _ _ _ _ hrun]
    exact .val (.ptr hb)
   ·simp at hok
  ·simp at hok
 · -- a slice of the same type
  rename_i hd _
  exact absurd hd (hne _ _ _ _)
 · -- whole numbers
  rename_i ts k c1 c2 c3 kk nn hs hd hx
  obtain ⟨rfl,rfl⟩:=zaq hok
  have hxe:=(hev x _ hx).int_inv
  rw [zcw ho,hxe]
  have hrun:(convert a b (.int kk nn)).run E.P w=.ok (.int k (k.wrap nn)) w:=by
   simp only [convert,Sem.run_bind,K.und hs w,K.und hd w,Result.andThen_ok,Conv.intToInt]
   cases ts.desc<;>rfl
  rw [zaw _ _ _ _ _ hrun,ztH]
  exact .val (.int _ _)
 · -- numbers that hang on unknown ones
  rename_i k0 a1 a2 a3 k c1 c2 c3 fk re im hs hd hx
  have hra:=hev x _ hx
  obtain ⟨κ,h0,hb⟩:=zhs (v:=.complex fk re im) rfl hra
  split at hok
  ·rename_i v hv
   obtain ⟨rfl,rfl⟩:=zaq hok
   unfold zpU at hv
   split at hv
   ·rename_i f hf
    have hxe:=ziH h0 hf hra
    obtain ⟨v1,v2⟩:=SyF.val_ok hv h0 hb
    have v2:k.wrap (f.ev κ)=f.ev κ:=v2
    rw [zcw ho,hxe]
    have hrun:(convert a b (.int f.k (f.ev κ))).run E.P w=.ok (.int k (f.ev κ)) w:=by
     simp only [convert,Sem.run_bind,K.und hs w,K.und hd w,Result.andThen_ok,Conv.intToInt,v2]
     rfl
    rw [zaw _ _ _ _ _ hrun]
    exact .val v1
   ·obtain ⟨l,n,hxe,v1⟩:=znr hv hra
    rw [zcw ho,hxe]
    have hrun:(convert a b (.int l n)).run E.P w=.ok (.int k (k.wrap n)) w:=by
     simp only [convert,Sem.run_bind,K.und hs w,K.und hd w,Result.andThen_ok,Conv.intToInt]
     rfl
    rw [zaw _ _ _ _ _ hrun]
    exact .val v1
  ·simp at hok
 ·exact zlp hev ho hok
end Go.Sim
namespace Go.Sim
variable {E:Env}
theorem zBv {ρ:Operand→Value} {o:Oper} {t:TypeId} {x:Operand} (ho:o.op=.range t x):execOp ρ o=(do let v ← Instr.range t (ρ x); pure (.value v)):=by unfold execOp; rw [ho]
theorem zEI {ρ:Operand→Value} {o:Oper} {x:Operand} {b:Bool} (ho:o.op=.next x b):execOp ρ o=(do let v ← Instr.next (ρ x) b o.type; pure (.value v)):=by unfold execOp; rw [ho]
theorem zBg {ρ:Operand→Value} {o:Oper} {x:Operand} (ho:o.op=.entry x):execOp ρ o=(do let v ← Instr.entry (ρ x); pure (.value v)):=by unfold execOp; rw [ho]
theorem zgO (P:Program) {w:World} {r:Nat} {m:Option Nat} {a b:Nat} {s:Array Nat} (h:w.heap[r]? = some (.mapIter m a s b)):(getObj r).run P w=.ok (.mapIter m a s b) w:=by
 simp [getObj,Sem.run,h]
theorem zoL (P:Program) {w:World} {r:Nat} {m:Option Nat} {a b:Nat} {s:Array Nat} (h:w.heap[r]? = some (.mapIter m a s b)) (o:Obj):(setObj r o).run P w=.ok () { w with heap:=w.heap.setIfInBounds r o }:=by
 simp [setObj,Sem.run,h]
theorem zyF (K:EnvOK E) (t:TypeId) (x:Operand):zdN E (zoU t x) (.range t x):=by
 intro ev eval ρ h w o n h' ho hev hw hok
 unfold zoU zvP at hok
 split at hok
 ·rename_i kt et b1 b2 b3 m ht hx
  split at hok
  ·rename_i es clock hg
   obtain ⟨rfl,rfl⟩:=zaq hok
   obtain ⟨r,κ,hb,hxe⟩:=(hev x _ hx).map_inv
   obtain ⟨fs,hfs,hmr⟩:=zeG hw hg hb
   rw [zBv ho,hxe]
   have hrun:(Instr.range t (.map (some r))).run E.P w=.ok (.pointer (some ⟨w.heap.size,0,none⟩)) { w with heap:=w.heap.push (.mapIter (some r) clock #[] clock),drawn:=w.drawn }:=by
    unfold Instr.range
    simp only [Sem.run_bind,K.und ht w,Result.andThen_ok,zch E.P hfs,Sem.run_pure]
    simp [newObj,Sem.run]
   rw [zaw _ _ _ _ _ hrun]
   obtain ⟨h1,h2⟩:=hw.new (.iter m clock [] clock) (.mapIter (some r) clock #[] clock) 0 w.drawn ⟨r,κ,zgV hw _ _ _ hb,by simp⟩
   exact ⟨_,_,_,.value (zsn _ _),h1,h2,rfl⟩
  ·simp at hok
 ·simp at hok
theorem zkJ {x:Nat}:∀ {l:List Nat},ziO x l=true↔x∈l
 | []=>by simp [ziO]
 | y::r=>by
  simp only [ziO,List.mem_cons]
  cases h:Nat.beq x y with
  | true=>rw [zaF,decide_eq_true_eq] at h; simp [h]
  | false=>
   rw [zaF,decide_eq_false_iff_not] at h
   simp [h,zkJ]
structure EL (ρ:Ren) (l m:List MapEntry):Prop where
 len:l.length=m.length
 get:∀ (j:Nat) (e f:MapEntry),l[j]? = some e→m[j]? = some f→e.key=f.key∧VRel ρ e.val f.val∧e.born=f.born
theorem EL.nil (ρ:Ren):EL ρ [] []:=⟨rfl,by simp⟩
theorem EL.cons {ρ:Ren} {e f:MapEntry} {l m:List MapEntry} (h:e.key=f.key∧VRel ρ e.val f.val∧e.born=f.born) (k:EL ρ l m):EL ρ (e::l) (f::m):=by
 refine ⟨by simp [k.len],fun j a b ha hb => ?_⟩
 cases j with
 | zero=>simp at ha hb; subst ha hb; exact h
 | succ j=>exact k.get j a b (by simpa using ha) (by simpa using hb)
theorem EL.tail {ρ:Ren} {e f:MapEntry} {l m:List MapEntry} (k:EL ρ (e::l) (f::m)):EL ρ l m:=
 ⟨by simpa using k.len,fun j a b ha hb=>k.get (j+1) a b (by simpa using ha) (by simpa using hb)⟩
theorem zld {ρ:Ren} {since last:Nat} {seen:List Nat}:∀ {es fs l:List MapEntry},EL ρ es fs→zmz since last seen es=some l →
  EL ρ l (fs.filter fun f => !seen.reverse.toArray.contains f.born)∧(∀ f∈fs,f.born<since∧f.born<last)∧∀ e∈l,zaP 4 e.key=true
 | [],[],l,_,h=>by
  simp only [zmz,Option.some.injEq] at h
  subst h
  exact ⟨.nil ρ,by simp,by simp⟩
 | [],_::_,l,k,_=>by have:=k.len; simp at this
 | _::_,[],l,k,_=>by have:=k.len; simp at this
 | e::es,f::fs,l,k,h=>by
  obtain ⟨k1,k2,k3⟩:=k.get 0 e f rfl rfl
  unfold zmz at h
  cases hc:(Nat.blt e.born since&&Nat.blt e.born last&&zaP 4 e.key) with
  | false=>rw [hc] at h; simp at h
  | true=>
   rw [hc,cond_true] at h
   simp only [Bool.and_eq_true] at hc
   have c1:=zaB hc.1.1
   have c2:=zaB hc.1.2
   split at h
   ·simp at h
   ·rename_i l' hl'
    obtain ⟨ih1,ih2,ih3⟩:=zld k.tail hl'
    refine ⟨?_,fun g hg => ?_,?_⟩
    ·cases hn:ziO e.born seen with
     | true=>
      rw [hn,cond_true] at h
      obtain rfl:=Option.some.inj h
      have hm:=zkJ.1 hn
      rw [List.filter_cons_of_neg]
      ·exact ih1
      ·rw [← k3]; simp [hm]
     | false=>
      rw [hn,cond_false] at h
      obtain rfl:=Option.some.inj h
      have hm:¬ e.born∈seen:=fun hm=>by rw [zkJ.2 hm] at hn; simp at hn
      rw [List.filter_cons_of_pos]
      ·exact .cons ⟨k1,k2,k3⟩ ih1
      ·rw [← k3]; simp [hm]
    ·rcases List.mem_cons.1 hg with rfl | hg
     ·rw [← k3]; exact ⟨c1,c2⟩
     ·exact ih2 g hg
    ·cases hn:ziO e.born seen with
     | true=>
      rw [hn,cond_true] at h
      obtain rfl:=Option.some.inj h
      exact ih3
     | false=>
      rw [hn,cond_false] at h
      obtain rfl:=Option.some.inj h
      intro a ha
      rcases List.mem_cons.1 ha with rfl | ha
      ·exact hc.2
      ·exact ih3 a ha
theorem znp {h:SHeap} {r m since clock:Nat} {seen:List Nat}:∀ {l:List MapEntry} {j:Nat} {e:MapEntry},l[j]? = some e→zyA h r m since seen clock e∈zjW h r m since seen clock l
 | [],j,e,h=>by simp at h
 | a::l,0,e,h=>by simp at h; subst h; simp [zjW]
 | a::l,j+1,e,h=>by simp only [zjW,List.mem_cons]; exact .inr (znp (by simpa using h))
theorem zrR {P:Program} {w:World} {r rm since last clock:Nat} {sn:Array Nat} {fs:Array MapEntry} {ty:TypeId} (hr:w.heap[r]? = some (.mapIter (some rm) since sn last)) (hm:w.heap[rm]? = some (.map fs clock))
  (hl:∀ f∈fs.toList,f.born<since∧f.born<last) (hf:fs.filter (fun f => !sn.contains f.born) = #[]):(Instr.next (.pointer (some ⟨r,0,none⟩)) false ty).run P w=.ok (.tuple #[.bool false]) w:=by
 have hall:(!sn.isEmpty && !fs.isEmpty&&fs.all (fun e=>decide (e.born≥last)))=false:=by
  cases he:fs.isEmpty with
  | true=>simp
  | false=>
   have:fs.all (fun e=>decide (e.born≥last))=false:=by
    rw [Bool.eq_false_iff]
    intro h
    rw [Array.all_eq_true_iff_forall_mem] at h
    have h0:0<fs.size:=by
     rcases Nat.eq_zero_or_pos fs.size with h0 | h0
     ·simp [Array.isEmpty,h0] at he
     ·exact h0
    have hx:fs[0]∈fs:=Array.getElem_mem h0
    have h1:=h _ hx
    have h2:=(hl fs[0] (by simp)).2
    simp at h1
    omega
   simp [this]
 unfold Instr.next
 simp only [Sem.run_bind,zgO P hr,Result.andThen_ok,zch P hm,hall,Bool.false_eq_true,if_false,hf]
 simp [choose,Sem.run,Question.forced]
theorem zrP {P:Program} {w:World} {r rm since last clock:Nat} {sn:Array Nat} {fs:Array MapEntry} {ty:TypeId} (hr:w.heap[r]? = some (.mapIter (some rm) since sn last)) (hm:w.heap[rm]? = some (.map fs clock))
  (hl:∀ f∈fs.toList,f.born<since∧f.born<last) (h0:0<(fs.filter (fun f => !sn.contains f.born)).size) :
  ∃ (j:Nat) (f:MapEntry) (d:Nat),(fs.filter (fun f => !sn.contains f.born))[j]? = some f∧(Instr.next (.pointer (some ⟨r,0,none⟩)) false ty).run P w=.ok (.tuple #[.bool true,f.key,f.val]) { w with heap:=w.heap.setIfInBounds r (.mapIter (some rm) since (sn.push f.born) clock),drawn:=d }:=by
 have hall:(!sn.isEmpty && !fs.isEmpty&&fs.all (fun e=>decide (e.born≥last)))=false:=by
  cases he:fs.isEmpty with
  | true=>simp
  | false=>
   have:fs.all (fun e=>decide (e.born≥last))=false:=by
    rw [Bool.eq_false_iff]
    intro h
    rw [Array.all_eq_true_iff_forall_mem] at h
    have h0:0<fs.size:=by
     rcases Nat.eq_zero_or_pos fs.size with h0 | h0
     ·simp [Array.isEmpty,h0] at he
     ·exact h0
    have hx:fs[0]∈fs:=Array.getElem_mem h0
    have h1:=h _ hx
    have h2:=(hl fs[0] (by simp)).2
    simp at h1
    omega
   simp [this]
 have hmem:∀ x∈(fs.filter fun f => !sn.contains f.born).toList,x.born<since:=fun x hx=>(hl x (by simp at hx ⊢; exact hx.1)).1
 unfold Instr.next
 simp only [Sem.run_bind,zgO P hr,Result.andThen_ok,zch P hm,hall,Bool.false_eq_true,if_false]
 generalize fs.filter (fun f => !sn.contains f.born)=L at h0 hmem ⊢
 have e1:L.filter (fun x=>decide (x.born<since))=L:=Array.filter_eq_self.2 (fun x hx=>by simpa using hmem x (by simpa using hx))
 have e2:L.filter (fun x=>decide (x.born≥since)) = #[]:=by
  rw [Array.filter_eq_empty_iff]
  intro x hx
  have:=hmem x (by simpa using hx)
  simp
  omega
 have hne:L.isEmpty=false:=by
  rw [Array.isEmpty,decide_eq_false_iff_not]
  omega
 simp only [e1,e2,Array.append_empty,hne,Bool.false_eq_true,if_false,Array.empty_append,Array.size_map]
 have hch:∃ (j d:Nat),j<L.size∧(choose (Question.mapNext L.size)).run P w=.ok j { w with drawn:=d }:=by
  by_cases hf:L.size≤1
  ·exact ⟨0,w.drawn,h0,by simp [choose,Sem.run,Question.forced,hf]⟩
  ·exact ⟨_,w.drawn+1,Nat.mod_lt _ h0,by simp [choose,Sem.run,Question.forced,hf,Question.cut]; rfl⟩
 obtain ⟨j,d,hj,hc⟩:=hch
 refine ⟨j,L[j],d,Array.getElem?_eq_getElem hj,?_⟩
 simp only [hc,Result.andThen_ok]
 have hg:(L.map some)[j]? = some (some L[j]):=by rw [Array.getElem?_map,Array.getElem?_eq_getElem hj]; rfl
 rw [hg]
 simp only [Sem.run_bind]
 rw [zoL P (w:={ w with drawn:=d }) hr]
 rfl
theorem zvW {ev:Ev} {eval:Operand→Value} {ρ:Ren} {h:SHeap} {w:World} {o:Oper} {x:Operand} {L:List (Value×SHeap)} (ho:o.op=.next x false) (hev:zcE ρ ev eval) (hw:WRel E ρ h w) (hok:zjT (ev x) h=.ok L) :
  ∃ p∈L,zeE E ρ h w (.value p.1) p.2 ((execOp eval o).run E.P w):=by
 unfold zjT at hok
 split at hok
 ·rename_i r hx
  split at hok
  ·rename_i m since seen last hg
   split at hok
   ·rename_i es clock hgm
    obtain ⟨s,κ,hb,_,hxe⟩:=(hev x _ hx).ptr_inv
    simp only at hb hxe
    obtain ⟨s',κ',e1,rm,κm,hm,hs⟩:=hw.live _ _ hg
    rw [hb] at e1
    obtain ⟨rfl,rfl⟩:s=s'∧κ=κ':=by simpa using e1
    obtain ⟨fs,hfs,hmr⟩:=zeG hw hgm hm
    rw [zEI ho,hxe]
    have hel:EL ρ es.toList fs.toList:=⟨hmr.list.1,hmr.list.2⟩
    split at hok
    ·rename_i hl
     simp only [Except.ok.injEq] at hok
     subst hok
     obtain ⟨k1,k2,_⟩:=zld hel hl
     have k1:=k1.len
     have hnil:fs.filter (fun f => !seen.reverse.toArray.contains f.born) = #[]:=by
      rw [← Array.toList_inj,Array.toList_filter]
      exact List.eq_nil_of_length_eq_zero k1.symm
     refine ⟨_,List.mem_singleton.2 rfl,?_⟩
     rw [zaw _ _ _ _ _ (zrR hs hfs k2 hnil)]
     refine .val hw (.tuple' ?_)
     exact LRel.cons (.bool _) (.nil _)
    ·rename_i e l hl
     simp only [Except.ok.injEq] at hok
     subst hok
     obtain ⟨k1,k2,k3⟩:=zld hel hl
     have hsz:0<(fs.filter (fun f => !seen.reverse.toArray.contains f.born)).size:=by
      rw [← Array.length_toList,Array.toList_filter,← k1.len]
      simp
     obtain ⟨j,f,d,hf,hrun⟩:=zrP (P:=E.P) (ty:=o.type) hs hfs k2 hsz
     rw [← Array.getElem?_toList,Array.toList_filter] at hf
     have hj:j<(e::l).length:=by
      rcases Nat.lt_or_ge j (e::l).length with h | h
      ·exact h
      ·rw [List.getElem?_eq_none (by rw [← k1.len]; exact h)] at hf; simp at hf
     have he:=List.getElem?_eq_getElem hj
     obtain ⟨q1,q2,q3⟩:=k1.get j _ _ he hf
     refine ⟨_,znp he,?_⟩
     have hlt:s<w.heap.size:=by
      rcases Nat.lt_or_ge s w.heap.size with h | h
      ·exact h
      ·rw [Array.getElem?_eq_none h] at hs; simp at hs
     obtain ⟨h1,h2⟩:=hw.set (w':={ w with heap:=w.heap.setIfInBounds s (.mapIter (some rm) since (seen.reverse.toArray.push f.born) clock),drawn:=d })
      (o':=.iter m since ((e::l)[j].born::seen) clock) hg hb trivial (by simp) (fun q hq=>by simp [Array.getElem?_setIfInBounds,Ne.symm hq])
      ⟨rm,κm,hm,by simp [hlt,q3]⟩ rfl rfl rfl
     rw [zaw _ _ _ _ _ hrun]
     refine ⟨ρ,_,_,.value (.tuple' ?_),h1,h2,rfl⟩
     refine LRel.cons (.bool _) (LRel.cons ?_ (LRel.cons q2 (.nil _)))
     rw [← q1]
     exact zdu 4 _ (k3 _ (List.getElem_mem hj))
    ·simp at hok
   ·simp at hok
  ·simp at hok
 ·simp at hok
theorem zAv (x:Operand) (b:Bool):zdN E (zpF x b) (.next x b):=by
 intro ev eval ρ h w o n h' ho hev hw hok
 cases b with
 | true=>simp [zpF] at hok
 | false=>
  simp only [zpF] at hok
  unfold zyd at hok
  split at hok
  ·rename_i v h1 hn
   obtain ⟨rfl,rfl⟩:=zaq hok
   obtain ⟨p,hp,k⟩:=zvW ho hev hw hn
   obtain rfl:=List.mem_singleton.1 hp
   exact k
  ·simp at hok
  ·simp at hok
theorem zsS {ρ:Ren} {b:Nat}:∀ {es fs:List MapEntry} {e:MapEntry},EL ρ es fs→es.find? (fun e=>Nat.beq e.born b)=some e →
  ∃ f,fs.find? (fun e=>e.born==b)=some f∧e.key=f.key∧VRel ρ e.val f.val
 | [],_,e,_,h=>by simp at h
 | _::_,[],e,k,_=>by have:=k.len; simp at this
 | a::es,f::fs,e,k,h=>by
  obtain ⟨k1,k2,k3⟩:=k.get 0 a f rfl rfl
  rw [List.find?_cons] at h ⊢
  rw [← k3]
  by_cases hc:a.born=b
  ·have e1:Nat.beq a.born b=true:=by rw [zaF,decide_eq_true_eq]; exact hc
   rw [e1] at h
   obtain rfl:=Option.some.inj h
   exact ⟨f,by simp [hc],k1,k2⟩
  ·have e1:Nat.beq a.born b=false:=by rw [zaF,decide_eq_false_iff_not]; exact hc
   rw [e1] at h
   have e2:(a.born==b)=false:=by simp [hc]
   rw [e2]
   exact zsS k.tail h
theorem zyZ {P:Program} {w:World} {r rm since last:Nat} {sn:List Nat} {b:Nat} {fs:Array MapEntry} {f:MapEntry} (hr:w.heap[r]? = some (.mapIter (some rm) since (b::sn).reverse.toArray last)) (hm:w.heap[rm]? = some (.map fs last))
  (hf:fs.toList.find? (fun e=>e.born==b)=some f):(Instr.entry (.pointer (some ⟨r,0,none⟩))).run P w=.ok (.tuple #[f.key,f.val]) w:=by
 unfold Instr.entry
 have hb:((b::sn).reverse.toArray).back? = some b:=by simp
 have hf':fs.find? (fun e=>e.born==b)=some f:=by rw [← Array.find?_toList]; exact hf
 simp only [Sem.run_bind,zgO P hr,Result.andThen_ok,hb,zch P hm]
 simp [hf']
theorem zzs (x:Operand):zdN E (zoI x) (.entry x):=by
 intro ev eval ρ h w o n h' ho hev hw hok
 unfold zoI zvC at hok
 split at hok
 ·rename_i r hx
  split at hok
  ·rename_i m since b seen last hg
   split at hok
   ·rename_i es clock hgm
    cases hc:Nat.beq clock last with
    | false=>rw [hc] at hok; simp at hok
    | true=>
     rw [hc,cond_true] at hok
     rw [zaF,decide_eq_true_eq] at hc
     subst hc
     split at hok
     ·rename_i e he
      cases hp:zaP 4 e.key with
      | false=>rw [hp] at hok; simp at hok
      | true=>
       rw [hp,cond_true] at hok
       obtain ⟨rfl,rfl⟩:=zaq hok
       obtain ⟨s,κ,hb,_,hxe⟩:=(hev x _ hx).ptr_inv
       simp only at hb hxe
       obtain ⟨s',κ',e1,rm,κm,hm,hs⟩:=hw.live _ _ hg
       rw [hb] at e1
       obtain ⟨rfl,rfl⟩:s=s'∧κ=κ':=by simpa using e1
       obtain ⟨fs,hfs,hmr⟩:=zeG hw hgm hm
       rw [zBg ho,hxe]
       obtain ⟨f,h1,h2,h3⟩:=zsS (ρ:=ρ) ⟨hmr.list.1,hmr.list.2⟩ he
       rw [zaw _ _ _ _ _ (zyZ hs hfs h1)]
       refine .val hw (.tuple' (LRel.cons ?_ (LRel.cons h3 (.nil _))))
       rw [← h2]
       exact zdu 4 _ hp
     ·simp at hok
   ·simp at hok
  ·simp at hok
 ·simp at hok
theorem zAC {ev:Ev} {eval:Operand→Value} {ρ:Ren} {h:SHeap} {w:World} {o:Oper} {n:SNext} {h':SHeap} {c:Call} {r:Nat} (K:EnvOK E) (hev:zcE ρ ev eval) (hw:WRel E ρ h w)
  (ho:o.op=.call c) (hc:c.callee=.builtin .clear) (ha:zaj ev c.args.toList=some [.map (some r)]) (hok:zqF E ((c.argTypes[0]?).bind E.T) r h=.ok (n,h')):zeE E ρ h w n h' ((execOp eval o).run E.P w):=by
 obtain ⟨cs,hex⟩:=zdF ho hc
 unfold zqF at hok
 split at hok
 ·rename_i kt et b1 b2 b3 es clock hti hg
  obtain ⟨t,ht,hti⟩:=Option.bind_eq_some_iff.1 hti
  obtain ⟨rfl,rfl⟩:=zaq hok
  have hl:=zdj hev _ _ ha
  obtain ⟨u,m,he,hu,hm⟩:=zfk (a:=c.args.map eval) (by simpa using hl)
  obtain rfl:=zfi hm
  obtain ⟨s,κ,hb,rfl⟩:=hu.map_inv
  obtain ⟨fs,hfs,hmr⟩:=zeG hw hg hb
  rw [hex,he]
  have hlt:s<w.heap.size:=by
   rcases Nat.lt_or_ge s w.heap.size with h | h
   ·exact h
   ·rw [Array.getElem?_eq_none h] at hfs; simp at hfs
  have hrun:(Builtin.clear_ c.argTypes o.type #[.map (some s)]).run E.P w=.ok (.tuple #[]) { w with heap:=w.heap.setIfInBounds s (.map #[] clock) }:=by
   unfold Builtin.clear_
   simp only [ht]
   simp only [List.getElem?_toArray,List.getElem?_cons_zero,Sem.run_bind,K.und hti w,Result.andThen_ok,zch E.P hfs,zgc E.P hfs,Sem.run_pure]
  obtain ⟨h1,h2⟩:=hw.set (w':={ w with heap:=w.heap.setIfInBounds s (.map #[] clock) }) (o':=.map #[] clock) hg hb trivial (by simp) (fun q hq=>by simp [Array.getElem?_setIfInBounds,Ne.symm hq])
   ⟨#[],by simp [hlt],rfl,by simp⟩ rfl rfl rfl
  refine ⟨ρ,_,_,.value (.tuple' (.nil _)),h1,h2,?_⟩
  show ((do let v ← Builtin.clear_ c.argTypes o.type #[.map (some s)]; pure (.value v):Sem Next)).run E.P w=_
  rw [zaw _ _ _ _ _ hrun]
 ·simp at hok
end Go.Sim
namespace Go.Sim
variable {E:Env}
theorem zon (K:EnvOK E) {ρ:Ren} {h:SHeap} {w:World} (hw:WRel E ρ h w) {f:FuncId} {args rargs:Array Value} (ha:LRel ρ args.toList rargs.toList) {n:SNext} {h':SHeap}
  (hok:znc E f args h=.ok (n,h')):zeE E ρ h w n h' ((callFunc f rargs).run E.P w):=by
 unfold znc at hok
 split at hok
 ·rename_i hx
  split at hok
  ·rename_i x hargs
   obtain ⟨rfl,rfl⟩:=zaq hok
   rw [hargs] at ha
   obtain ⟨u,m,rfl,hu,hm⟩:=zfk ha
   have:=zfi hm
   subst this
   rw [K.same f hx u w]
   exact .val hw hu
  ·simp at hok
 ·rename_i elem hx
  split at hok
  ·rename_i n0 hargs
   split at hok
   ·simp at hok
   ·rename_i hn
    obtain ⟨rfl,rfl⟩:=zaq hok
    rw [hargs] at ha
    obtain ⟨u,m,rfl,hu,hm⟩:=zfk ha
    have:=zfi hm
    subst this
    have:=hu.int_inv
    subst this
    obtain ⟨⟨ti,hti,hsz⟩,hrun⟩:=K.makeNoZero f elem hx
    obtain ⟨cap,cells,h1,h2,h3⟩:=hrun n0 w (by omega)
    rw [h3]
    obtain ⟨g1,g2⟩:=zhT hw [] cells elem true cap (w.drawn+2) (by simp) (fun e=>by simp at e) (fun _=>⟨ti,hti,by rw [hsz,h2]; omega⟩) (fun i v hv=>by simp at hv)
    exact ⟨_,_,_,.value (.slcOpen (κ:=cap) (by simp [upd]) h1),g1,g2,rfl⟩
  ·simp at hok
 ·rename_i g hx
  split at hok
  ·rename_i v h1 hg
   obtain ⟨rfl,rfl⟩:=zaq hok
   obtain ⟨ρ',w',u,k1,k2,k3,k4⟩:=K.outer f g hx args rargs h _ _ hg ρ w hw ha
   exact ⟨ρ',w',_,.value k1,k2,k3,k4⟩
  ·simp at hok
 ·rename_i hx
  split at hok
  ·rename_i fn hf
   split at hok
   ·rename_i c hb
    obtain ⟨rfl,rfl⟩:=zaq hok
    rw [K.call f fn hf (by rw [hb]; rfl) rargs w]
    exact ⟨ρ,w,_,.enter ha,hw,Stp.refl _ _ _,rfl⟩
   ·simp at hok
  ·simp at hok
theorem zgU {ρ:Ren} {h:SHeap} {w:World} (hw:WRel E ρ h w) {b r κ:Nat} {l:SLoop} (hg:h.t.get b=some (.loop l)) (hb:ρ b=some (r,κ)) :
  ∃ m,w.heap[r]? = some (.loop m)∧LoopRel ρ l m:=by
 obtain ⟨r',κ',h1,m,h2,h3⟩:=hw.live _ _ hg
 rw [hb] at h1
 obtain ⟨rfl,rfl⟩:r=r'∧κ=κ':=by simpa using h1
 exact ⟨m,h2,h3⟩
theorem zeC (P:Program) {w:World} {r:Nat} {m:Loop} (h:w.heap[r]? = some (.loop m)):(getObj r).run P w=.ok (.loop m) w:=by
 simp only [getObj,Sem.run,h]
theorem zkw (K:EnvOK E) {ρ:Ren} {h:SHeap} {w:World} (hw:WRel E ρ h w) {t rt:Target} (ht:TgRel ρ t rt) {args rargs:Array Value} (ha:LRel ρ args.toList rargs.toList) {n:SNext} {h':SHeap}
  (hok:zej E t args h=.ok (n,h')):zeE E ρ h w n h' ((invoke rt rargs).run E.P w):=by
 cases ht with
 | collected=>simp [zej] at hok
 | fn hf hc=>
  cases hf with
  | func f=>
   simp only [zej] at hok
   exact zon K hw (by simpa using ha.append hc) hok
  | method=>simp [zej] at hok
  | methodOf=>simp [zej] at hok
  | via=>simp [zej] at hok
  | yield hb=>
   simp only [zej] at hok
   split at hok
   ·rename_i r hg
    cases hn:Nat.beq args.size r.params.size with
    | false=>rw [hn] at hok; simp at hok
    | true=>
     rw [hn,cond_true] at hok
     rw [zaF,decide_eq_true_eq] at hn
     obtain ⟨rfl,rfl⟩:=zaq hok
     obtain ⟨m,hm,hl⟩:=zgU hw hg hb
     have hsz:rargs.size=m.params.size:=by
      have:=ha.len
      simp at this
      rw [hl.params]
      omega
     refine ⟨ρ,w,_,.round hb hl ha hn,hw,Stp.refl _ _ _,?_⟩
     simp only [invoke,Instr.yield,Instr.getLoop,Sem.run_bind,zeC E.P hm,Result.andThen_ok,Sem.run_pure,hsz,ne_eq,not_true_eq_false,if_false]
   ·simp at hok
theorem znD {ρ:Ren} {ev:Ev} {eval:Operand→Value} (hev:zcE ρ ev eval) {c:Call} {d:Deferred} (ty:TypeId) (hok:zen ev c=.ok d) (P:Program) (w:World) :
  ∃ e,DRel ρ d e∧(resolve eval c ty).run P w=.ok e w:=by
 unfold zen at hok
 split at hok
 ·simp at hok
 ·rename_i args hargs
  split at hok
  ·rename_i f hc
   split at hok
   ·rename_i fn first captured hf
    injection hok with hok
    subst hok
    obtain ⟨g,c1,c2,he,h1,h2,h3⟩:=(hev f _ hf).func_inv
    have hl:=zdj hev _ _ hargs
    refine ⟨{ target:=.fn g c2,args:=c1++c.args.map eval },⟨.fn h1 h3,?_⟩,?_⟩
    ·simp only [Array.toList_append]
     exact h2.append (by simpa using hl)
    ·unfold resolve
     simp only [hc,he,Deferred.ofValue]
     rfl
   ·simp at hok
  ·simp at hok
theorem zvD {ρ:Operand→Value} {o:Oper} {c:Call} (ho:o.op=.call c):execOp ρ o=(do let d ← resolve ρ c o.type; invoke d.target d.args):=by unfold execOp; rw [ho]
theorem zBh {ρ:Operand→Value} {o:Oper} {c:Call} (ho:o.op=.defer c):execOp ρ o=(do pure (.defer (← resolve ρ c o.type))):=by unfold execOp; rw [ho]
theorem zyc (c:Call):zdN E (zov c) (.defer c):=by
 intro ev eval ρ h w o n h' ho hev hw hok
 unfold zov zgd at hok
 split at hok
 ·rename_i d hd
  obtain ⟨rfl,rfl⟩:=zaq hok
  obtain ⟨e,h1,h2⟩:=znD hev o.type hd E.P w
  rw [zBh ho]
  refine ⟨ρ,w,_,.defer h1,hw,Stp.refl _ _ _,?_⟩
  simp only [Sem.run_bind,h2,Result.andThen_ok,Sem.run_pure]
 ·simp at hok
theorem zoV {P:Program} {w:World} {t:TypeId} {v x:Value} {name:String} {f:FuncId} {args:Array Value} (hm:(method (P.types.size+Made.depth) t v name).run P w=.ok (f,x) w) :
  (invoke (.fn (.method name) #[]) (#[.iface t v]++args)).run P w=(callFunc f (#[x]++args)).run P w:=by
 have e0:(#[Value.iface t v]++args)[0]? = some (.iface t v):=by simp [Array.getElem?_append]
 have e1:(#[Value.iface t v]++args).extract 1 (#[Value.iface t v]++args).size=args:=by
  apply Array.toList_inj.1
  simp
 unfold invoke
 simp only [e0,e1]
 unfold callMethod
 simp only [Sem.run_bind,program,Sem.run,Result.andThen_ok,hm]
theorem zxA (K:EnvOK E) {ρ:Ren} {ev:Ev} {eval:Operand→Value} (hev:zcE ρ ev eval) {h:SHeap} {w:World} (hw:WRel E ρ h w) {o:Oper} {n:SNext} {h':SHeap} {c:Call} {r:Operand} {name:String}
  (ho:o.op=.call c) (hc:c.callee=.invoke r name) (hok:zqp E name (ev r) (zaj ev c.args.toList) h=.ok (n,h')):zeE E ρ h w n h' ((execOp eval o).run E.P w):=by
 have hex:(execOp eval o).run E.P w=(invoke (.fn (.method name) #[]) (#[eval r]++c.args.map eval)).run E.P w:=by
  rw [zvD ho]
  unfold resolve
  simp only [hc,pure_bind]
 rw [hex]
 unfold zqp at hok
 split at hok
 ·rename_i t v args hr hargs
  obtain ⟨u,he,hv⟩:=VRel.iface_inv (hev r _ hr)
  have hl:=zdj hev _ _ hargs
  rw [he]
  split at hok
  ·rename_i f hM
   rw [zoV (K.meth _ _ _ _ hM u u w (.inl ⟨rfl,rfl⟩))]
   refine zon K hw ?_ hok
   simp only [Array.toList_append]
   exact LRel.append (LRel.cons hv (LRel.nil _)) (by simpa using hl)
  ·rename_i f hM
   split at hok
   ·rename_i cs
    split at hok
    ·rename_i x hcs
     obtain ⟨ds,rfl,hd⟩:=hv.agg_inv
     rw [hcs] at hd
     obtain ⟨y,m,rfl,hy,hm⟩:=zfk hd
     have:=zfi hm
     subst this
     rw [zoV (K.meth _ _ _ _ hM (.agg ⟨[y]⟩) y w (.inr ⟨rfl,rfl⟩))]
     refine zon K hw ?_ hok
     simp only [Array.toList_append]
     exact LRel.append (LRel.cons hy (LRel.nil _)) (by simpa using hl)
    ·simp at hok
   ·simp at hok
  ·simp at hok
 ·simp at hok
theorem zzR (K:EnvOK E) (c:Call):zdN E (zat c) (.call c):=by
 intro ev eval ρ h w o n h' ho hev hw hok
 unfold zat zbY at hok
 split at hok
 ·rename_i b hc
  unfold zcH at hok
  split at hok
  ·simp at hok
  ·rename_i args hargs
   split at hok
   ·exact (zzI K hev hw ho hc hargs hok).out hw
   ·rename_i sa sl sc
    split at hok
    ·rename_i e b1 b2 b3 ht
     exact zJF K hev hw ho hc hargs ht hok
    ·simp at hok
   ·exact zre hev hw false ho (by simpa using hc) hargs hok
   ·exact zre hev hw true ho (by simpa using hc) hargs hok
   ·split at hok
    ·rename_i v hh hap
     obtain ⟨rfl,rfl⟩:=zaq hok
     exact zxW K hev hw ho hc hargs hap
    ·simp at hok
   ·exact zDJ K hev hw ho hc hargs hok
   ·obtain ⟨rfl,rfl⟩:=zaq hok
    obtain ⟨cs,hex⟩:=zdF ho hc
    rw [hex]
    exact ⟨ρ,w,_,.recover,hw,Stp.refl _ _ _,rfl⟩
   ·exact zAC K hev hw ho hc hargs hok
   ·exact zsQ hev hw ho hc hargs hok
   ·exact zoE K hev hw ho hc hargs hok
   ·exact (zhV hev ho hc hok).out hw
 ·split at hok
  ·rename_i d hd
   obtain ⟨e,h1,h2⟩:=znD hev o.type hd E.P w
   rw [zvD ho]
   have:=zkw K hw h1.target h1.args hok
   obtain ⟨ρ',w',n',k1,k2,k3,k4⟩:=this
   exact ⟨ρ',w',n',k1,k2,k3,by simp only [Sem.run_bind,h2,Result.andThen_ok,k4]⟩
  ·simp at hok
 ·rename_i r name hc
  exact zxA K hev hw ho hc hok
theorem zBO (op:Op):zdN E zgg op:=by
 intro ev eval ρ h w o n h' ho hev hw hok
 simp [zgg] at hok
theorem znu (K:EnvOK E) (op:Op):zdN E (zac op) op:=by
 cases op with
 | move x=>exact (ztS x).ok
 | assign x=>exact (zpy x).ok
 | pick c a b=>exact (zsH c a b).ok
 | alloc t=>exact zyg K t
 | box t x=>exact zDv t x
 | build t ps=>exact (zrH K t ps).ok
 | buildSlice t n ps=>exact zqO K t n ps
 | load t a=>exact (zsJ K t a).ok
 | store t a x=>exact zyE K t a x
 | nilCheck x=>exact (zml x).ok
 | binOp op t x y u=>exact (zvx K op t u x y).ok
 | unOp op t x=>exact (zyt op t x).ok
 | convert a b x=>exact zuO K a b x
 | makeInterface t x=>exact (zls K t x).ok
 | makeFunc fn a b=>exact (zlX fn a b).ok
 | makeMap t r=>exact zuJ t r
 | makeSlice t l c=>exact zrS K t l c
 | slice t x l h m=>exact (zqW K t x l h m).ok
 | fieldAddr t x f=>exact (zly K t x f).ok
 | field t x f=>exact (zrh K t x f).ok
 | indexAddr t x i=>exact (zlv K t x i).ok
 | index t x i=>exact (zqT K t x i).ok
 | lookup t m k ok=>exact (zpc K t m k ok).ok
 | mapUpdate t m k x=>exact zrQ K t m k x
 | insert t m k x=>exact zxE K t m k x
 | range t x=>exact zyF K t x
 | next x b=>exact zAv x b
 | entry x=>exact zzs x
 | typeAssert x s t ok=>exact (zjX K x s t ok).ok
 | extract x i=>exact (znE x i).ok
 | call c=>exact zzR K c
 | defer c=>exact zyc c
 | _=>exact zBO _
theorem zAY (K:EnvOK E) {ev:Ev} {eval:Operand→Value} {ρ:Ren} {h:SHeap} {w:World} {o:Oper} {n:SNext} {h':SHeap} (hev:zcE ρ ev eval) (hw:WRel E ρ h w) (hok:zdi E ev o h=.ok (n,h')) :
  zeE E ρ h w n h' ((execOp eval o).run E.P w):=by
 unfold zdi at hok
 obtain ⟨dst,op,ty,pos,after,guard⟩:=o
 exact znu K op ev eval ρ h w _ n h' rfl hev hw hok
end Go.Sim

/- The simulator on zone.Put. (Written by genput.py.) The simulator on zone.settled, zone.bounds, zone.Forget of one variable. (Written by genput.py.) The simulator on zone.bounds. (Written by genput.py.) The simulator on zone.isBound and zone.Forget of one variable. (Written by genput.py.) -/
import Derived.Test.YtghhpeemloeljaaGreatOrcA
set_option linter.unusedVariables false
set_option linter.unusedSimpArgs false
set_option linter.unusedSimpArgs false
set_option linter.unusedVariables false
namespace Go.Proofs.YtghhpeemloeljaaGreat
open Go Go.Sim
set_option maxRecDepth 100000
set_option maxHeartbeats 1000000
variable {O:OT} {ih:K}
noncomputable def pu9:Code:=cB (cB (cB (cB (cB (cB (cB (cB (cB (cF Tryz.f331)))))))))
noncomputable def puA:Code:=cI (cI (cB (cA pu9)))
noncomputable def zmE:Code:=cI (cI (cB (cB (cB (cI (cA (cB (cB puA))))))))
noncomputable def puB:Code:=cI (cI (cB (cA (cB pu9))))
noncomputable def zmf:Code:=cI (cI (cB (cB (cB (cI (cA (cB (cB puB))))))))
noncomputable def puC:Code:=cI (cI (cB (cA (cB (cB pu9)))))
noncomputable def zmi (n:Nat):Array Oper:=zev (zcb (cF Tryz.f331)) n
theorem zQs:zdb (Eo O) (zmi 1).toList=some ⟨[⟨8,.pure,0⟩,⟨9,.pure,0⟩,⟨10,.pure,0⟩,⟨11,.read,0⟩,⟨12,.pure,0⟩,⟨13,.pure,0⟩,⟨14,.pure,0⟩,⟨15,.pure,0⟩,⟨16,.pure,0⟩,⟨17,.pure,0⟩,⟨18,.pure,0⟩,⟨19,.read,0⟩,⟨20,.eff,0⟩,⟨26,.pure,0⟩,⟨27,.pure,0⟩,⟨28,.pure,0⟩,⟨29,.pure,0⟩,⟨30,.pure,0⟩,⟨31,.pure,0⟩,⟨32,.pure,0⟩,⟨33,.read,0⟩,⟨34,.pure,0⟩,⟨35,.pure,0⟩,⟨36,.pure,0⟩,⟨37,.read,0⟩,⟨38,.eff,1⟩,⟨0,.pure,0⟩,⟨1,.pure,0⟩,⟨4,.pure,0⟩,⟨5,.pure,0⟩,⟨6,.pure,0⟩,⟨7,.read,0⟩,⟨21,.pure,1⟩,⟨22,.pure,0⟩,⟨23,.pure,0⟩,⟨24,.pure,0⟩,⟨25,.read,0⟩,⟨40,.pure,2⟩,⟨41,.eff,2⟩,⟨2,.pure,0⟩,⟨3,.pure,0⟩,⟨39,.pure,2⟩],42,0⟩:=by kernel_rfl
theorem zaA:zcY (Eo O) 263:=fun _ _=>by kernel_rfl
theorem E60:(Eo O).T 43=some ⟨.slice 3,1,Tab.t43.bytes,Tab.t43.zero⟩:=by show Tab.types.get 43=_; kernel_rfl
theorem zkL {b i:Nat} {h:SHeap} (hi:i<60):zcy (Eo O) ((Eo O).T 43) (some (.slice (some ⟨b,0,none⟩) 60 60)) (some i) h=.ok (.value (.pointer (some ⟨b,i,none⟩)),h):=by
 rw [E60]
 show zcm (Eo O) 3 60 ⟨b,0,none⟩ i h=_
 unfold zcm
 rw [E3]
 simp only [zaI hi,cond_true,zal,zaG,Nat.mul_one,Nat.zero_add]
def Row (h:SHeap) (b:Nat) (f:Nat→Int):Prop:=∃ c,h.t.get b=some (.cells c 60 3 false false)∧∀ j,j<60→c.get j=some (.int .i64 (f j))
def Zon (h:SHeap) (b:Nat) (f:Nat→Int):Prop:=∃ c,h.t.get b=some (.cells c 3601 289 false false)∧c.get 0=some (.bool false)∧∀ k,k<3600→c.get (1+k)=some (.int .i64 (f k))
theorem Row.ld {h:SHeap} {b:Nat} {f:Nat→Int} (k:Row h b f) {j:Nat} (hj:j<60):zba (Eo O) 3 (some (.pointer (some ⟨b,j,none⟩))) h=.ok (.value (.int .i64 (f j)),h):=by
 obtain ⟨c,h1,h2⟩:=k
 exact zbD (E:=Eo O) E3 rfl h1 (h2 j hj)
theorem Zon.ld {h:SHeap} {b:Nat} {f:Nat→Int} (k:Zon h b f) {i j:Nat} (hi:i<60) (hj:j<60):zba (Eo O) 3 (some (.pointer (some ⟨b,0+1+i*60+j,none⟩))) h=.ok (.value (.int .i64 (f (i*60+j))),h):=by
 obtain ⟨c,h1,_,h2⟩:=k
 refine zbD (E:=Eo O) E3 rfl h1 ?_
 rw [show 0+1+i*60+j=1+(i*60+j) by omega]
 exact h2 _ (by omega)
def zes (f:Nat→Int) (j:Nat) (v:Int):Nat→Int:=fun i=>if i=j then v else f i
theorem Row.st {h:SHeap} {b:Nat} {f:Nat→Int} (k:Row h b f) {j:Nat} (hj:j<60) (v:Int):∃ h',zcI (Eo O) 3 (some (.pointer (some ⟨b,j,none⟩))) (some (.int .i64 v)) h=.ok (.value (.tuple #[]),h')∧Row h' b (zes f j v)∧h'.next=h.next∧∀ d,d≠b→h'.t.get d=h.t.get d:=by
 obtain ⟨c,h1,h2⟩:=k
 have hb:=zbU h1
 refine ⟨_,zhX (E:=Eo O) E3 rfl h1 hj,⟨_,by simp only [SHeap.set,zaa]; rw [if_pos ⟨trivial,hb⟩],fun i hi => ?_⟩,rfl,fun d hd=>by simp only [SHeap.set,zaa]; rw [if_neg (fun e=>hd e.1)]⟩
 rw [zaa]
 unfold zes
 by_cases e:i=j
 ·rw [if_pos ⟨e,by unfold lim; omega⟩,if_pos e]
 ·rw [if_neg (fun q=>e q.1),if_neg e,h2 i hi]
theorem Zon.st {h:SHeap} {b:Nat} {f:Nat→Int} (k:Zon h b f) {i j:Nat} (hi:i<60) (hj:j<60) (v:Int):∃ h',zcI (Eo O) 3 (some (.pointer (some ⟨b,0+1+i*60+j,none⟩))) (some (.int .i64 v)) h=.ok (.value (.tuple #[]),h')∧Zon h' b (zes f (i*60+j) v)∧h'.next=h.next∧∀ d,d≠b→h'.t.get d=h.t.get d:=by
 obtain ⟨c,h1,h0,h2⟩:=k
 have hb:=zbU h1
 refine ⟨_,zhX (E:=Eo O) E3 rfl h1 (by omega),⟨_,by simp only [SHeap.set,zaa]; rw [if_pos ⟨trivial,hb⟩],?_,fun q hq => ?_⟩,rfl,fun d hd=>by simp only [SHeap.set,zaa]; rw [if_neg (fun e=>hd e.1)]⟩
 ·rw [zaa,if_neg (by omega),h0]
 ·rw [zaa]
  unfold zes
  by_cases e:q=i*60+j
  ·rw [if_pos ⟨by omega,by unfold lim; omega⟩,if_pos e]
  ·rw [if_neg (fun r=>e (by omega)),if_neg e,h2 q hq]
theorem Row.to {h h':SHeap} {b:Nat} {f:Nat→Int} (k:Row h b f) (e:h'.t.get b=h.t.get b):Row h' b f:=let ⟨c,h1,h2⟩:=k; ⟨c,e.trans h1,h2⟩
theorem Zon.to {h h':SHeap} {b:Nat} {f:Nat→Int} (k:Zon h b f) (e:h'.t.get b=h.t.get b):Zon h' b f:=let ⟨c,h1,h2⟩:=k; ⟨c,e.trans h1,h2⟩
theorem Row.cg {h:SHeap} {b:Nat} {f f':Nat→Int} (k:Row h b f) (e:∀ j,j<60→f j=f' j):Row h b f':=let ⟨c,h1,h2⟩:=k; ⟨c,h1,fun j hj=>by rw [← e j hj]; exact h2 j hj⟩
theorem Zon.cg {h:SHeap} {b:Nat} {f f':Nat→Int} (k:Zon h b f) (e:∀ j,j<3600→f j=f' j):Zon h b f':=let ⟨c,h1,h0,h2⟩:=k; ⟨c,h1,h0,fun j hj=>by rw [← e j hj]; exact h2 j hj⟩
structure Pl where
 x:Nat
 A:Nat
 B:Nat
 N:Nat
 U:Nat
 D:Nat
structure Pl.ok (p:Pl):Prop where
 x:p.x<60
 au:p.A≠p.U
 bu:p.B≠p.U
 nu:p.N≠p.U
 du:p.D≠p.U
 ad:p.A≠p.D
 bd:p.B≠p.D
 nd:p.N≠p.D
 an:p.A≠p.N
 bn:p.B≠p.N
structure PuT (p:Pl) (tm:Tr Value):Prop where
 t1:tm.get 1=some (.int .i64 (.ofNat p.x))
 t10:tm.get 10=some (.slice (some ⟨p.A,0,none⟩) 60 60)
 t12:tm.get 12=some (.slice (some ⟨p.B,0,none⟩) 60 60)
 t14:tm.get 14=some (.pointer (some ⟨p.N,0,none⟩))
 t15:tm.get 15=some (.slice (some ⟨p.U,0,none⟩) 60 60)
 t16:tm.get 16=some (.slice (some ⟨p.D,0,none⟩) 60 60)
def fuC (a m:Nat→Int) (x q:Nat):Nat→Int
 | 0=>2305843009213693952
 | k+1=>if k≠x∧q≠x then zjG (fuC a m x q k) (zaM (a k) (m (k*60+q))) else fuC a m x q k
def fdC (b m:Nat→Int) (x q:Nat):Nat→Int
 | 0=>2305843009213693952
 | k+1=>if k≠x∧q≠x then zjG (fdC b m x q k) (zaM (m (q*60+k)) (b k)) else fdC b m x q k
structure PuAI (p:Pl) (a b m u d:Nat→Int) (lo n0:Nat) (g:Nat→Option SObj) (q k:Nat) (st:St):Prop where
 ds:st.defers=[]
 tm:PuT p st.tm
 t17:st.tm.get 17=some (.int .i64 (.ofNat q))
 t65:st.tm.get 65=some (.int .i64 (.ofNat q))
 t74:st.tm.get 74=some (.int .i64 (.ofNat k))
 A:Row st.h p.A a
 B:Row st.h p.B b
 N:Zon st.h p.N m
 U:Row st.h p.U (zes u q (fuC a m p.x q k))
 D:Row st.h p.D (zes d q (fdC b m p.x q k))
 next:st.h.next=n0
 keep:∀ e,e<lo→st.h.t.get e=g e
theorem zMp (hsum:∀ (a b:Int) (h:SHeap),ih (.call 263 #[.int .i64 a,.int .i64 b] .normal) h=.ok (.int .i64 (zaM a b),h)) {p:Pl} (hp:p.ok) {a b m u d:Nat→Int} {lo n0:Nat} {g:Nat→Option SObj} (hlo:lo≤p.U∧lo≤p.D) (hn0:n0≤lim)
  {q:Nat} (hq:q<60) (k:Nat) (hk:k<60) (st:St) (hI:PuAI p a b m u d lo n0 g q k st) :
  ∃ st',zab zmE (Eo O) ih ⟨331,202,.normal,none⟩ st=.ok (.normal,st')∧PuAI p a b m u d lo n0 g q (k+1) st':=by
 obtain ⟨tm,h,dd⟩:=st
 obtain ⟨hd,hT,t17,t65,t74,hA,hB,hN,hU,hD,hnx,keep⟩:=hI
 obtain ⟨t1,t10,t12,t14,t15,t16⟩:=hT
 simp only at hd t1 t10 t12 t14 t15 t16 t17 t65 t74 hA hB hN hU hD hnx keep
 subst hd
 have hk':decide (Int.ofNat k<60)=true:=by simp; omega
 have hk2:zaK .i64 (Int.ofNat k+1)=.ofNat (k+1):=zbb (m:=k+1) (by omega)
 generalize hr:zab zmE (Eo O) ih ⟨331,202,.normal,none⟩ ⟨tm,h,[]⟩=r
 have pl:=zQs (O:=O)
 unfold zmi at pl
 simp only [Tryz.f331,cF,Option.getD,zcb,zev,List.nil_append,List.append_nil,List.cons_append] at pl
 unfold zmE puA pu9 at hr
 by_cases hc:k≠p.x∧q≠p.x
 ·have c1:(Int.ofNat k != Int.ofNat p.x)=true:=by simp; omega
  have c2:(Int.ofNat q != Int.ofNat p.x)=true:=by simp; omega
  have hnl:Nat.ble h.next lim=true:=by rw [Nat.ble_eq,hnx]; exact hn0
  have hnl':h.next≤lim:=by rw [hnx]; exact hn0
  obtain ⟨h1,s1,U1,nx1,o1⟩:=hU.st (O:=O) hq (zjG (zes u q (fuC a m p.x q k) q) (zaM (a k) (m (k*60+q))))
  have D1:=hD.to (o1 _ hp.du)
  obtain ⟨h2,s2,D2,nx2,o2⟩:=D1.st (O:=O) hq (zjG (zes d q (fdC b m p.x q k) q) (zaM (m (q*60+k)) (b k)))
  have hnl1:Nat.ble h1.next 4294967296=true:=by rw [Nat.ble_eq,nx1,hnx]; exact hn0
  have hnl0:Nat.ble h.next 4294967296=true:=hnl
  simp only [SSb,Tryz.f331,cF,Option.getD,cA,cB,cI,zab,zac,zao,zak,zau,zal,lim,Nat.reduceLT,Nat.reduceEqDiff,and_true,if_true,if_false,reduceIte,false_and,true_and,Nat.beq,cond_true,cond_false,zad,zae,zaf,zar,zap,zat,Option.bind_some,zam zaA,zaj,List.getElem?_toArray,List.getElem?_cons_succ,List.getElem?_cons_zero,List.drop_succ_cons,List.drop_zero,zah,zas,Bool.and_self,Bool.true_and,hsum,t1,t10,t12,t14,t15,t16,t17,t74,hk',hk2,c1,c2,zkL hq,zkL hk,zcV hk,zcV hq,zde hk,zde hq,hA.ld hk,hB.ld hk,hN.ld hk hq,hN.ld hq hk,hU.ld hq,hD.ld hq,s1,s2,zbX pl hnl',hnl0,hnl1] at hr
  subst hr
  refine ⟨_,rfl,rfl,⟨?_,?_,?_,?_,?_,?_⟩,?_,?_,?_,(hA.to (o1 _ hp.au)).to (o2 _ hp.ad),(hB.to (o1 _ hp.bu)).to (o2 _ hp.bd),(hN.to (o1 _ hp.nu)).to (o2 _ hp.nd),?_,?_,nx2.trans (nx1.trans hnx),fun e he => ?_⟩
  ·simp [zaa,lim,t1]
  ·simp [zaa,lim,t10]
  ·simp [zaa,lim,t12]
  ·simp [zaa,lim,t14]
  ·simp [zaa,lim,t15]
  ·simp [zaa,lim,t16]
  ·simp [zaa,lim,t17]
  ·simp [zaa,lim,t65]
  ·simp [zaa,lim]
  ·refine Row.cg (U1.to (o2 _ (fun e=>hp.du e.symm))) fun j hj => ?_
   simp only [zes,fuC,if_pos hc]
   by_cases e:j=q<;>simp [e]
  ·refine Row.cg D2 fun j hj => ?_
   simp only [zes,fdC,if_pos hc]
   by_cases e:j=q<;>simp [e]
  ·exact (o2 _ (by omega)).trans ((o1 _ (by omega)).trans (keep e he))
 ·have cc:((bif (Int.ofNat k != Int.ofNat p.x) then (Int.ofNat q != Int.ofNat p.x) else false)=false):=by
   by_cases e:k=p.x
   ·simp [e]
   ·have:q=p.x:=by
     by_cases f:q=p.x
     ·exact f
     ·exact absurd ⟨e,f⟩ hc
    simp [this]
  have fin:∀ tm':Tr Value,(∀ i,i≠75→i≠76→i≠18→i≠77→i≠78→i≠79→i≠80→i≠81→i≠82→i≠83→i≠84→i≠127→i≠74→tm'.get i=tm.get i)→tm'.get 74=some (.int .i64 (.ofNat (k+1)))→PuAI p a b m u d lo n0 g q (k+1) ⟨tm',h,[]⟩:=by
   intro tm' h1 h2
   refine ⟨rfl,⟨?_,?_,?_,?_,?_,?_⟩,?_,?_,h2,hA,hB,hN,?_,?_,hnx,keep⟩
   ·rw [h1 1 (by decide) (by decide) (by decide) (by decide) (by decide) (by decide) (by decide) (by decide) (by decide) (by decide) (by decide) (by decide) (by decide)]; exact t1
   ·rw [h1 10 (by decide) (by decide) (by decide) (by decide) (by decide) (by decide) (by decide) (by decide) (by decide) (by decide) (by decide) (by decide) (by decide)]; exact t10
   ·rw [h1 12 (by decide) (by decide) (by decide) (by decide) (by decide) (by decide) (by decide) (by decide) (by decide) (by decide) (by decide) (by decide) (by decide)]; exact t12
   ·rw [h1 14 (by decide) (by decide) (by decide) (by decide) (by decide) (by decide) (by decide) (by decide) (by decide) (by decide) (by decide) (by decide) (by decide)]; exact t14
   ·rw [h1 15 (by decide) (by decide) (by decide) (by decide) (by decide) (by decide) (by decide) (by decide) (by decide) (by decide) (by decide) (by decide) (by decide)]; exact t15
   ·rw [h1 16 (by decide) (by decide) (by decide) (by decide) (by decide) (by decide) (by decide) (by decide) (by decide) (by decide) (by decide) (by decide) (by decide)]; exact t16
   ·rw [h1 17 (by decide) (by decide) (by decide) (by decide) (by decide) (by decide) (by decide) (by decide) (by decide) (by decide) (by decide) (by decide) (by decide)]; exact t17
   ·rw [h1 65 (by decide) (by decide) (by decide) (by decide) (by decide) (by decide) (by decide) (by decide) (by decide) (by decide) (by decide) (by decide) (by decide)]; exact t65
   ·simp only [fuC,if_neg hc]; exact hU
   ·simp only [fdC,if_neg hc]; exact hD
  have lim':lim=4294967296:=rfl
  by_cases e:k=p.x
  ·have c1:(Int.ofNat k != Int.ofNat p.x)=false:=by simp [e]
   simp only [SSb,Tryz.f331,cF,Option.getD,cA,cB,cI,zab,zac,zao,zak,zau,zal,lim,Nat.reduceLT,Nat.reduceEqDiff,and_true,if_true,if_false,reduceIte,false_and,true_and,Nat.beq,cond_true,cond_false,zad,zae,zaf,zar,zap,zat,Option.bind_some,zam zaA,zaj,List.getElem?_toArray,List.getElem?_cons_succ,List.getElem?_cons_zero,List.drop_succ_cons,List.drop_zero,zah,zas,Bool.and_self,Bool.true_and,hsum,t1,t10,t12,t14,t15,t16,t17,t74,hk',hk2,c1] at hr
   subst hr
   exact ⟨_,rfl,fin _ (fun i a0 a1 a2 a3 a4 a5 a6 a7 a8 a9 a10 a11 a12=>by simp only [zaa]; simp [a0,a1,a2,a3,a4,a5,a6,a7,a8,a9,a10,a11,a12]) (by simp [zaa,lim])⟩
  ·have f:q=p.x:=by
    by_cases f:q=p.x
    ·exact f
    ·exact absurd ⟨e,f⟩ hc
   have c1:(Int.ofNat k != Int.ofNat p.x)=true:=by simp; omega
   have c2:(Int.ofNat q != Int.ofNat p.x)=false:=by simp [f]
   simp only [SSb,Tryz.f331,cF,Option.getD,cA,cB,cI,zab,zac,zao,zak,zau,zal,lim,Nat.reduceLT,Nat.reduceEqDiff,and_true,if_true,if_false,reduceIte,false_and,true_and,Nat.beq,cond_true,cond_false,zad,zae,zaf,zar,zap,zat,Option.bind_some,zam zaA,zaj,List.getElem?_toArray,List.getElem?_cons_succ,List.getElem?_cons_zero,List.drop_succ_cons,List.drop_zero,zah,zas,Bool.and_self,Bool.true_and,hsum,t1,t10,t12,t14,t15,t16,t17,t74,hk',hk2,c1,c2] at hr
   subst hr
   exact ⟨_,rfl,fin _ (fun i a0 a1 a2 a3 a4 a5 a6 a7 a8 a9 a10 a11 a12=>by simp only [zaa]; simp [a0,a1,a2,a3,a4,a5,a6,a7,a8,a9,a10,a11,a12]) (by simp [zaa,lim])⟩
theorem zzw (hsum:∀ (a b:Int) (h:SHeap),ih (.call 263 #[.int .i64 a,.int .i64 b] .normal) h=.ok (.int .i64 (zaM a b),h)) {p:Pl} {a b m u d:Nat→Int} {lo n0:Nat} {g:Nat→Option SObj}
  {q:Nat} (st:St) (hI:PuAI p a b m u d lo n0 g q 60 st) :
  ∃ o st',o ≠ .normal∧zab zmE (Eo O) ih ⟨331,202,.normal,none⟩ st=.ok (o,st')∧(o=.exit 2∧PuAI p a b m u d lo n0 g q 60 st'):=by
 obtain ⟨tm,h,dd⟩:=st
 obtain ⟨hd,hT,t17,t65,t74,hA,hB,hN,hU,hD,hnx,keep⟩:=hI
 obtain ⟨t1,t10,t12,t14,t15,t16⟩:=hT
 simp only at hd t1 t10 t12 t14 t15 t16 t17 t65 t74 hA hB hN hU hD hnx keep
 subst hd
 have hk':decide (Int.ofNat 60<60)=false:=rfl
 generalize hr:zab zmE (Eo O) ih ⟨331,202,.normal,none⟩ ⟨tm,h,[]⟩=r
 unfold zmE puA pu9 at hr
 simp only [SSb,Tryz.f331,cF,Option.getD,cA,cB,cI,zab,zac,zao,zak,zau,zal,lim,Nat.reduceLT,Nat.reduceEqDiff,and_true,if_true,if_false,reduceIte,false_and,true_and,Nat.beq,cond_true,cond_false,zad,zae,zaf,zar,zap,zat,Option.bind_some,zam zaA,zaj,List.getElem?_toArray,List.getElem?_cons_succ,List.getElem?_cons_zero,List.drop_succ_cons,List.drop_zero,zah,zas,Bool.and_self,Bool.true_and,hsum,t74,hk'] at hr
 subst hr
 refine ⟨_,_,by simp,rfl,rfl,rfl,⟨?_,?_,?_,?_,?_,?_⟩,?_,?_,?_,hA,hB,hN,hU,hD,hnx,keep⟩<;>simp [zaa,lim,t1,t10,t12,t14,t15,t16,t17,t65,t74]
def uO (f:Nat→Int) (q:Nat):Nat→Int:=fun j=>if j<q then f j else 0
structure PuAO (p:Pl) (a b m:Nat→Int) (lo n0:Nat) (g:Nat→Option SObj) (q:Nat) (st:St):Prop where
 ds:st.defers=[]
 tm:PuT p st.tm
 t65:st.tm.get 65=some (.int .i64 (.ofNat q))
 A:Row st.h p.A a
 B:Row st.h p.B b
 N:Zon st.h p.N m
 U:Row st.h p.U (uO (fun q=>fuC a m p.x q 60) q)
 D:Row st.h p.D (uO (fun q=>fdC b m p.x q 60) q)
 next:st.h.next=n0
 keep:∀ e,e<lo→st.h.t.get e=g e
theorem zQm (hsum:∀ (a b:Int) (h:SHeap),ih (.call 263 #[.int .i64 a,.int .i64 b] .normal) h=.ok (.int .i64 (zaM a b),h)) {p:Pl} (hp:p.ok) {a b m:Nat→Int} {lo n0:Nat} {g:Nat→Option SObj} (hlo:lo≤p.U∧lo≤p.D) (hn0:n0≤lim)
  (q:Nat) (hq:q<60) (st:St) (hI:PuAO p a b m lo n0 g q st) :
  ∃ st',zab puA (Eo O) ih ⟨331,202,.normal,none⟩ st=.ok (.normal,st')∧PuAO p a b m lo n0 g (q+1) st':=by
 obtain ⟨tm,h,dd⟩:=st
 obtain ⟨hd,hT,t65,hA,hB,hN,hU,hD,hnx,keep⟩:=hI
 obtain ⟨t1,t10,t12,t14,t15,t16⟩:=hT
 simp only at hd t1 t10 t12 t14 t15 t16 t65 hA hB hN hU hD hnx keep
 subst hd
 have hk':decide (Int.ofNat q<60)=true:=by simp; omega
 have hk2:zaK .i64 (Int.ofNat q+1)=.ofNat (q+1):=zbb (m:=q+1) (by omega)
 obtain ⟨h1,s1,U1,nx1,o1⟩:=hU.st (O:=O) hq 2305843009213693952
 have D1:=hD.to (o1 _ hp.du)
 obtain ⟨h2,s2,D2,nx2,o2⟩:=D1.st (O:=O) hq 2305843009213693952
 obtain ⟨tmk,hk⟩:∃ tmk,tmk=((((((((((tm.put 66 (some (.bool true))).put 67 (some (.int .i64 (.ofNat q)))).put 17 (some (.int .i64 (.ofNat q)))).put 68 (some (.slice (some ⟨p.U,0,none⟩) 60 60))).put 69 (some (.int .i64 (.ofNat q)))).put 70 (some (.slice (some ⟨p.D,0,none⟩) 60 60))).put 71 (some (.int .i64 (.ofNat q)))).put 72 (some (.pointer (some ⟨p.U,q,none⟩)))).put 73 (some (.pointer (some ⟨p.D,q,none⟩)))).put 74 (some (.int .i64 0))):=⟨_,rfl⟩
 have hin:PuAI p a b m (uO (fun q=>fuC a m p.x q 60) q) (uO (fun q=>fdC b m p.x q 60) q) lo n0 g q 0 ⟨tmk,h2,[]⟩:=by
  subst hk
  refine ⟨rfl,⟨?_,?_,?_,?_,?_,?_⟩,?_,?_,?_,(hA.to (o1 _ hp.au)).to (o2 _ hp.ad),(hB.to (o1 _ hp.bu)).to (o2 _ hp.bd),(hN.to (o1 _ hp.nu)).to (o2 _ hp.nd),U1.to (o2 _ (fun e=>hp.du e.symm)),D2,nx2.trans (nx1.trans hnx),fun e he=>(o2 _ (by omega)).trans ((o1 _ (by omega)).trans (keep e he))⟩<;>simp [zaa,lim,t1,t10,t12,t14,t15,t16,t65]
 obtain ⟨o,⟨tm',h',dd'⟩,e0,e1,e2,e3⟩:=zcS (f:=zab zmE (Eo O) ih ⟨331,202,.normal,none⟩) (I:=fun j st=>PuAI p a b m (uO (fun q=>fuC a m p.x q 60) q) (uO (fun q=>fdC b m p.x q 60) q) lo n0 g q j st) (N:=60)
  (P:=fun o st=>o=.exit 2∧PuAI p a b m (uO (fun q=>fuC a m p.x q 60) q) (uO (fun q=>fdC b m p.x q 60) q) lo n0 g q 60 st)
  (fun j st hj hI=>.inl (zMp hsum hp hlo hn0 hq j hj st hI)) (fun st hI=>zzw hsum st hI) 60 1000000 0 _ (by omega) (by omega) hin
 subst e2
 obtain ⟨hd,hT,r17,r65,r74,rA,rB,rN,rU,rD,rnx,rkeep⟩:=e3
 obtain ⟨r1,r10,r12,r14,r15,r16⟩:=hT
 simp only at hd r1 r10 r12 r14 r15 r16 r17 r65 r74 rA rB rN rU rD rnx rkeep
 subst hd
 generalize hr:zab puA (Eo O) ih ⟨331,202,.normal,none⟩ ⟨tm,h,[]⟩=r
 unfold zmE puA pu9 at e1
 simp only [Tryz.f331,cF,Option.getD,cA,cB,cI,zab] at e1
 subst hk
 unfold puA pu9 at hr
 simp only [SSb,Tryz.f331,cF,Option.getD,cA,cB,cI,zab,zac,zao,zak,zau,zal,lim,Nat.reduceLT,Nat.reduceEqDiff,and_true,if_true,if_false,reduceIte,false_and,true_and,Nat.beq,cond_true,cond_false,zad,zae,zaf,zar,zap,zat,Option.bind_some,zam zaA,zaj,List.getElem?_toArray,List.getElem?_cons_succ,List.getElem?_cons_zero,List.drop_succ_cons,List.drop_zero,zah,zas,Bool.and_self,Bool.true_and,hsum,t1,t10,t12,t14,t15,t16,t65,hk',hk2,zkL hq,s1,s2,e1,r65] at hr
 subst hr
 refine ⟨_,rfl,rfl,⟨?_,?_,?_,?_,?_,?_⟩,?_,rA,rB,rN,?_,?_,rnx,rkeep⟩
 ·simp [zaa,lim,r1]
 ·simp [zaa,lim,r10]
 ·simp [zaa,lim,r12]
 ·simp [zaa,lim,r14]
 ·simp [zaa,lim,r15]
 ·simp [zaa,lim,r16]
 ·simp [zaa,lim]
 ·refine rU.cg fun j hj => ?_
  simp only [zes,uO]
  by_cases e:j=q
  ·subst e; simp
  ·rw [if_neg e]
   by_cases f:j<q
   ·rw [if_pos f,if_pos (by omega)]
   ·rw [if_neg f,if_neg (by omega)]
 ·refine rD.cg fun j hj => ?_
  simp only [zes,uO]
  by_cases e:j=q
  ·subst e; simp
  ·rw [if_neg e]
   by_cases f:j<q
   ·rw [if_pos f,if_pos (by omega)]
   ·rw [if_neg f,if_neg (by omega)]
theorem zUr:zdb (Eo O) (zmi 2).toList=some ⟨[⟨11,.pure,0⟩,⟨12,.pure,0⟩,⟨13,.pure,0⟩,⟨14,.read,0⟩,⟨15,.pure,0⟩,⟨16,.pure,0⟩,⟨17,.pure,0⟩,⟨18,.read,0⟩,⟨19,.eff,0⟩,⟨0,.pure,0⟩,⟨1,.pure,0⟩,⟨2,.pure,0⟩,⟨3,.pure,0⟩,⟨4,.pure,0⟩,⟨5,.pure,0⟩,⟨6,.pure,0⟩,⟨7,.pure,0⟩,⟨8,.pure,0⟩,⟨9,.pure,0⟩,⟨10,.read,0⟩,⟨20,.pure,1⟩,⟨21,.pure,0⟩,⟨22,.pure,0⟩,⟨23,.pure,0⟩],24,0⟩:=by kernel_rfl
def fmF (m u d:Nat→Int) (x:Nat):Nat→Int:=fun i=>if i/60≠x∧i%60≠x then zjG (m i) (zaM (d (i/60)) (u (i%60))) else m i
def upF (f m:Nat→Int) (n:Nat):Nat→Int:=fun i=>if i<n then f i else m i
structure PuBI (p:Pl) (u d m:Nat→Int) (lo n0:Nat) (g:Nat→Option SObj) (i j:Nat) (st:St):Prop where
 ds:st.defers=[]
 tm:PuT p st.tm
 t19:st.tm.get 19=some (.int .i64 (.ofNat i))
 t129:st.tm.get 129=some (.int .i64 (.ofNat i))
 t135:st.tm.get 135=some (.int .i64 (.ofNat j))
 U:Row st.h p.U u
 D:Row st.h p.D d
 N:Zon st.h p.N (upF (fmF m u d p.x) m (i*60+j))
 next:st.h.next=n0
 keep:∀ e,e<lo→st.h.t.get e=g e
theorem zMw (hsum:∀ (a b:Int) (h:SHeap),ih (.call 263 #[.int .i64 a,.int .i64 b] .normal) h=.ok (.int .i64 (zaM a b),h)) {p:Pl} (hp:p.ok) {u d m:Nat→Int} {lo n0:Nat} {g:Nat→Option SObj} (hlo:lo≤p.N) (hn0:n0≤lim)
  {i:Nat} (hi:i<60) (hix:i≠p.x) (j:Nat) (hj:j<60) (st:St) (hI:PuBI p u d m lo n0 g i j st) :
  ∃ st',zab zmf (Eo O) ih ⟨331,202,.normal,none⟩ st=.ok (.normal,st')∧PuBI p u d m lo n0 g i (j+1) st':=by
 obtain ⟨tm,h,dd⟩:=st
 obtain ⟨hd,hT,t19,t129,t135,hU,hD,hN,hnx,keep⟩:=hI
 obtain ⟨t1,t10,t12,t14,t15,t16⟩:=hT
 simp only at hd t1 t10 t12 t14 t15 t16 t19 t129 t135 hU hD hN hnx keep
 subst hd
 have hk':decide (Int.ofNat j<60)=true:=by simp; omega
 have hk2:zaK .i64 (Int.ofNat j+1)=.ofNat (j+1):=zbb (m:=j+1) (by omega)
 have d1:(i*60+j)/60=i:=by omega
 have d2:(i*60+j)%60=j:=by omega
 generalize hr:zab zmf (Eo O) ih ⟨331,202,.normal,none⟩ ⟨tm,h,[]⟩=r
 unfold zmf puB pu9 at hr
 by_cases hc:j=p.x
 ·have c1:(Int.ofNat j != Int.ofNat p.x)=false:=by simp [hc]
  simp only [SSb,Tryz.f331,cF,Option.getD,cA,cB,cI,zab,zac,zao,zak,zau,zal,lim,Nat.reduceLT,Nat.reduceEqDiff,and_true,if_true,if_false,reduceIte,false_and,true_and,Nat.beq,cond_true,cond_false,zad,zae,zaf,zar,zap,zat,Option.bind_some,zam zaA,zaj,List.getElem?_toArray,List.getElem?_cons_succ,List.getElem?_cons_zero,List.drop_succ_cons,List.drop_zero,zah,zas,Bool.and_self,Bool.true_and,hsum,t1,t10,t12,t14,t15,t16,t19,t135,hk',hk2,c1] at hr
  subst hr
  refine ⟨_,rfl,rfl,⟨?_,?_,?_,?_,?_,?_⟩,?_,?_,?_,hU,hD,hN.cg fun k _ => ?_,hnx,keep⟩
  ·simp [zaa,lim,t1]
  ·simp [zaa,lim,t10]
  ·simp [zaa,lim,t12]
  ·simp [zaa,lim,t14]
  ·simp [zaa,lim,t15]
  ·simp [zaa,lim,t16]
  ·simp [zaa,lim,t19]
  ·simp [zaa,lim,t129]
  ·simp [zaa,lim]
  ·simp only [upF]
   by_cases e:k=i*60+j
   ·rw [if_neg (by omega),if_pos (by omega),fmF,if_neg (by rw [e,d2]; exact fun q=>q.2 hc)]
   ·by_cases f:k<i*60+j
    ·rw [if_pos f,if_pos (by omega)]
    ·rw [if_neg f,if_neg (by omega)]
 ·have c1:(Int.ofNat j != Int.ofNat p.x)=true:=by simp; omega
  have pl:=zUr (O:=O)
  unfold zmi at pl
  simp only [Tryz.f331,cF,Option.getD,zcb,zev,List.nil_append,List.append_nil,List.cons_append] at pl
  have hnl':h.next≤lim:=by rw [hnx]; exact hn0
  have hnl0:Nat.ble h.next 4294967296=true:=by rw [Nat.ble_eq]; exact hnl'
  obtain ⟨h1,s1,N1,nx1,o1⟩:=hN.st (O:=O) hi hj (zjG (upF (fmF m u d p.x) m (i*60+j) (i*60+j)) (zaM (d i) (u j)))
  simp only [SSb,Tryz.f331,cF,Option.getD,cA,cB,cI,zab,zac,zao,zak,zau,zal,lim,Nat.reduceLT,Nat.reduceEqDiff,and_true,if_true,if_false,reduceIte,false_and,true_and,Nat.beq,cond_true,cond_false,zad,zae,zaf,zar,zap,zat,Option.bind_some,zam zaA,zaj,List.getElem?_toArray,List.getElem?_cons_succ,List.getElem?_cons_zero,List.drop_succ_cons,List.drop_zero,zah,zas,Bool.and_self,Bool.true_and,hsum,t1,t10,t12,t14,t15,t16,t19,t135,hk',hk2,c1,zkL hi,zkL hj,zcV hi,zde hj,hU.ld hj,hD.ld hi,hN.ld hi hj,s1,zbX pl hnl',hnl0] at hr
  subst hr
  refine ⟨_,rfl,rfl,⟨?_,?_,?_,?_,?_,?_⟩,?_,?_,?_,hU.to (o1 _ (fun e=>hp.nu e.symm)),hD.to (o1 _ (fun e=>hp.nd e.symm)),N1.cg fun k _ => ?_,nx1.trans hnx,fun e he=>(o1 _ (by omega)).trans (keep e he)⟩
  ·simp [zaa,lim,t1]
  ·simp [zaa,lim,t10]
  ·simp [zaa,lim,t12]
  ·simp [zaa,lim,t14]
  ·simp [zaa,lim,t15]
  ·simp [zaa,lim,t16]
  ·simp [zaa,lim,t19]
  ·simp [zaa,lim,t129]
  ·simp [zaa,lim]
  ·simp only [zes,upF]
   by_cases e:k=i*60+j
   ·rw [if_pos e,if_neg (by omega),if_pos (by omega),fmF,e,d1,d2,if_pos ⟨hix,hc⟩]
   ·rw [if_neg e]
    by_cases f:k<i*60+j
    ·rw [if_pos f,if_pos (by omega)]
    ·rw [if_neg f,if_neg (by omega)]
theorem zxU {p:Pl} {u d m:Nat→Int} {lo n0:Nat} {g:Nat→Option SObj} {i:Nat} (st:St) (hI:PuBI p u d m lo n0 g i 60 st) :
  ∃ o st',o ≠ .normal∧zab zmf (Eo O) ih ⟨331,202,.normal,none⟩ st=.ok (o,st')∧(o=.exit 6∧PuBI p u d m lo n0 g i 60 st'):=by
 obtain ⟨tm,h,dd⟩:=st
 obtain ⟨hd,hT,t19,t129,t135,hU,hD,hN,hnx,keep⟩:=hI
 obtain ⟨t1,t10,t12,t14,t15,t16⟩:=hT
 simp only at hd t1 t10 t12 t14 t15 t16 t19 t129 t135 hU hD hN hnx keep
 subst hd
 have hk':decide (Int.ofNat 60<60)=false:=rfl
 have hsum:=trivial
 generalize hr:zab zmf (Eo O) ih ⟨331,202,.normal,none⟩ ⟨tm,h,[]⟩=r
 unfold zmf puB pu9 at hr
 simp only [SSb,Tryz.f331,cF,Option.getD,cA,cB,cI,zab,zac,zao,zak,zau,zal,lim,Nat.reduceLT,Nat.reduceEqDiff,and_true,if_true,if_false,reduceIte,false_and,true_and,Nat.beq,cond_true,cond_false,zad,zae,zaf,zar,zap,zat,Option.bind_some,zam zaA,zaj,List.getElem?_toArray,List.getElem?_cons_succ,List.getElem?_cons_zero,List.drop_succ_cons,List.drop_zero,zah,zas,Bool.and_self,Bool.true_and,hsum,t135,hk'] at hr
 subst hr
 refine ⟨_,_,by simp,rfl,rfl,rfl,⟨?_,?_,?_,?_,?_,?_⟩,?_,?_,?_,hU,hD,hN,hnx,keep⟩<;>simp [zaa,lim,t1,t10,t12,t14,t15,t16,t19,t129,t135]
structure PuBO (p:Pl) (u d m:Nat→Int) (lo n0:Nat) (g:Nat→Option SObj) (i:Nat) (st:St):Prop where
 ds:st.defers=[]
 tm:PuT p st.tm
 t129:st.tm.get 129=some (.int .i64 (.ofNat i))
 U:Row st.h p.U u
 D:Row st.h p.D d
 N:Zon st.h p.N (upF (fmF m u d p.x) m (i*60))
 next:st.h.next=n0
 keep:∀ e,e<lo→st.h.t.get e=g e
theorem zXo (hsum:∀ (a b:Int) (h:SHeap),ih (.call 263 #[.int .i64 a,.int .i64 b] .normal) h=.ok (.int .i64 (zaM a b),h)) {p:Pl} (hp:p.ok) {u d m:Nat→Int} {lo n0:Nat} {g:Nat→Option SObj} (hlo:lo≤p.N) (hn0:n0≤lim)
  (i:Nat) (hi:i<60) (st:St) (hI:PuBO p u d m lo n0 g i st) :
  ∃ st',zab puB (Eo O) ih ⟨331,202,.normal,none⟩ st=.ok (.normal,st')∧PuBO p u d m lo n0 g (i+1) st':=by
 obtain ⟨tm,h,dd⟩:=st
 obtain ⟨hd,hT,t129,hU,hD,hN,hnx,keep⟩:=hI
 obtain ⟨t1,t10,t12,t14,t15,t16⟩:=hT
 simp only at hd t1 t10 t12 t14 t15 t16 t129 hU hD hN hnx keep
 subst hd
 have hk':decide (Int.ofNat i<60)=true:=by simp; omega
 have hk2:zaK .i64 (Int.ofNat i+1)=.ofNat (i+1):=zbb (m:=i+1) (by omega)
 generalize hr:zab puB (Eo O) ih ⟨331,202,.normal,none⟩ ⟨tm,h,[]⟩=r
 by_cases hix:i=p.x
 ·have c1:(Int.ofNat i==Int.ofNat p.x)=true:=by simp [hix]
  unfold puB pu9 at hr
  simp only [SSb,Tryz.f331,cF,Option.getD,cA,cB,cI,zab,zac,zao,zak,zau,zal,lim,Nat.reduceLT,Nat.reduceEqDiff,and_true,if_true,if_false,reduceIte,false_and,true_and,Nat.beq,cond_true,cond_false,zad,zae,zaf,zar,zap,zat,Option.bind_some,zam zaA,zaj,List.getElem?_toArray,List.getElem?_cons_succ,List.getElem?_cons_zero,List.drop_succ_cons,List.drop_zero,zah,zas,Bool.and_self,Bool.true_and,hsum,t1,t10,t12,t14,t15,t16,t129,hk',hk2,c1] at hr
  subst hr
  refine ⟨_,rfl,rfl,⟨?_,?_,?_,?_,?_,?_⟩,?_,hU,hD,hN.cg fun k _ => ?_,hnx,keep⟩
  ·simp [zaa,lim,t1]
  ·simp [zaa,lim,t10]
  ·simp [zaa,lim,t12]
  ·simp [zaa,lim,t14]
  ·simp [zaa,lim,t15]
  ·simp [zaa,lim,t16]
  ·simp [zaa,lim]
  ·simp only [upF]
   by_cases f:k<i*60
   ·rw [if_pos f,if_pos (by omega)]
   ·rw [if_neg f]
    by_cases e:k<(i+1)*60
    ·rw [if_pos e,fmF,if_neg (fun q=>q.1 (by omega))]
    ·rw [if_neg e]
 ·have c1:(Int.ofNat i==Int.ofNat p.x)=false:=by simp; omega
  obtain ⟨tmk,hk⟩:∃ tmk,tmk=(((((((tm.put 130 (some (.bool true))).put 131 (some (.int .i64 (.ofNat i)))).put 19 (some (.int .i64 (.ofNat i)))).put 132 (some (.int .i64 (.ofNat i)))).put 133 (some (.int .i64 (.ofNat p.x)))).put 134 (some (.bool false))).put 135 (some (.int .i64 0))):=⟨_,rfl⟩
  have hin:PuBI p u d m lo n0 g i 0 ⟨tmk,h,[]⟩:=by
   subst hk
   refine ⟨rfl,⟨?_,?_,?_,?_,?_,?_⟩,?_,?_,?_,hU,hD,hN,hnx,keep⟩<;>simp [zaa,lim,t1,t10,t12,t14,t15,t16,t129]
  obtain ⟨o,⟨tm',h',dd'⟩,e0,e1,e2,e3⟩:=zcS (f:=zab zmf (Eo O) ih ⟨331,202,.normal,none⟩) (I:=fun j st=>PuBI p u d m lo n0 g i j st) (N:=60)
   (P:=fun o st=>o=.exit 6∧PuBI p u d m lo n0 g i 60 st)
   (fun j st hj hI=>.inl (zMw hsum hp hlo hn0 hi hix j hj st hI)) (fun st hI=>zxU st hI) 60 1000000 0 _ (by omega) (by omega) hin
  subst e2
  obtain ⟨hd,hT,r19,r129,r135,rU,rD,rN,rnx,rkeep⟩:=e3
  obtain ⟨r1,r10,r12,r14,r15,r16⟩:=hT
  simp only at hd r1 r10 r12 r14 r15 r16 r19 r129 r135 rU rD rN rnx rkeep
  subst hd
  unfold zmf puB pu9 at e1
  simp only [Tryz.f331,cF,Option.getD,cA,cB,cI,zab] at e1
  subst hk
  unfold puB pu9 at hr
  simp only [SSb,Tryz.f331,cF,Option.getD,cA,cB,cI,zab,zac,zao,zak,zau,zal,lim,Nat.reduceLT,Nat.reduceEqDiff,and_true,if_true,if_false,reduceIte,false_and,true_and,Nat.beq,cond_true,cond_false,zad,zae,zaf,zar,zap,zat,Option.bind_some,zam zaA,zaj,List.getElem?_toArray,List.getElem?_cons_succ,List.getElem?_cons_zero,List.drop_succ_cons,List.drop_zero,zah,zas,Bool.and_self,Bool.true_and,hsum,t1,t10,t12,t14,t15,t16,t129,hk',hk2,c1,e1,r129] at hr
  subst hr
  refine ⟨_,rfl,rfl,⟨?_,?_,?_,?_,?_,?_⟩,?_,rU,rD,rN.cg fun k _ => ?_,rnx,rkeep⟩
  ·simp [zaa,lim,r1]
  ·simp [zaa,lim,r10]
  ·simp [zaa,lim,r12]
  ·simp [zaa,lim,r14]
  ·simp [zaa,lim,r15]
  ·simp [zaa,lim,r16]
  ·simp [zaa,lim]
  ·rw [show i*60+60=(i+1)*60 by omega]
theorem zRO:zdb (Eo O) (zmi 3).toList=some ⟨[⟨0,.pure,0⟩,⟨1,.pure,0⟩,⟨2,.pure,0⟩,⟨6,.pure,0⟩,⟨7,.pure,0⟩,⟨8,.pure,0⟩,⟨9,.read,0⟩,⟨10,.pure,0⟩,⟨11,.pure,0⟩,⟨12,.pure,0⟩,⟨13,.read,0⟩,⟨14,.pure,0⟩,⟨15,.pure,0⟩,⟨16,.pure,0⟩,⟨17,.pure,0⟩,⟨18,.eff,0⟩,⟨3,.pure,0⟩,⟨4,.pure,0⟩,⟨5,.pure,0⟩,⟨19,.pure,0⟩,⟨20,.pure,0⟩,⟨21,.pure,0⟩],22,0⟩:=by kernel_rfl
def fcF (f u d:Nat→Int) (x n:Nat):Nat→Int:=fun i=>if i/60=x∧i%60≠x∧i%60<n then u (i%60) else if i%60=x∧i/60≠x∧i/60<n then d (i/60) else f i
structure PuCO (p:Pl) (u d f:Nat→Int) (lo n0:Nat) (g:Nat→Option SObj) (i:Nat) (st:St):Prop where
 ds:st.defers=[]
 tm:PuT p st.tm
 t168:st.tm.get 168=some (.int .i64 (.ofNat i))
 U:Row st.h p.U u
 D:Row st.h p.D d
 N:Zon st.h p.N (fcF f u d p.x i)
 next:st.h.next=n0
 keep:∀ e,e<lo→st.h.t.get e=g e
theorem zUl {p:Pl} (hp:p.ok) {u d f:Nat→Int} {lo n0:Nat} {g:Nat→Option SObj} (hlo:lo≤p.N) (hn0:n0≤lim)
  (i:Nat) (hi:i<60) (st:St) (hI:PuCO p u d f lo n0 g i st) :
  ∃ st',zab puC (Eo O) ih ⟨331,202,.normal,none⟩ st=.ok (.normal,st')∧PuCO p u d f lo n0 g (i+1) st':=by
 obtain ⟨tm,h,dd⟩:=st
 obtain ⟨hd,hT,t168,hU,hD,hN,hnx,keep⟩:=hI
 obtain ⟨t1,t10,t12,t14,t15,t16⟩:=hT
 simp only at hd t1 t10 t12 t14 t15 t16 t168 hU hD hN hnx keep
 subst hd
 have hx:=hp.x
 have hsum:=trivial
 have hk':decide (Int.ofNat i<60)=true:=by simp; omega
 have hk2:zaK .i64 (Int.ofNat i+1)=.ofNat (i+1):=zbb (m:=i+1) (by omega)
 generalize hr:zab puC (Eo O) ih ⟨331,202,.normal,none⟩ ⟨tm,h,[]⟩=r
 unfold puC pu9 at hr
 by_cases hix:i=p.x
 ·have c1:(Int.ofNat i != Int.ofNat p.x)=false:=by simp [hix]
  simp only [SSb,Tryz.f331,cF,Option.getD,cA,cB,cI,zab,zac,zao,zak,zau,zal,lim,Nat.reduceLT,Nat.reduceEqDiff,and_true,if_true,if_false,reduceIte,false_and,true_and,Nat.beq,cond_true,cond_false,zad,zae,zaf,zar,zap,zat,Option.bind_some,zam zaA,zaj,List.getElem?_toArray,List.getElem?_cons_succ,List.getElem?_cons_zero,List.drop_succ_cons,List.drop_zero,zah,zas,Bool.and_self,Bool.true_and,hsum,t1,t10,t12,t14,t15,t16,t168,hk',hk2,c1] at hr
  subst hr
  refine ⟨_,rfl,rfl,⟨?_,?_,?_,?_,?_,?_⟩,?_,hU,hD,hN.cg fun k _ => ?_,hnx,keep⟩
  ·simp [zaa,lim,t1]
  ·simp [zaa,lim,t10]
  ·simp [zaa,lim,t12]
  ·simp [zaa,lim,t14]
  ·simp [zaa,lim,t15]
  ·simp [zaa,lim,t16]
  ·simp [zaa,lim]
  ·unfold fcF
   have e1:(k/60=p.x∧k%60≠p.x∧k%60<i)↔(k/60=p.x∧k%60≠p.x∧k%60<i+1):=by omega
   have e2:(k%60=p.x∧k/60≠p.x∧k/60<i)↔(k%60=p.x∧k/60≠p.x∧k/60<i+1):=by omega
   simp only [e1,e2]
 ·have c1:(Int.ofNat i != Int.ofNat p.x)=true:=by simp; omega
  have pl:=zRO (O:=O)
  unfold zmi at pl
  simp only [Tryz.f331,cF,Option.getD,zcb,zev,List.nil_append,List.append_nil,List.cons_append] at pl
  have hnl':h.next≤lim:=by rw [hnx]; exact hn0
  obtain ⟨h1,s1,N1,nx1,o1⟩:=hN.st (O:=O) hx hi (u i)
  obtain ⟨h2,s2,N2,nx2,o2⟩:=N1.st (O:=O) hi hx (d i)
  have hnl1:Nat.ble h1.next 4294967296=true:=by rw [Nat.ble_eq,nx1]; exact hnl'
  simp only [SSb,Tryz.f331,cF,Option.getD,cA,cB,cI,zab,zac,zao,zak,zau,zal,lim,Nat.reduceLT,Nat.reduceEqDiff,and_true,if_true,if_false,reduceIte,false_and,true_and,Nat.beq,cond_true,cond_false,zad,zae,zaf,zar,zap,zat,Option.bind_some,zam zaA,zaj,List.getElem?_toArray,List.getElem?_cons_succ,List.getElem?_cons_zero,List.drop_succ_cons,List.drop_zero,zah,zas,Bool.and_self,Bool.true_and,hsum,t1,t10,t12,t14,t15,t16,t168,hk',hk2,c1,zkL hi,zcV hx,zde hi,zcV hi,zde hx,hU.ld hi,hD.ld hi,s1,s2,zbX pl hnl',hnl1] at hr
  subst hr
  refine ⟨_,rfl,rfl,⟨?_,?_,?_,?_,?_,?_⟩,?_,(hU.to (o1 _ (fun e=>hp.nu e.symm))).to (o2 _ (fun e=>hp.nu e.symm)),(hD.to (o1 _ (fun e=>hp.nd e.symm))).to (o2 _ (fun e=>hp.nd e.symm)),N2.cg fun k hk => ?_,nx2.trans (nx1.trans hnx),fun e he=>(o2 _ (by omega)).trans ((o1 _ (by omega)).trans (keep e he))⟩
  ·simp [zaa,lim,t1]
  ·simp [zaa,lim,t10]
  ·simp [zaa,lim,t12]
  ·simp [zaa,lim,t14]
  ·simp [zaa,lim,t15]
  ·simp [zaa,lim,t16]
  ·simp [zaa,lim]
  ·simp only [zes]
   unfold fcF
   by_cases e:k=i*60+p.x
   ·have e1:¬ (k/60=p.x∧k%60≠p.x∧k%60<i+1):=by omega
    have e2:k%60=p.x∧k/60≠p.x∧k/60<i+1:=by omega
    rw [if_pos e,if_neg e1,if_pos e2,show k/60=i by omega]
   ·rw [if_neg e]
    by_cases e':k=p.x*60+i
    ·have e1:k/60=p.x∧k%60≠p.x∧k%60<i+1:=by omega
     rw [if_pos e',if_pos e1,show k%60=i by omega]
    ·have e1:(k/60=p.x∧k%60≠p.x∧k%60<i)↔(k/60=p.x∧k%60≠p.x∧k%60<i+1):=by omega
     have e2:(k%60=p.x∧k/60≠p.x∧k/60<i)↔(k%60=p.x∧k/60≠p.x∧k/60<i+1):=by omega
     rw [if_neg e']
     simp only [e1,e2]
theorem zCn {p:Pl} {a b m:Nat→Int} {lo n0:Nat} {g:Nat→Option SObj} (st:St) (hI:PuAO p a b m lo n0 g 60 st) :
  ∃ o st',o ≠ .normal∧zab puA (Eo O) ih ⟨331,202,.normal,none⟩ st=.ok (o,st')∧(o=.exit 0∧PuAO p a b m lo n0 g 60 st'):=by
 obtain ⟨tm,h,dd⟩:=st
 obtain ⟨hd,hT,t65,hA,hB,hN,hU,hD,hnx,keep⟩:=hI
 obtain ⟨t1,t10,t12,t14,t15,t16⟩:=hT
 simp only at hd t1 t10 t12 t14 t15 t16 t65 hA hB hN hU hD hnx keep
 subst hd
 have hk':decide (Int.ofNat 60<60)=false:=rfl
 have hsum:=trivial
 generalize hr:zab puA (Eo O) ih ⟨331,202,.normal,none⟩ ⟨tm,h,[]⟩=r
 unfold puA pu9 at hr
 simp only [SSb,Tryz.f331,cF,Option.getD,cA,cB,cI,zab,zac,zao,zak,zau,zal,lim,Nat.reduceLT,Nat.reduceEqDiff,and_true,if_true,if_false,reduceIte,false_and,true_and,Nat.beq,cond_true,cond_false,zad,zae,zaf,zar,zap,zat,Option.bind_some,zam zaA,zaj,List.getElem?_toArray,List.getElem?_cons_succ,List.getElem?_cons_zero,List.drop_succ_cons,List.drop_zero,zah,zas,Bool.and_self,Bool.true_and,hsum,t65,hk'] at hr
 subst hr
 refine ⟨_,_,by simp,rfl,rfl,rfl,⟨?_,?_,?_,?_,?_,?_⟩,?_,hA,hB,hN,hU,hD,hnx,keep⟩<;>simp [zaa,lim,t1,t10,t12,t14,t15,t16,t65]
theorem zAH {p:Pl} {u d m:Nat→Int} {lo n0:Nat} {g:Nat→Option SObj} (st:St) (hI:PuBO p u d m lo n0 g 60 st) :
  ∃ o st',o ≠ .normal∧zab puB (Eo O) ih ⟨331,202,.normal,none⟩ st=.ok (o,st')∧(o=.exit 4∧PuBO p u d m lo n0 g 60 st'):=by
 obtain ⟨tm,h,dd⟩:=st
 obtain ⟨hd,hT,t129,hU,hD,hN,hnx,keep⟩:=hI
 obtain ⟨t1,t10,t12,t14,t15,t16⟩:=hT
 simp only at hd t1 t10 t12 t14 t15 t16 t129 hU hD hN hnx keep
 subst hd
 have hk':decide (Int.ofNat 60<60)=false:=rfl
 have hsum:=trivial
 generalize hr:zab puB (Eo O) ih ⟨331,202,.normal,none⟩ ⟨tm,h,[]⟩=r
 unfold puB pu9 at hr
 simp only [SSb,Tryz.f331,cF,Option.getD,cA,cB,cI,zab,zac,zao,zak,zau,zal,lim,Nat.reduceLT,Nat.reduceEqDiff,and_true,if_true,if_false,reduceIte,false_and,true_and,Nat.beq,cond_true,cond_false,zad,zae,zaf,zar,zap,zat,Option.bind_some,zam zaA,zaj,List.getElem?_toArray,List.getElem?_cons_succ,List.getElem?_cons_zero,List.drop_succ_cons,List.drop_zero,zah,zas,Bool.and_self,Bool.true_and,hsum,t129,hk'] at hr
 subst hr
 refine ⟨_,_,by simp,rfl,rfl,rfl,⟨?_,?_,?_,?_,?_,?_⟩,?_,hU,hD,hN,hnx,keep⟩<;>simp [zaa,lim,t1,t10,t12,t14,t15,t16,t129]
theorem zBN {p:Pl} {u d f:Nat→Int} {lo n0:Nat} {g:Nat→Option SObj} (st:St) (hI:PuCO p u d f lo n0 g 60 st) :
  ∃ o st',o ≠ .normal∧zab puC (Eo O) ih ⟨331,202,.normal,none⟩ st=.ok (o,st')∧(o=.exit 8∧PuCO p u d f lo n0 g 60 st'):=by
 obtain ⟨tm,h,dd⟩:=st
 obtain ⟨hd,hT,t168,hU,hD,hN,hnx,keep⟩:=hI
 obtain ⟨t1,t10,t12,t14,t15,t16⟩:=hT
 simp only at hd t1 t10 t12 t14 t15 t16 t168 hU hD hN hnx keep
 subst hd
 have hk':decide (Int.ofNat 60<60)=false:=rfl
 have hsum:=trivial
 generalize hr:zab puC (Eo O) ih ⟨331,202,.normal,none⟩ ⟨tm,h,[]⟩=r
 unfold puC pu9 at hr
 simp only [SSb,Tryz.f331,cF,Option.getD,cA,cB,cI,zab,zac,zao,zak,zau,zal,lim,Nat.reduceLT,Nat.reduceEqDiff,and_true,if_true,if_false,reduceIte,false_and,true_and,Nat.beq,cond_true,cond_false,zad,zae,zaf,zar,zap,zat,Option.bind_some,zam zaA,zaj,List.getElem?_toArray,List.getElem?_cons_succ,List.getElem?_cons_zero,List.drop_succ_cons,List.drop_zero,zah,zas,Bool.and_self,Bool.true_and,hsum,t168,hk'] at hr
 subst hr
 refine ⟨_,_,by simp,rfl,rfl,rfl,⟨?_,?_,?_,?_,?_,?_⟩,?_,hU,hD,hN,hnx,keep⟩<;>simp [zaa,lim,t1,t10,t12,t14,t15,t16,t168]
end Go.Proofs.YtghhpeemloeljaaGreat
set_option linter.unusedSimpArgs false
set_option linter.unusedVariables false
namespace Go.Proofs.YtghhpeemloeljaaGreat
open Go Go.Sim
set_option maxRecDepth 100000
set_option maxHeartbeats 1000000
variable {O:OT} {ih:K}
theorem zec {G:Nat} {tm:Tr Value}:evT G tm (.const (.pointer none))=some (.pointer none):=(id rfl)
theorem zua {G:Nat} {tm:Tr Value}:evT G tm (.const (.slice none 0 0))=some (.slice none 0 0):=(id rfl)
def zbc (f:Nat→Int) (n:Nat):List Value:=(List.range n).map fun k=>.int .i64 (f k)
theorem zdd (f:Nat→Int) (n:Nat):(zbc f n).length=n:=by simp [zbc]
theorem zdf {f:Nat→Int} {n k:Nat} (h:k<n):(zbc f n)[k]? = some (.int .i64 (f k)):=by simp [zbc,h]
theorem zrN (f:Nat→Int) (n:Nat):zcR (zbc f n)=true:=by
 unfold zbc
 generalize List.range n=l
 induction l with
 | nil=>rfl
 | cons a l ih=>simp only [List.map_cons,zcR,zfY,ih,Bool.and_self]
theorem zgX {c:Tr Value}:∀ (n i:Nat) (l:List Value),l.length=n→(∀ k,k<n→c.get (i+k)=l[k]?)→c.toListFrom i n=some l
 | 0,i,l,h,_=>by
  obtain rfl:=List.eq_nil_of_length_eq_zero h
  rfl
 | n+1,i,[],h,_=>by simp at h
 | n+1,i,v::l,h,g=>by
  have h0:=g 0 (by omega)
  have:=zgX n (i+1) l (by simpa using h) (fun k hk=>by
   have:=g (k+1) (by omega)
   rw [show i+1+k=i+(k+1) by omega,this]
   simp)
  simp only [Nat.add_zero,List.getElem?_cons_zero] at h0
  simp only [Tr.toListFrom,h0,zaD,this]
theorem zpu {c:Tr Value} {n off len:Nat} {f:Nat→Int} (hl:12<len) (hn:off+len≤n) (hnl:n≤lim) (h:∀ k,k<len→c.get (off+k)=some (.int .i64 (f k))):range c n off len=some (zbc f len):=by
 unfold range
 rw [show Nat.ble len 12=false by
  cases e:Nat.ble len 12 with
  | false=>rfl
  | true=>have:=Nat.le_of_ble_eq_true e; omega,cond_false]
 split
 ·exact zgX len off _ (zdd f len) fun k hk=>by rw [h k hk,zdf hk]
 ·rename_i l hl2
  obtain ⟨g1,g2⟩:=zcF hl2
  have e1:Nat.ble (off+len) n=true:=by rw [Nat.ble_eq]; exact hn
  have e2:Nat.ble n lim=true:=by rw [Nat.ble_eq]; exact hnl
  rw [e1,e2,Bool.and_self,cond_true]
  congr 1
  refine List.ext_getElem? fun k => ?_
  by_cases hk:k<len
  ·rw [List.getElem?_take,if_pos hk,List.getElem?_drop,g2 _ (by omega) (by omega),h k hk,zdf hk]
  ·rw [List.getElem?_eq_none (by simp; omega),List.getElem?_eq_none (by rw [zdd]; omega)]
def Tbl (h:SHeap) (b:Nat) (f:Nat→Int):Prop:=∃ c,h.t.get b=some (.cells c 3600 287 false false)∧∀ k,k<3600→c.get k=some (.int .i64 (f k))
theorem Tbl.ld {h:SHeap} {b:Nat} {f:Nat→Int} (k:Tbl h b f) {i j:Nat} (hi:i<60) (hj:j<60):zba (Eo O) 3 (some (.pointer (some ⟨b,0+i*60+j,none⟩))) h=.ok (.value (.int .i64 (f (i*60+j))),h):=by
 obtain ⟨c,h1,h2⟩:=k
 refine zbD (E:=Eo O) E3 rfl h1 ?_
 rw [show 0+i*60+j=i*60+j by omega]
 exact h2 _ (by omega)
theorem Tbl.all {h:SHeap} {b:Nat} {f:Nat→Int} (k:Tbl h b f):zba (Eo O) 287 (some (.pointer (some ⟨b,0,none⟩))) h=.ok (.value (.agg (zbc f 3600).toArray),h):=by
 obtain ⟨c,h1,h2⟩:=k
 unfold zba loadAt
 simp only [zqx,h1]
 rw [if_pos (show TI.agg ⟨.array 60 285,3600,Tab.t287.bytes,Tab.t287.zero⟩=true from rfl)]
 have:=zpu (c:=c) (n:=3600) (off:=0) (len:=3600) (f:=f) (by omega) (by omega) (by unfold lim; omega) (fun k hk=>by rw [Nat.zero_add]; exact h2 k hk)
 simp only [this]
 rfl
theorem Zon.all {h:SHeap} {b:Nat} {f:Nat→Int} (k:Zon h b f):zba (Eo O) 287 (some (.pointer (some ⟨b,0+1,none⟩))) h=.ok (.value (.agg (zbc f 3600).toArray),h):=by
 obtain ⟨c,h1,_,h2⟩:=k
 unfold zba loadAt
 simp only [zqx,h1]
 rw [if_pos (show TI.agg ⟨.array 60 285,3600,Tab.t287.bytes,Tab.t287.zero⟩=true from rfl)]
 have:=zpu (c:=c) (n:=3601) (off:=0+1) (len:=3600) (f:=f) (by omega) (by omega) (by unfold lim; omega) (fun k hk=>by rw [Nat.zero_add]; exact h2 k hk)
 simp only [this]
 rfl
/-! ## settled -/
theorem zDI:Tryz.f264.body=some (cF Tryz.f264):=rfl
theorem zNz:(Eo O).F 264=some Tryz.f264:=by show Tab.funcs.get 264=_; kernel_rfl
theorem zLS {a:Value}:max Tryz.f264.ntmps (#[a]:Array Value).size=18:=rfl
theorem zIw:Tryz.f264.results.toList=[.tmp 2]:=rfl
noncomputable def seB:Code:=cI (cI (cB (cA (cB (cF Tryz.f264)))))
noncomputable def zmZ:List Field:=match Tab.t289.desc with | .struct fs=>fs.toList | _=>[]
theorem zEh:zhm (Eo O) zmZ=some [(0,1),(1,3600)]:=by kernel_rfl
theorem zAo {l:List Value} (hl:l.length=3600) {h:SHeap}:zfw (Eo O) ((Eo O).T 289) (some [(1,.agg l.toArray)]) h=.ok (.value (.agg (.bool false::l).toArray),h):=by
 have e:(Eo O).T 289=some ⟨.struct zmZ.toArray,3601,Tab.t289.bytes,some (.agg (.bool false::List.replicate 3600 (.int .i64 0)).toArray)⟩:=by show Tab.types.get 289=_; kernel_rfl
 rw [e]
 unfold zfw
 simp only [zEh]
 have hs:(Value.agg (.bool false::List.replicate 3600 (.int .i64 0)).toArray).cells.size=3601:=by simp [Value.cells]
 have hc:(Value.agg (.bool false::List.replicate 3600 (.int .i64 0)).toArray).cells.toList=.bool false::List.replicate 3600 (.int .i64 0):=by simp [Value.cells]
 have hl2:(Value.agg l.toArray).cells.toList=l:=by simp [Value.cells]
 have hb:Nat.beq l.length 3600=true:=by rw [hl]; rfl
 rw [hs,hc]
 simp only [zgW,List.getElem?_cons_succ,List.getElem?_cons_zero,hl2,hb,show Nat.ble (1+3600) 3601=true from rfl,Bool.and_self,cond_true,show (Nat.beq 1 0&&Nat.beq 3600 3601)=false from rfl,cond_false,zal]
 have hd:(Value.bool false::List.replicate 3600 (.int .i64 0)).drop (1+3600)=[]:=List.drop_eq_nil_of_le (by simp)
 rw [hd]
 simp
structure SeI (b:Nat) (f:Nat→Int) (h0:SHeap) (i:Nat) (st:St):Prop where
 ds:st.defers=[]
 h:st.h=h0
 t1:st.tm.get 1=some (.pointer (some ⟨b,0,none⟩))
 t4:st.tm.get 4=some (.int .i64 (.ofNat i))
theorem zNc {b:Nat} {f:Nat→Int} {h0:SHeap} (hb:Tbl h0 b f) (hf:∀ i,i<60→0≤f (i*60+i)) (i:Nat) (hi:i<60) (st:St) (hI:SeI b f h0 i st) :
  ∃ st',zab seB (Eo O) ih ⟨264,18,.normal,none⟩ st=.ok (.normal,st')∧SeI b f h0 (i+1) st':=by
 obtain ⟨tm,h,dd⟩:=st
 obtain ⟨hd,hh,t1,t4⟩:=hI
 simp only at hd hh t1 t4
 subst hd hh
 have hsum:=trivial
 have hk':decide (Int.ofNat i<60)=true:=by simp; omega
 have hk2:zaK .i64 (Int.ofNat i+1)=.ofNat (i+1):=zbb (m:=i+1) (by omega)
 have hn:decide (f (i*60+i)<0)=false:=by have:=hf i hi; simp; omega
 generalize hr:zab seB (Eo O) ih ⟨264,18,.normal,none⟩ ⟨tm,h,[]⟩=r
 unfold seB at hr
 simp only [SSb,Tryz.f264,cF,Option.getD,cA,cB,cI,zab,zac,zao,zak,zau,zal,lim,Nat.reduceLT,Nat.reduceEqDiff,and_true,if_true,if_false,reduceIte,false_and,true_and,Nat.beq,cond_true,cond_false,zad,zae,zaf,zar,zap,zat,Option.bind_some,zam zaA,zaj,List.getElem?_toArray,List.getElem?_cons_succ,List.getElem?_cons_zero,List.drop_succ_cons,List.drop_zero,zah,zas,Bool.and_self,Bool.true_and,hsum,t1,t4,hk',hk2,hn,zcV hi,zde hi,hb.ld hi hi] at hr
 subst hr
 refine ⟨_,rfl,rfl,rfl,?_,?_⟩<;>simp [zaa,lim,t1]
theorem zGR {b:Nat} {f:Nat→Int} {h0:SHeap} (st:St) (hI:SeI b f h0 60 st):∃ o st',o ≠ .normal∧zab seB (Eo O) ih ⟨264,18,.normal,none⟩ st=.ok (o,st')∧(o=.exit 0∧SeI b f h0 60 st'):=by
 obtain ⟨tm,h,dd⟩:=st
 obtain ⟨hd,hh,t1,t4⟩:=hI
 simp only at hd hh t1 t4
 subst hd hh
 have hsum:=trivial
 have hk':decide (Int.ofNat 60<60)=false:=rfl
 generalize hr:zab seB (Eo O) ih ⟨264,18,.normal,none⟩ ⟨tm,h,[]⟩=r
 unfold seB at hr
 simp only [SSb,Tryz.f264,cF,Option.getD,cA,cB,cI,zab,zac,zao,zak,zau,zal,lim,Nat.reduceLT,Nat.reduceEqDiff,and_true,if_true,if_false,reduceIte,false_and,true_and,Nat.beq,cond_true,cond_false,zad,zae,zaf,zar,zap,zat,Option.bind_some,zam zaA,zaj,List.getElem?_toArray,List.getElem?_cons_succ,List.getElem?_cons_zero,List.drop_succ_cons,List.drop_zero,zah,zas,Bool.and_self,Bool.true_and,hsum,t4,hk'] at hr
 subst hr
 refine ⟨_,_,by simp,rfl,rfl,rfl,rfl,?_,?_⟩<;>simp [zaa,lim,t1,t4]
theorem zDG {h:SHeap} {f:Nat→Int} (hn:h.next<lim):Tbl (zai h 287 (zbc f 3600) false) h.next f:=by
 refine ⟨Tr.ofL 33 (zbc f 3600),?_,fun k hk => ?_⟩
 ·simp only [zai,SHeap.new,zaa]
  rw [if_pos ⟨trivial,hn⟩,zdd]
 ·rw [zbv (by unfold lim; omega),zdf hk]
theorem zET {h:SHeap} {f:Nat→Int} (hn:h.next<lim):Zon (zai h 289 (.bool false::zbc f 3600) false) h.next f:=by
 refine ⟨Tr.ofL 33 (.bool false::zbc f 3600),?_,?_,fun k hk => ?_⟩
 ·simp only [zai,SHeap.new,zaa]
  rw [if_pos ⟨trivial,hn⟩,List.length_cons,zdd]
 ·rw [zbv (by unfold lim; omega)]; rfl
 ·rw [zbv (by unfold lim; omega),show 1+k=k+1 by omega,List.getElem?_cons_succ,zdf hk]
theorem zbK {h:SHeap} {e:TypeId} {l:List Value} {o:Bool} {d:Nat} (hd:d≠h.next):(zai h e l o).t.get d=h.t.get d:=by
 simp only [zai,SHeap.new,zaa]
 rw [if_neg (fun q=>hd q.1)]
theorem zno {n:Nat} (hO:O 264=none) {f:Nat→Int} (hf:∀ i,i<60→0≤f (i*60+i)) {h:SHeap} (hn:h.next+2≤lim) :
  ∃ h',run (Eo O) (n+1) (.call 264 #[.agg (zbc f 3600).toArray] .normal) h=.ok (.pointer (some ⟨h.next+1,0,none⟩),h')∧Zon h' (h.next+1) f∧h'.next=h.next+2∧∀ e,e<h.next→h'.t.get e=h.t.get e:=by
 suffices hc:∃ tm' h',zab (cF Tryz.f264) (Eo O) (run (Eo O) n) ⟨264,18,.normal,none⟩ ⟨Tr.ofL 33 [.agg (zbc f 3600).toArray],h,[]⟩=.ok (.ret,⟨tm',h',[]⟩)∧tm'.get 2=some (.pointer (some ⟨h.next+1,0,none⟩))∧Zon h' (h.next+1) f∧h'.next=h.next+2∧∀ e,e<h.next→h'.t.get e=h.t.get e by
  obtain ⟨tm',h',k1,k2,k3⟩:=hc
  exact ⟨h',(zby (show (Eo O).O 264=none from hO)).trans (zaY (vs:=[_]) zNz zDI zLS rfl zIw k1 (by simp only [zaQ,k2,zcM])),k3⟩
 generalize hr:zab (cF Tryz.f264) (Eo O) (run (Eo O) n) ⟨264,18,.normal,none⟩ ⟨Tr.ofL 33 [.agg (zbc f 3600).toArray],h,[]⟩=r
 have t0:(Tr.ofL 33 [Value.agg (zbc f 3600).toArray]).get 0=some (.agg (zbc f 3600).toArray):=rfl
 generalize Tr.ofL 33 [Value.agg (zbc f 3600).toArray]=tm at hr t0
 have hsum:=trivial
 have bx:zfD 287 (some (.agg (zbc f 3600).toArray)) h=.ok (.value (.pointer (some ⟨h.next,0,none⟩)),zai h 287 (zbc f 3600) false):=by
  simp only [zfD,zjq,Value.cells]
 have hT:=zDG (h:=h) (f:=f) (by omega)
 obtain ⟨tmk,hk⟩:∃ tmk,tmk=(((tm.put 1 (some (.pointer (some ⟨h.next,0,none⟩)))).put 2 (some (.pointer none))).put 4 (some (.int .i64 0))):=⟨_,rfl⟩
 have hin:SeI h.next f (zai h 287 (zbc f 3600) false) 0 ⟨tmk,zai h 287 (zbc f 3600) false,[]⟩:=by
  subst hk
  refine ⟨rfl,rfl,?_,?_⟩<;>simp [zaa,lim]
 obtain ⟨o,⟨tm',h',dd'⟩,e0,e1,e2,e3⟩:=zcS (f:=zab seB (Eo O) (run (Eo O) n) ⟨264,18,.normal,none⟩) (I:=fun j st=>SeI h.next f (zai h 287 (zbc f 3600) false) j st) (N:=60)
  (P:=fun o st=>o=.exit 0∧SeI h.next f (zai h 287 (zbc f 3600) false) 60 st)
  (fun j st hj hI=>.inl (zNc hT hf j hj st hI)) (fun st hI=>zGR st hI) 60 1000000 0 _ (by omega) (by omega) hin
 subst e2
 obtain ⟨hd,hh,r1,r4⟩:=e3
 simp only at hd hh r1 r4
 subst hd hh
 have bz:zfD 289 (some (.agg (.bool false::zbc f 3600).toArray)) (zai h 287 (zbc f 3600) false)=.ok (.value (.pointer (some ⟨h.next+1,0,none⟩)),zai (zai h 287 (zbc f 3600) false) 289 (.bool false::zbc f 3600) false):=by
  simp only [zfD,zjq,Value.cells]
  rfl
 unfold seB at e1
 simp only [Tryz.f264,cF,Option.getD,cA,cB,cI,zab] at e1
 subst hk
 simp only [SSb,Tryz.f264,cF,Option.getD,cA,cB,cI,zab,zac,zao,zak,zau,zal,lim,Nat.reduceLT,Nat.reduceEqDiff,and_true,if_true,if_false,reduceIte,false_and,true_and,Nat.beq,cond_true,cond_false,zad,zae,zaf,zar,zap,zat,Option.bind_some,zam zaA,zaj,List.getElem?_toArray,List.getElem?_cons_succ,List.getElem?_cons_zero,List.drop_succ_cons,List.drop_zero,zah,zas,Bool.and_self,Bool.true_and,hsum,zco,zbC,zaN,zec,t0,bx,e1,r1,hT.all,zAo (zdd f 3600),bz] at hr
 subst hr
 refine ⟨_,_,rfl,?_,zET (h:=zai h 287 (zbc f 3600) false) (f:=f) (by show h.next+1<lim; omega),rfl,fun e he => ?_⟩
 ·simp [zaa,lim]
 ·rw [zbK (by show e≠h.next+1; omega),zbK (by omega)]
end Go.Proofs.YtghhpeemloeljaaGreat
set_option linter.unusedSimpArgs false
set_option linter.unusedVariables false
namespace Go.Proofs.YtghhpeemloeljaaGreat
open Go Go.Sim
set_option maxRecDepth 100000
set_option maxHeartbeats 1000000
variable {O:OT} {ih:K}
theorem zlg {E:Env} {G:Nat} {tm:Tr Value} {o:Oper} {a:Operand} {t elem b1 b2:Nat} {z:Option Value} {h:SHeap} (ht:E.T t=some ⟨.slice elem,b1,b2,z⟩):zbY E (evT G tm) o ⟨.builtin .len,#[a],#[t]⟩ h=(match evT G tm a with
  | some (.slice x n c)=>.ok (.value (.int .i64 (.ofNat n)),h)
  | _=>zbY E (evT G tm) o ⟨.builtin .len,#[a],#[t]⟩ h):=by
 split
 ·rename_i x n c h1
  simp only [zbY,zaj,h1]
  show zks E (evT G tm) o (Option.bind (some t) E.T) (.slice x n c) h=_
  simp only [Option.bind_some,ht]
  rfl
 ·rfl
theorem zEL:Tryz.f333.body=some (cF Tryz.f333):=rfl
theorem zLQ:(Eo O).F 333=some Tryz.f333:=by show Tab.funcs.get 333=_; kernel_rfl
theorem zMK {a b:Value}:max Tryz.f333.ntmps (#[a,b]:Array Value).size=38:=rfl
theorem zHu:Tryz.f333.results.toList=[.tmp 4,.tmp 5]:=rfl
theorem zCh:(Eo O).T 440=some ⟨.slice 215,1,Tab.t440.bytes,Tab.t440.zero⟩:=by show Tab.types.get 440=_; kernel_rfl
theorem zqL:(Eo O).T 215=some ⟨Tab.t215.desc,2,Tab.t215.bytes,some (.agg #[.bool false,.int .i64 0])⟩:=by show Tab.types.get 215=_; kernel_rfl
theorem zOp {h:SHeap}:zjF (Eo O) ((Eo O).T 43) (some 60) (some 60) h=.ok (.value (.slice (some ⟨h.next,0,none⟩) 60 60),zai h 3 (List.replicate 60 (.int .i64 0)) false):=by kernel_rfl
theorem zwJ {b i c:Nat} {h:SHeap} (hi:i<60):zcy (Eo O) ((Eo O).T 440) (some (.slice (some ⟨b,0,none⟩) 60 c)) (some i) h=.ok (.value (.pointer (some ⟨b,i*2,none⟩)),h):=by
 rw [zCh]
 show zcm (Eo O) 215 60 ⟨b,0,none⟩ i h=_
 unfold zcm
 rw [zqL]
 simp only [zaI hi,cond_true,zal,zaG,Nat.zero_add]
theorem zeO {a:Addr} {h:SHeap}:zbz (Eo O) ((Eo O).T 215) (some (.pointer (some a))) 0 h=.ok (.value (.pointer (some (zbe a 0))),h):=by kernel_rfl
theorem zeV {a:Addr} {h:SHeap}:zbz (Eo O) ((Eo O).T 215) (some (.pointer (some a))) 1 h=.ok (.value (.pointer (some (zbe a 1))),h):=by kernel_rfl
theorem zsl:TI.agg ⟨Tab.t215.desc,2,Tab.t215.bytes,some (.agg #[.bool false,.int .i64 0])⟩=true:=by kernel_rfl
def Bds (h:SHeap) (b:Nat) (is:Nat→Bool) (c:Nat→Int):Prop:=∃ t n e o r,h.t.get b=some (.cells t n e o r)∧∀ j,j<60→t.get (j*2)=some (.bool (is j))∧t.get (j*2+1)=some (.int .i64 (c j))
theorem Bds.ld {h:SHeap} {b:Nat} {is:Nat→Bool} {c:Nat→Int} (k:Bds h b is c) {j:Nat} (hj:j<60):zba (Eo O) 215 (some (.pointer (some ⟨b,j*2,none⟩))) h=.ok (.value (.agg #[.bool (is j),.int .i64 (c j)]),h):=by
 obtain ⟨t,n,e,o,r,h1,h2⟩:=k
 obtain ⟨g1,g2⟩:=h2 j hj
 unfold zba loadAt
 simp only [zqL,h1]
 rw [if_pos zsl]
 have:range t n (j*2) 2=some [.bool (is j),.int .i64 (c j)]:=by
  unfold range
  rw [show Nat.ble 2 12=true from rfl,cond_true]
  simp only [Tr.toListFrom,g1,g2,zaD]
 simp only [this]
 rfl
theorem Bds.to {h h':SHeap} {b:Nat} {is:Nat→Bool} {c:Nat→Int} (k:Bds h b is c) (e:h'.t.get b=h.t.get b):Bds h' b is c:=let ⟨t,n,x,o,r,h1,h2⟩:=k; ⟨t,n,x,o,r,e.trans h1,h2⟩
theorem zxB {h:SHeap} (hn:h.next<lim) (b:Bool) (c:Int):∃ h',zcI (Eo O) 215 (some (.pointer (some ⟨h.next,0,none⟩))) (some (.agg #[.bool b,.int .i64 c])) (zai h 215 [.bool false,.int .i64 0] false)=.ok (.value (.tuple #[]),h') ∧
  (∃ t,h'.t.get h.next=some (.cells t 2 215 false false)∧t.get 0=some (.bool b)∧t.get 1=some (.int .i64 c))∧h'.next=h.next+1∧∀ d,d≠h.next→h'.t.get d=h.t.get d:=by
 have hb:(zai h 215 [.bool false,.int .i64 0] false).t.get h.next=some (.cells (Tr.ofL 33 [.bool false,.int .i64 0]) 2 215 false false):=by
  simp only [zai,SHeap.new,zaa]
  rw [if_pos ⟨trivial,hn⟩]
  rfl
 have hs:zcL (Tr.ofL 33 [Value.bool false,.int .i64 0]) 2 0 [.bool b,.int .i64 c]=some (((Tr.ofL 33 [Value.bool false,.int .i64 0]).put 0 (some (.bool b))).put 1 (some (.int .i64 c))):=by
  unfold zcL
  rw [show Nat.ble [Value.bool b,.int .i64 c].length 12=true from rfl,cond_true]
  simp only [zcC,zav,zaD,zaI (show 0<2 by omega),zaI (show 0+1<2 by omega),cond_true]
 refine ⟨(zai h 215 [.bool false,.int .i64 0] false).set h.next (some (.cells (((Tr.ofL 33 [Value.bool false,.int .i64 0]).put 0 (some (.bool b))).put 1 (some (.int .i64 c))) 2 215 false false)),?_,⟨_,by simp only [SHeap.set,zaa]; rw [if_pos ⟨trivial,hn⟩],by simp [zaa,lim],by simp [zaa,lim]⟩,rfl,fun d hd => ?_⟩
 ·unfold zcI storeAt
  simp only [zqL,hb]
  have h2:¬ (Value.agg #[.bool b,.int .i64 c]).cells.size≠2:=by simp [Value.cells]
  have h3:(Value.agg #[.bool b,.int .i64 c]).cells.toList=[.bool b,.int .i64 c]:=by simp [Value.cells]
  rw [if_neg h2,h3]
  simp only [hs]
 ·simp only [SHeap.set,zaa]
  rw [if_neg (fun q=>hd q.1)]
  exact zbK hd
theorem zLn:zfC (.int .i64 60)=some 60:=(id rfl)
theorem zeZ {h:SHeap}:zgL ((Eo O).T 215) 215 h=.ok (.value (.pointer (some ⟨h.next,0,none⟩)),zai h 215 [.bool false,.int .i64 0] false):=by
 rw [zqL]; rfl
theorem zdQ {E:Env} {ev:Ev} {o:Oper} {b:Bool} {h:SHeap}:zpV E ev o .not (some (.bool b)) h=.ok (.value (.bool (bif b then false else true)),h):=(id rfl)
theorem zsh:zcY (Eo O) 261:=fun _ _=>by kernel_rfl
theorem zmT {h:SHeap} {b:Nat} {t:Tr Value} {is:Bool} {c:Int} (h0:h.t.get b=some (.cells t 2 215 false false)) (h1:t.get 0=some (.bool is)) (h2:t.get 1=some (.int .i64 c)) :
  zba (Eo O) 4 (some (.pointer (some ⟨b,0+0,none⟩))) h=.ok (.value (.bool is),h)∧zba (Eo O) 3 (some (.pointer (some ⟨b,0+1,none⟩))) h=.ok (.value (.int .i64 c),h):=
 ⟨zbD (E:=Eo O) E4 rfl h0 h1,zbD (E:=Eo O) E3 rfl h0 h2⟩
/-! ## bounds -/
noncomputable def boB:Code:=cI (cI (cB (cA (cB (cB (cF Tryz.f333))))))
def bdF (is:Nat→Bool) (c:Nat→Int) (x:Nat):Nat→Int:=fun j=>if j≠x∧is j=true then c j else 2305843009213693952
structure BoI (is:Nat→Bool) (c:Nat→Int) (x b cp R n0:Nat) (g:Nat→Option SObj) (j:Nat) (st:St):Prop where
 ds:st.defers=[]
 t0:st.tm.get 0=some (.int .i64 (.ofNat x))
 t6:st.tm.get 6=some (.slice (some ⟨R,0,none⟩) 60 60)
 t10:st.tm.get 10=some (.slice (some ⟨b,0,none⟩) 60 cp)
 t11:st.tm.get 11=some (.int .i64 60)
 t12:st.tm.get 12=some (.int .i64 (.ofNat j))
 B:Bds st.h b is c
 Rw:Row st.h R (uO (bdF is c x) j)
 next:st.h.next=n0+j
 keep:∀ e,e<R→st.h.t.get e=g e
theorem zMS (hib:∀ (v:Int) (h:SHeap),-1152921504606846976≤v→v≤1152921504606846976→ih (.call 261 #[.int .i64 v] .normal) h=.ok (.bool true,h)) {is:Nat→Bool} {c:Nat→Int} {x b cp R n0:Nat} {g:Nat→Option SObj} (hb:b<R) (hR:R<n0) (hn0:n0+60≤lim)
  (hc:∀ j,j<60→j≠x→is j=true → -1152921504606846976≤c j∧c j≤1152921504606846976) (j:Nat) (hj:j<60) (st:St) (hI:BoI is c x b cp R n0 g j st) :
  ∃ st',zab boB (Eo O) ih ⟨333,38,.normal,none⟩ st=.ok (.normal,st')∧BoI is c x b cp R n0 g (j+1) st':=by
 obtain ⟨tm,h,dd⟩:=st
 obtain ⟨hd,t0,t6,t10,t11,t12,hB,hRw,hnx,keep⟩:=hI
 simp only at hd t0 t6 t10 t11 t12 hB hRw hnx keep
 subst hd
 have hsum:=trivial
 have hk':decide (Int.ofNat j<60)=true:=by simp; omega
 have hk2:zaK .i64 (Int.ofNat j+1)=.ofNat (j+1):=zbb (m:=j+1) (by omega)
 obtain ⟨h1,s1,⟨t,a0,a1,a2⟩,nx1,o1⟩:=zxB (O:=O) (h:=h) (by omega) (is j) (c j)
 have hRw1:=hRw.to (o1 R (by omega))
 obtain ⟨h2,s2,R2,nx2,o2⟩:=hRw1.st (O:=O) hj 2305843009213693952
 obtain ⟨l0,l1⟩:=zmT (O:=O) (h:=h2) ((o2 _ (by omega)).trans a0) a1 a2
 have hB2:Bds h2 b is c:=(hB.to (o1 b (by omega))).to (o2 b (by omega))
 have nxx:h2.next=n0+(j+1):=by omega
 have kk:∀ e,e<R→h2.t.get e=g e:=fun e he=>(o2 e (by omega)).trans ((o1 e (by omega)).trans (keep e he))
 generalize hr:zab boB (Eo O) ih ⟨333,38,.normal,none⟩ ⟨tm,h,[]⟩=r
 unfold boB at hr
 by_cases hx:j=x
 ·have c1:(Int.ofNat j != Int.ofNat x)=false:=by simp [hx]
  simp only [SSb,Tryz.f333,cF,Option.getD,cA,cB,cI,zab,zac,zao,zak,zau,zal,lim,Nat.reduceLT,Nat.reduceEqDiff,and_true,if_true,if_false,reduceIte,false_and,true_and,Nat.beq,cond_true,cond_false,zad,zae,zaf,zar,zap,zat,Option.bind_some,zam zaA,zaj,List.getElem?_toArray,List.getElem?_cons_succ,List.getElem?_cons_zero,List.drop_succ_cons,List.drop_zero,zah,zas,Bool.and_self,Bool.true_and,hsum,zct,dUn,zdQ,zbn,zam zsh,zwJ hj,zkL hj,zeO,zeV,hB.ld hj,zeZ,s1,s2,l0,t0,t6,t10,t11,t12,hk',hk2,c1] at hr
  subst hr
  refine ⟨_,rfl,rfl,?_,?_,?_,?_,?_,hB2,R2.cg fun i hi => ?_,nxx,kk⟩
  ·simp [zaa,lim,t0]
  ·simp [zaa,lim,t6]
  ·simp [zaa,lim,t10]
  ·simp [zaa,lim,t11]
  ·simp [zaa,lim]
  ·simp only [zes,uO,bdF]
   by_cases e:i=j
   ·simp [e,hx]
   ·by_cases f:i<j
    ·simp [e,f,show i<j+1 by omega]
    ·simp [e,f,show ¬ i<j+1 by omega]
 ·have c1:(Int.ofNat j != Int.ofNat x)=true:=by simp; omega
  cases hs:is j with
  | false=>
   rw [hs] at l0 s1
   have ldj:=hB.ld (O:=O) hj
   rw [hs] at ldj
   simp only [SSb,Tryz.f333,cF,Option.getD,cA,cB,cI,zab,zac,zao,zak,zau,zal,lim,Nat.reduceLT,Nat.reduceEqDiff,and_true,if_true,if_false,reduceIte,false_and,true_and,Nat.beq,cond_true,cond_false,zad,zae,zaf,zar,zap,zat,Option.bind_some,zam zaA,zaj,List.getElem?_toArray,List.getElem?_cons_succ,List.getElem?_cons_zero,List.drop_succ_cons,List.drop_zero,zah,zas,Bool.and_self,Bool.true_and,hsum,zct,dUn,zdQ,zbn,zam zsh,zwJ hj,zkL hj,zeO,zeV,ldj,zeZ,s1,s2,l0,t0,t6,t10,t11,t12,hk',hk2,c1] at hr
   subst hr
   refine ⟨_,rfl,rfl,?_,?_,?_,?_,?_,hB2,R2.cg fun i hi => ?_,nxx,kk⟩
   ·simp [zaa,lim,t0]
   ·simp [zaa,lim,t6]
   ·simp [zaa,lim,t10]
   ·simp [zaa,lim,t11]
   ·simp [zaa,lim]
   ·simp only [zes,uO,bdF]
    by_cases e:i=j
    ·simp [e,hs]
    ·by_cases f:i<j
     ·simp [e,f,show i<j+1 by omega]
     ·simp [e,f,show ¬ i<j+1 by omega]
  | true=>
   obtain ⟨b1,b2⟩:=hc j hj hx hs
   rw [hs] at l0 s1
   have ldj:=hB.ld (O:=O) hj
   rw [hs] at ldj
   obtain ⟨h3,s3,R3,nx3,o3⟩:=R2.st (O:=O) hj (c j)
   obtain ⟨_,l3⟩:=zmT (O:=O) (h:=h3) ((o3 _ (by omega)).trans ((o2 _ (by omega)).trans a0)) a1 a2
   simp only [SSb,Tryz.f333,cF,Option.getD,cA,cB,cI,zab,zac,zao,zak,zau,zal,lim,Nat.reduceLT,Nat.reduceEqDiff,and_true,if_true,if_false,reduceIte,false_and,true_and,Nat.beq,cond_true,cond_false,zad,zae,zaf,zar,zap,zat,Option.bind_some,zam zaA,zaj,List.getElem?_toArray,List.getElem?_cons_succ,List.getElem?_cons_zero,List.drop_succ_cons,List.drop_zero,zah,zas,Bool.and_self,Bool.true_and,hsum,zct,dUn,zdQ,zbn,zam zsh,zwJ hj,zkL hj,zeO,zeV,ldj,zeZ,s1,s2,s3,l0,l1,l3,hib _ _ b1 b2,t0,t6,t10,t11,t12,hk',hk2,c1] at hr
   subst hr
   refine ⟨_,rfl,rfl,?_,?_,?_,?_,?_,hB2.to (o3 b (by omega)),R3.cg fun i hi => ?_,nx3.trans nxx,fun e he=>(o3 e (by omega)).trans (kk e he)⟩
   ·simp [zaa,lim,t0]
   ·simp [zaa,lim,t6]
   ·simp [zaa,lim,t10]
   ·simp [zaa,lim,t11]
   ·simp [zaa,lim]
   ·simp only [zes,uO,bdF]
    by_cases e:i=j
    ·simp [e,hs,hx]
    ·by_cases f:i<j
     ·simp [e,f,show i<j+1 by omega]
     ·simp [e,f,show ¬ i<j+1 by omega]
theorem zKl {is:Nat→Bool} {c:Nat→Int} {x b cp R n0:Nat} {g:Nat→Option SObj} (st:St) (hI:BoI is c x b cp R n0 g 60 st) :
  ∃ o st',o ≠ .normal∧zab boB (Eo O) ih ⟨333,38,.normal,none⟩ st=.ok (o,st')∧(o=.exit 0∧BoI is c x b cp R n0 g 60 st'):=by
 obtain ⟨tm,h,dd⟩:=st
 obtain ⟨hd,t0,t6,t10,t11,t12,hB,hRw,hnx,keep⟩:=hI
 simp only at hd t0 t6 t10 t11 t12 hB hRw hnx keep
 subst hd
 have hsum:=trivial
 have hk':decide (Int.ofNat 60<60)=false:=rfl
 generalize hr:zab boB (Eo O) ih ⟨333,38,.normal,none⟩ ⟨tm,h,[]⟩=r
 unfold boB at hr
 simp only [SSb,Tryz.f333,cF,Option.getD,cA,cB,cI,zab,zac,zao,zak,zau,zal,lim,Nat.reduceLT,Nat.reduceEqDiff,and_true,if_true,if_false,reduceIte,false_and,true_and,Nat.beq,cond_true,cond_false,zad,zae,zaf,zar,zap,zat,Option.bind_some,zam zaA,zaj,List.getElem?_toArray,List.getElem?_cons_succ,List.getElem?_cons_zero,List.drop_succ_cons,List.drop_zero,zah,zas,Bool.and_self,Bool.true_and,hsum,t11,t12,hk'] at hr
 subst hr
 refine ⟨_,_,by simp,rfl,rfl,rfl,?_,?_,?_,?_,?_,hB,hRw,hnx,keep⟩<;>simp [zaa,lim,t0,t6,t10,t11,t12]
theorem zDT {h:SHeap} (hn:h.next<lim):Row (zai h 3 (List.replicate 60 (.int .i64 0)) false) h.next (fun _=>0):=by
 refine ⟨Tr.ofL 33 (List.replicate 60 (.int .i64 0)),?_,fun k hk => ?_⟩
 ·simp only [zai,SHeap.new,zaa]
  rw [if_pos ⟨trivial,hn⟩,List.length_replicate]
 ·rw [zbv (by unfold lim; omega),List.getElem?_replicate,if_pos hk]
theorem zoQ {n:Nat} (hO:O 333=none) (hib:∀ (v:Int) (h:SHeap),-1152921504606846976≤v→v≤1152921504606846976→run (Eo O) n (.call 261 #[.int .i64 v] .normal) h=.ok (.bool true,h)) {is:Nat→Bool} {c:Nat→Int} {x b cp:Nat} {h:SHeap} (hb:b<h.next) (hB:Bds h b is c) (hn:h.next+61≤lim)
  (hc:∀ j,j<60→j≠x→is j=true → -1152921504606846976≤c j∧c j≤1152921504606846976) :
  ∃ h',run (Eo O) (n+1) (.call 333 #[.int .i64 (.ofNat x),.slice (some ⟨b,0,none⟩) 60 cp] .normal) h=.ok (.tuple #[.slice (some ⟨h.next,0,none⟩) 60 60,.bool true],h')∧Row h' h.next (bdF is c x)∧h'.next=h.next+61∧∀ e,e<h.next→h'.t.get e=h.t.get e:=by
 suffices hcc:∃ tm' h',zab (cF Tryz.f333) (Eo O) (run (Eo O) n) ⟨333,38,.normal,none⟩ ⟨Tr.ofL 33 [.int .i64 (.ofNat x),.slice (some ⟨b,0,none⟩) 60 cp],h,[]⟩=.ok (.ret,⟨tm',h',[]⟩)∧tm'.get 4=some (.slice (some ⟨h.next,0,none⟩) 60 60)∧tm'.get 5=some (.bool true)∧Row h' h.next (bdF is c x)∧h'.next=h.next+61∧∀ e,e<h.next→h'.t.get e=h.t.get e by
  obtain ⟨tm',h',k1,k2,k2',k3⟩:=hcc
  exact ⟨h',(zby (show (Eo O).O 333=none from hO)).trans (zaY (vs:=[_,_]) zLQ zEL zMK rfl zHu k1 (by simp only [zaQ,k2,k2',zcM])),k3⟩
 generalize hr:zab (cF Tryz.f333) (Eo O) (run (Eo O) n) ⟨333,38,.normal,none⟩ ⟨Tr.ofL 33 [.int .i64 (.ofNat x),.slice (some ⟨b,0,none⟩) 60 cp],h,[]⟩=r
 have t0:(Tr.ofL 33 [Value.int .i64 (.ofNat x),.slice (some ⟨b,0,none⟩) 60 cp]).get 0=some (.int .i64 (.ofNat x)):=rfl
 have t1:(Tr.ofL 33 [Value.int .i64 (.ofNat x),.slice (some ⟨b,0,none⟩) 60 cp]).get 1=some (.slice (some ⟨b,0,none⟩) 60 cp):=rfl
 generalize Tr.ofL 33 [Value.int .i64 (.ofNat x),.slice (some ⟨b,0,none⟩) 60 cp]=tm at hr t0 t1
 have hsum:=trivial
 obtain ⟨tmk,hk⟩:∃ tmk,tmk=(((((((tm.put 4 (some (.slice none 0 0))).put 5 (some (.bool false))).put 9 (some (.slice (some ⟨h.next,0,none⟩) 60 60))).put 6 (some (.slice (some ⟨h.next,0,none⟩) 60 60))).put 10 (some (.slice (some ⟨b,0,none⟩) 60 cp))).put 11 (some (.int .i64 (.ofNat 60)))).put 12 (some (.int .i64 0))):=⟨_,rfl⟩
 have hin:BoI is c x b cp h.next (h.next+1) h.t.get 0 ⟨tmk,zai h 3 (List.replicate 60 (.int .i64 0)) false,[]⟩:=by
  subst hk
  refine ⟨rfl,?_,?_,?_,?_,?_,hB.to (zbK (by omega)),(zDT (by omega)).cg fun j _ => ?_,rfl,fun e he=>zbK (by omega)⟩
  ·simp [zaa,lim,t0]
  ·simp [zaa,lim]
  ·simp [zaa,lim]
  ·simp [zaa,lim]
  ·simp [zaa,lim]
  ·simp [uO]
 obtain ⟨o,⟨tm',h',dd'⟩,e0,e1,e2,e3⟩:=zcS (f:=zab boB (Eo O) (run (Eo O) n) ⟨333,38,.normal,none⟩) (I:=fun j st=>BoI is c x b cp h.next (h.next+1) h.t.get j st) (N:=60)
  (P:=fun o st=>o=.exit 0∧BoI is c x b cp h.next (h.next+1) h.t.get 60 st)
  (fun j st hj hI=>.inl (zMS hib hb (by omega) (by omega) hc j hj st hI)) (fun st hI=>zKl st hI) 60 1000000 0 _ (by omega) (by omega) hin
 subst e2
 obtain ⟨hd,r0,r6,r10,r11,r12,rB,rR,rnx,rkeep⟩:=e3
 simp only at hd r0 r6 r10 r11 r12 rB rR rnx rkeep
 subst hd
 unfold boB at e1
 simp only [Tryz.f333,cF,Option.getD,cA,cB,cI,zab] at e1
 subst hk
 simp only [SSb,Tryz.f333,cF,Option.getD,cA,cB,cI,zab,zac,zao,zak,zau,zal,lim,Nat.reduceLT,Nat.reduceEqDiff,and_true,if_true,if_false,reduceIte,false_and,true_and,Nat.beq,cond_true,cond_false,zad,zae,zaf,zar,zap,zat,Option.bind_some,zam zaA,zaj,List.getElem?_toArray,List.getElem?_cons_succ,List.getElem?_cons_zero,List.drop_succ_cons,List.drop_zero,zah,zas,Bool.and_self,Bool.true_and,hsum,zhe,zua,zLn,zOp,zlg (E:=Eo O) zCh,t0,t1,e1,r6] at hr
 subst hr
 refine ⟨_,_,rfl,?_,?_,rR.cg fun j hj => ?_,by show h'.next=_; omega,rkeep⟩
 ·simp [zaa,lim]
 ·simp [zaa,lim]
 ·simp [uO,hj]
end Go.Proofs.YtghhpeemloeljaaGreat
set_option linter.unusedSimpArgs false
set_option linter.unusedVariables false
namespace Go.Proofs.YtghhpeemloeljaaGreat
open Go Go.Sim
set_option maxRecDepth 100000
set_option maxHeartbeats 1000000
variable {O:OT} {ih:K}
theorem zDU {E:Env} {ev:Ev} {o:Oper} {t:TypeId} {x y:Int} {h:SHeap}:zcZ E ev o .leq t (some (.int .i64 x)) (some (.int .i64 y)) h=.ok (.value (.bool (decide (x≤y))),h):=zel (id rfl)
theorem zDO:Tryz.f261.body=some (cF Tryz.f261):=rfl
theorem zNb:(Eo O).F 261=some Tryz.f261:=by show Tab.funcs.get 261=_; kernel_rfl
theorem zMo {a:Value}:max Tryz.f261.ntmps (#[a]:Array Value).size=9:=rfl
theorem zFp:Tryz.f261.results.toList=[.tmp 2]:=rfl
theorem zjw {n:Nat} (hO:O 261=none) (v:Int) (h:SHeap) (h1 : -1152921504606846976≤v) (h2:v≤1152921504606846976):run (Eo O) (n+1) (.call 261 #[.int .i64 v] .normal) h=.ok (.bool true,h):=by
 suffices hcc:∃ tm',zab (cF Tryz.f261) (Eo O) (run (Eo O) n) ⟨261,9,.normal,none⟩ ⟨Tr.ofL 33 [.int .i64 v],h,[]⟩=.ok (.ret,⟨tm',h,[]⟩)∧tm'.get 2=some (.bool true) by
  obtain ⟨tm',k1,k2⟩:=hcc
  exact (zby (show (Eo O).O 261=none from hO)).trans (zaY (vs:=[_]) zNb zDO zMo rfl zFp k1 (by simp only [zaQ,k2,zcM]))
 generalize hr:zab (cF Tryz.f261) (Eo O) (run (Eo O) n) ⟨261,9,.normal,none⟩ ⟨Tr.ofL 33 [.int .i64 v],h,[]⟩=r
 have t0:(Tr.ofL 33 [Value.int .i64 v]).get 0=some (.int .i64 v):=rfl
 generalize Tr.ofL 33 [Value.int .i64 v]=tm at hr t0
 have hsum:=trivial
 have e1:decide (v ≥ -1152921504606846976)=true:=by simp; omega
 have e2:decide (v≤1152921504606846976)=true:=by simp; omega
 simp only [SSb,Tryz.f261,cF,Option.getD,cA,cB,cI,zab,zac,zao,zak,zau,zal,lim,Nat.reduceLT,Nat.reduceEqDiff,and_true,if_true,if_false,reduceIte,false_and,true_and,Nat.beq,cond_true,cond_false,zad,zae,zaf,zar,zap,zat,Option.bind_some,zam zaA,zaj,List.getElem?_toArray,List.getElem?_cons_succ,List.getElem?_cons_zero,List.drop_succ_cons,List.drop_zero,zah,zas,Bool.and_self,Bool.true_and,hsum,zDU,t0,e1,e2] at hr
 subst hr
 exact ⟨_,rfl,by simp [zaa,lim]⟩
theorem zpf {c:Tr Value} {n off len:Nat} {v:List Value} (hv:v.length=len) (hl:12<len) (hn:off+len≤n) (hnl:n≤lim) (h:∀ k,k<len→c.get (off+k)=v[k]?):range c n off len=some v:=by
 unfold range
 rw [show Nat.ble len 12=false by
  cases e:Nat.ble len 12 with
  | false=>rfl
  | true=>have:=Nat.le_of_ble_eq_true e; omega,cond_false]
 split
 ·exact zgX len off _ hv fun k hk=>h k hk
 ·rename_i l hl2
  obtain ⟨g1,g2⟩:=zcF hl2
  have e1:Nat.ble (off+len) n=true:=by rw [Nat.ble_eq]; exact hn
  have e2:Nat.ble n lim=true:=by rw [Nat.ble_eq]; exact hnl
  rw [e1,e2,Bool.and_self,cond_true]
  congr 1
  refine List.ext_getElem? fun k => ?_
  by_cases hk:k<len
  ·rw [List.getElem?_take,if_pos hk,List.getElem?_drop,g2 _ (by omega) (by omega),h k hk]
  ·rw [List.getElem?_eq_none (by simp; omega),List.getElem?_eq_none (by omega)]
theorem zBX:(Eo O).T 289=some ⟨.struct zmZ.toArray,3601,Tab.t289.bytes,some (.agg (.bool false::List.replicate 3600 (.int .i64 0)).toArray)⟩:=by show Tab.types.get 289=_; kernel_rfl
theorem Zon.whole {h:SHeap} {b:Nat} {f:Nat→Int} (k:Zon h b f):zba (Eo O) 289 (some (.pointer (some ⟨b,0,none⟩))) h=.ok (.value (.agg (.bool false::zbc f 3600).toArray),h):=by
 obtain ⟨c,h1,h0,h2⟩:=k
 unfold zba loadAt
 simp only [zBX,h1]
 rw [if_pos (show TI.agg ⟨.struct zmZ.toArray,3601,Tab.t289.bytes,some (.agg (.bool false::List.replicate 3600 (.int .i64 0)).toArray)⟩=true from rfl)]
 have:=zpf (c:=c) (n:=3601) (off:=0) (len:=3601) (v:=.bool false::zbc f 3600) (by rw [List.length_cons,zdd]) (by omega) (by omega) (by unfold lim; omega) (fun k hk=>by
  rw [Nat.zero_add]
  cases k with
  | zero=>exact h0
  | succ k=>rw [List.getElem?_cons_succ,zdf (by omega),show k+1=1+k by omega]; exact h2 k (by omega))
 simp only [this]
 rfl
theorem Zon.dead {h:SHeap} {b:Nat} {f:Nat→Int} (k:Zon h b f):zba (Eo O) 4 (some (.pointer (some ⟨b,0+0,none⟩))) h=.ok (.value (.bool false),h):=by
 obtain ⟨c,h1,h0,h2⟩:=k
 exact zbD (E:=Eo O) E4 rfl h1 h0
theorem zmv {h:SHeap}:zgL ((Eo O).T 289) 289 h=.ok (.value (.pointer (some ⟨h.next,0,none⟩)),zai h 289 (.bool false::List.replicate 3600 (.int .i64 0)) false):=by
 rw [zBX]
 simp only [zgL,zjq,Value.cells]
theorem zst {h:SHeap} (hn:h.next<lim) (f:Nat→Int):∃ h',zcI (Eo O) 289 (some (.pointer (some ⟨h.next,0,none⟩))) (some (.agg (.bool false::zbc f 3600).toArray)) (zai h 289 (.bool false::List.replicate 3600 (.int .i64 0)) false)=.ok (.value (.tuple #[]),h') ∧
  Zon h' h.next f∧h'.next=h.next+1∧∀ d,d≠h.next→h'.t.get d=h.t.get d:=by
 obtain ⟨z,hz⟩:∃ z,z=Value.bool false::List.replicate 3600 (.int .i64 0):=⟨_,rfl⟩
 have hzl:z.length=3601:=by rw [hz,List.length_cons,List.length_replicate]
 rw [← hz]
 have hb:(zai h 289 z false).t.get h.next=some (.cells (Tr.ofL 33 z) 3601 289 false false):=by
  simp only [zai,SHeap.new,zaa]
  rw [if_pos ⟨trivial,hn⟩,hzl]
 have hs:zcL (Tr.ofL 33 z) 3601 0 (.bool false::zbc f 3600)=some (Tr.ofL 33 (.bool false::zbc f 3600)):=by
  unfold zcL
  have e1:(Value.bool false::zbc f 3600).length=3601:=by rw [List.length_cons,zdd]
  have e2:zcR (Value.bool false::zbc f 3600)=true:=by simp only [zcR,zfY,zrN,Bool.and_self]
  rw [e1,e2]
  rfl
 refine ⟨(zai h 289 z false).set h.next (some (.cells (Tr.ofL 33 (.bool false::zbc f 3600)) 3601 289 false false)),?_,⟨Tr.ofL 33 (.bool false::zbc f 3600),?_,?_,fun k hk => ?_⟩,rfl,fun d hd => ?_⟩
 ·unfold zcI storeAt
  simp only [zBX,hb]
  have h2:¬ (Value.agg (Value.bool false::zbc f 3600).toArray).cells.size≠3601:=by simp [Value.cells,zdd]
  have h3:(Value.agg (Value.bool false::zbc f 3600).toArray).cells.toList=.bool false::zbc f 3600:=by simp [Value.cells]
  rw [if_neg h2,h3]
  simp only [hs]
 ·simp only [SHeap.set,zaa]
  rw [if_pos ⟨trivial,hn⟩]
 ·rw [zbv (by unfold lim; omega)]; rfl
 ·rw [zbv (by unfold lim; omega),show 1+k=k+1 by omega,List.getElem?_cons_succ,zdf hk]
 ·simp only [SHeap.set,zaa]
  rw [if_neg (fun q=>hd q.1)]
  exact zbK hd
/-! ## Forget -/
noncomputable def foO:Code:=cI (cI (cB (cA (cB (cB (cB (cF Tryz.f145)))))))
noncomputable def foB:Code:=cI (cI (cB (cB (cB (cI (cA (cB (cB foO))))))))
noncomputable def zzT:Array Oper:=zev (zcb (cF Tryz.f145)) 0
theorem zJB:zdb (Eo O) zzT.toList=some ⟨[⟨0,.pure,0⟩,⟨1,.pure,0⟩,⟨4,.pure,0⟩,⟨5,.pure,0⟩,⟨6,.pure,0⟩,⟨7,.eff,0⟩,⟨2,.pure,0⟩,⟨3,.pure,0⟩,⟨8,.pure,0⟩,⟨9,.pure,0⟩],10,0⟩:=by kernel_rfl
theorem zvN:Tryz.f145.body=some (cF Tryz.f145):=rfl
theorem zCZ:(Eo O).F 145=some Tryz.f145:=by show Tab.funcs.get 145=_; kernel_rfl
theorem zDo {a b:Value}:max Tryz.f145.ntmps (#[a,b]:Array Value).size=47:=rfl
theorem zya:Tryz.f145.results.toList=[.tmp 4]:=rfl
theorem zMG {b c:Nat} {h:SHeap}:zcy (Eo O) ((Eo O).T 43) (some (.slice (some ⟨b,0,none⟩) 1 c)) (some 0) h=.ok (.value (.pointer (some ⟨b,0,none⟩)),h):=by
 rw [E60]
 show zcm (Eo O) 3 1 ⟨b,0,none⟩ 0 h=_
 unfold zcm
 rw [E3]
 simp only [zaI (show 0<1 by omega),cond_true,zal,zaG]
abbrev foF (f:Nat→Int) (x n:Nat):Nat→Int:=fcF f (fun _=>2305843009213693952) (fun _=>2305843009213693952) x n
def One (h:SHeap) (s:Nat) (x:Int):Prop:=∃ t n e o r,h.t.get s=some (.cells t n e o r)∧t.get 0=some (.int .i64 x)
theorem One.to {h h':SHeap} {s:Nat} {x:Int} (k:One h s x) (e:h'.t.get s=h.t.get s):One h' s x:=let ⟨t,n,y,o,r,h1,h2⟩:=k; ⟨t,n,y,o,r,e.trans h1,h2⟩
theorem One.ld {h:SHeap} {s:Nat} {x:Int} (k:One h s x):zba (Eo O) 3 (some (.pointer (some ⟨s,0,none⟩))) h=.ok (.value (.int .i64 x),h):=by
 obtain ⟨t,n,e,o,r,h1,h2⟩:=k
 exact zbD (E:=Eo O) E3 rfl h1 h2
structure FoI (f:Nat→Int) (x z s cp n0:Nat) (g:Nat→Option SObj) (i:Nat) (st:St):Prop where
 ds:st.defers=[]
 t5:st.tm.get 5=some (.pointer (some ⟨z,0,none⟩))
 t7:st.tm.get 7=some (.int .i64 (.ofNat x))
 t17:st.tm.get 17=some (.slice (some ⟨s,0,none⟩) 1 cp)
 t18:st.tm.get 18=some (.int .i64 (.ofNat 1))
 t19:st.tm.get 19=some (.int .i64 (.ofNat 0))
 t29:st.tm.get 29=some (.int .i64 (.ofNat i))
 N:Zon st.h z (foF f x i)
 next:st.h.next=n0
 keep:∀ e,e<z→st.h.t.get e=g e
theorem zLW {f:Nat→Int} {x z s cp n0:Nat} {g:Nat→Option SObj} (hx:x<60) (hn0:n0≤lim) (i:Nat) (hi:i<60) (st:St) (hI:FoI f x z s cp n0 g i st) :
  ∃ st',zab foB (Eo O) ih ⟨145,47,.normal,none⟩ st=.ok (.normal,st')∧FoI f x z s cp n0 g (i+1) st':=by
 obtain ⟨tm,h,dd⟩:=st
 obtain ⟨hd,t5,t7,t17,t18,t19,t29,hN,hnx,keep⟩:=hI
 simp only at hd t5 t7 t17 t18 t19 t29 hN hnx keep
 subst hd
 have hsum:=trivial
 have hk':decide (Int.ofNat i<60)=true:=by simp; omega
 have hk2:zaK .i64 (Int.ofNat i+1)=.ofNat (i+1):=zbb (m:=i+1) (by omega)
 generalize hr:zab foB (Eo O) ih ⟨145,47,.normal,none⟩ ⟨tm,h,[]⟩=r
 unfold foB foO at hr
 by_cases hix:i=x
 ·have c1:(Int.ofNat i != Int.ofNat x)=false:=by simp [hix]
  simp only [SSb,Tryz.f145,cF,Option.getD,cA,cB,cI,zab,zac,zao,zak,zau,zal,lim,Nat.reduceLT,Nat.reduceEqDiff,and_true,if_true,if_false,reduceIte,false_and,true_and,Nat.beq,cond_true,cond_false,zad,zae,zaf,zar,zap,zat,Option.bind_some,zam zaA,zaj,List.getElem?_toArray,List.getElem?_cons_succ,List.getElem?_cons_zero,List.drop_succ_cons,List.drop_zero,zah,zas,Bool.and_self,Bool.true_and,hsum,t5,t7,t17,t18,t19,t29,hk',hk2,c1] at hr
  subst hr
  refine ⟨_,rfl,rfl,?_,?_,?_,?_,?_,?_,hN.cg fun k _ => ?_,hnx,keep⟩
  ·simp [zaa,lim,t5]
  ·simp [zaa,lim,t7]
  ·simp [zaa,lim,t17]
  ·simp [zaa,lim,t18]
  ·simp [zaa,lim,t19]
  ·simp [zaa,lim]
  ·unfold foF fcF
   have e1:(k/60=x∧k%60≠x∧k%60<i)↔(k/60=x∧k%60≠x∧k%60<i+1):=by omega
   have e2:(k%60=x∧k/60≠x∧k/60<i)↔(k%60=x∧k/60≠x∧k/60<i+1):=by omega
   simp only [e1,e2]
 ·have c1:(Int.ofNat i != Int.ofNat x)=true:=by simp; omega
  have pl:=zJB (O:=O)
  unfold zzT at pl
  simp only [Tryz.f145,cF,Option.getD,zcb,zev,List.nil_append,List.append_nil,List.cons_append] at pl
  have hnl':h.next≤lim:=by rw [hnx]; exact hn0
  obtain ⟨h1,s1,N1,nx1,o1⟩:=hN.st (O:=O) hx hi 2305843009213693952
  obtain ⟨h2,s2,N2,nx2,o2⟩:=N1.st (O:=O) hi hx 2305843009213693952
  have hnl1:Nat.ble h1.next 4294967296=true:=by rw [Nat.ble_eq,nx1]; exact hnl'
  simp only [SSb,Tryz.f145,cF,Option.getD,cA,cB,cI,zab,zac,zao,zak,zau,zal,lim,Nat.reduceLT,Nat.reduceEqDiff,and_true,if_true,if_false,reduceIte,false_and,true_and,Nat.beq,cond_true,cond_false,zad,zae,zaf,zar,zap,zat,Option.bind_some,zam zaA,zaj,List.getElem?_toArray,List.getElem?_cons_succ,List.getElem?_cons_zero,List.drop_succ_cons,List.drop_zero,zah,zas,Bool.and_self,Bool.true_and,hsum,t5,t7,t17,t18,t19,t29,hk',hk2,c1,zcV hx,zde hi,zcV hi,zde hx,s1,s2,zbX pl hnl',hnl1] at hr
  subst hr
  refine ⟨_,rfl,rfl,?_,?_,?_,?_,?_,?_,N2.cg fun k hk => ?_,nx2.trans (nx1.trans hnx),fun e he=>(o2 _ (by omega)).trans ((o1 _ (by omega)).trans (keep e he))⟩
  ·simp [zaa,lim,t5]
  ·simp [zaa,lim,t7]
  ·simp [zaa,lim,t17]
  ·simp [zaa,lim,t18]
  ·simp [zaa,lim,t19]
  ·simp [zaa,lim]
  ·simp only [zes]
   unfold foF fcF
   by_cases e:k=i*60+x
   ·have e1:¬ (k/60=x∧k%60≠x∧k%60<i+1):=by omega
    have e2:k%60=x∧k/60≠x∧k/60<i+1:=by omega
    rw [if_pos e,if_neg e1,if_pos e2]
   ·rw [if_neg e]
    by_cases e':k=x*60+i
    ·have e1:k/60=x∧k%60≠x∧k%60<i+1:=by omega
     rw [if_pos e',if_pos e1]
    ·have e1:(k/60=x∧k%60≠x∧k%60<i)↔(k/60=x∧k%60≠x∧k%60<i+1):=by omega
     have e2:(k%60=x∧k/60≠x∧k/60<i)↔(k%60=x∧k/60≠x∧k/60<i+1):=by omega
     rw [if_neg e']
     simp only [e1,e2]
theorem zyV {f:Nat→Int} {x z s cp n0:Nat} {g:Nat→Option SObj} (st:St) (hI:FoI f x z s cp n0 g 60 st) :
  ∃ o st',o ≠ .normal∧zab foB (Eo O) ih ⟨145,47,.normal,none⟩ st=.ok (o,st')∧(o=.exit 2∧FoI f x z s cp n0 g 60 st'):=by
 obtain ⟨tm,h,dd⟩:=st
 obtain ⟨hd,t5,t7,t17,t18,t19,t29,hN,hnx,keep⟩:=hI
 simp only at hd t5 t7 t17 t18 t19 t29 hN hnx keep
 subst hd
 have hsum:=trivial
 have hk':decide (Int.ofNat 60<60)=false:=rfl
 generalize hr:zab foB (Eo O) ih ⟨145,47,.normal,none⟩ ⟨tm,h,[]⟩=r
 unfold foB foO at hr
 simp only [SSb,Tryz.f145,cF,Option.getD,cA,cB,cI,zab,zac,zao,zak,zau,zal,lim,Nat.reduceLT,Nat.reduceEqDiff,and_true,if_true,if_false,reduceIte,false_and,true_and,Nat.beq,cond_true,cond_false,zad,zae,zaf,zar,zap,zat,Option.bind_some,zam zaA,zaj,List.getElem?_toArray,List.getElem?_cons_succ,List.getElem?_cons_zero,List.drop_succ_cons,List.drop_zero,zah,zas,Bool.and_self,Bool.true_and,hsum,t29,hk'] at hr
 subst hr
 refine ⟨_,_,by simp,rfl,rfl,rfl,?_,?_,?_,?_,?_,?_,hN,hnx,keep⟩<;>simp [zaa,lim,t5,t7,t17,t18,t19,t29]
structure FoJ (f:Nat→Int) (x z s cp n0:Nat) (g:Nat→Option SObj) (j:Nat) (st:St):Prop where
 ds:st.defers=[]
 t5:st.tm.get 5=some (.pointer (some ⟨z,0,none⟩))
 t17:st.tm.get 17=some (.slice (some ⟨s,0,none⟩) 1 cp)
 t18:st.tm.get 18=some (.int .i64 (.ofNat 1))
 t19:st.tm.get 19=some (.int .i64 (.ofNat j))
 N:Zon st.h z (foF f x (j*60))
 next:st.h.next=n0
 keep:∀ e,e<z→st.h.t.get e=g e
theorem zJk {f:Nat→Int} {x z s cp n0:Nat} {g:Nat→Option SObj} (hx:x<60) (hx1:1≤x) (hn0:n0≤lim) (hs:s<z) (hO:∀ h:SHeap,(∀ e,e<z→h.t.get e=g e)→One h s (.ofNat x)) (j:Nat) (hj:j<1) (st:St) (hI:FoJ f x z s cp n0 g j st) :
  ∃ st',zab foO (Eo O) ih ⟨145,47,.normal,none⟩ st=.ok (.normal,st')∧FoJ f x z s cp n0 g (j+1) st':=by
 obtain rfl:j=0:=by omega
 obtain ⟨tm,h,dd⟩:=st
 obtain ⟨hd,t5,t17,t18,t19,hN,hnx,keep⟩:=hI
 simp only at hd t5 t17 t18 t19 hN hnx keep
 subst hd
 have hsum:=trivial
 have hk':decide (Int.ofNat 0<Int.ofNat 1)=true:=rfl
 have hk2:zaK .i64 (Int.ofNat 0+1)=.ofNat 1:=rfl
 have c1:decide (Int.ofNat x<1)=false:=by simp; omega
 have c2:decide (Int.ofNat x≥60)=false:=by simp; omega
 have ld:=(hO h keep).ld (O:=O)
 generalize hr:zab foO (Eo O) ih ⟨145,47,.normal,none⟩ ⟨tm,h,[]⟩=r
 obtain ⟨tmk,hk⟩:∃ tmk,tmk=((((((((((tm.put 20 (some (.bool true))).put 21 (some (.pointer (some ⟨s,0,none⟩)))).put 22 (some (.int .i64 (.ofNat x)))).put 7 (some (.int .i64 (.ofNat x)))).put 23 (some (.int .i64 (.ofNat x)))).put 24 (some (.bool false))).put 25 (some (.bool false))).put 26 (some (.int .i64 (.ofNat x)))).put 27 (some (.bool false))).put 28 (some (.bool false))).put 29 (some (.int .i64 0)):=⟨_,rfl⟩
 have hin:FoI f x z s cp n0 g 0 ⟨tmk,h,[]⟩:=by
  subst hk
  refine ⟨rfl,?_,?_,?_,?_,?_,?_,hN.cg fun k hk=>by rw [Nat.zero_mul],hnx,keep⟩<;>simp [zaa,lim,t5,t17,t18,t19]
 obtain ⟨o,⟨tm',h',dd'⟩,e0,e1,e2,e3⟩:=zcS (f:=zab foB (Eo O) ih ⟨145,47,.normal,none⟩) (I:=fun i st=>FoI f x z s cp n0 g i st) (N:=60)
  (P:=fun o st=>o=.exit 2∧FoI f x z s cp n0 g 60 st)
  (fun i st hi hI=>.inl (zLW hx hn0 i hi st hI)) (fun st hI=>zyV st hI) 60 1000000 0 _ (by omega) (by omega) hin
 subst e2
 obtain ⟨hd,r5,r7,r17,r18,r19,r29,rN,rnx,rkeep⟩:=e3
 simp only at hd r5 r7 r17 r18 r19 r29 rN rnx rkeep
 subst hd
 unfold foB foO at e1
 simp only [Tryz.f145,cF,Option.getD,cA,cB,cI,zab] at e1
 subst hk
 unfold foO at hr
 simp only [SSb,Tryz.f145,cF,Option.getD,cA,cB,cI,zab,zac,zao,zak,zau,zal,lim,Nat.reduceLT,Nat.reduceEqDiff,and_true,if_true,if_false,reduceIte,false_and,true_and,Nat.beq,cond_true,cond_false,zad,zae,zaf,zar,zap,zat,Option.bind_some,zam zaA,zaj,List.getElem?_toArray,List.getElem?_cons_succ,List.getElem?_cons_zero,List.drop_succ_cons,List.drop_zero,zah,zas,Bool.and_self,Bool.true_and,hsum,t5,t17,t18,t19,hk',hk2,c1,c2,zMG,ld,e1,r19] at hr
 subst hr
 refine ⟨_,rfl,rfl,?_,?_,?_,?_,rN.cg fun k hk=>by rw [show (0+1)*60=60 by omega],rnx,rkeep⟩
 ·simp [zaa,lim,r5]
 ·simp [zaa,lim,r17]
 ·simp [zaa,lim,r18]
 ·simp [zaa,lim]
theorem zwP {f:Nat→Int} {x z s cp n0:Nat} {g:Nat→Option SObj} (st:St) (hI:FoJ f x z s cp n0 g 1 st) :
  ∃ o st',o ≠ .normal∧zab foO (Eo O) ih ⟨145,47,.normal,none⟩ st=.ok (o,st')∧(o=.exit 0∧FoJ f x z s cp n0 g 1 st'):=by
 obtain ⟨tm,h,dd⟩:=st
 obtain ⟨hd,t5,t17,t18,t19,hN,hnx,keep⟩:=hI
 simp only at hd t5 t17 t18 t19 hN hnx keep
 subst hd
 have hsum:=trivial
 have hk':decide (Int.ofNat 1<Int.ofNat 1)=false:=rfl
 generalize hr:zab foO (Eo O) ih ⟨145,47,.normal,none⟩ ⟨tm,h,[]⟩=r
 unfold foO at hr
 simp only [SSb,Tryz.f145,cF,Option.getD,cA,cB,cI,zab,zac,zao,zak,zau,zal,lim,Nat.reduceLT,Nat.reduceEqDiff,and_true,if_true,if_false,reduceIte,false_and,true_and,Nat.beq,cond_true,cond_false,zad,zae,zaf,zar,zap,zat,Option.bind_some,zam zaA,zaj,List.getElem?_toArray,List.getElem?_cons_succ,List.getElem?_cons_zero,List.drop_succ_cons,List.drop_zero,zah,zas,Bool.and_self,Bool.true_and,hsum,t18,t19,hk'] at hr
 subst hr
 refine ⟨_,_,by simp,rfl,rfl,rfl,?_,?_,?_,?_,hN,hnx,keep⟩<;>simp [zaa,lim,t5,t17,t18,t19]
theorem zwp {n:Nat} (hO:O 145=none) {f:Nat→Int} {x b s cp:Nat} {h:SHeap} (hx:x<60) (hx1:1≤x) (hb:b<h.next) (hs:s<h.next) (hz:Zon h b f) (h1:One h s (.ofNat x)) (hn:h.next+1≤lim) :
  ∃ h',run (Eo O) (n+1) (.call 145 #[.pointer (some ⟨b,0,none⟩),.slice (some ⟨s,0,none⟩) 1 cp] .normal) h=.ok (.pointer (some ⟨h.next,0,none⟩),h')∧Zon h' h.next (foF f x 60)∧h'.next=h.next+1∧∀ e,e<h.next→h'.t.get e=h.t.get e:=by
 suffices hcc:∃ tm' h',zab (cF Tryz.f145) (Eo O) (run (Eo O) n) ⟨145,47,.normal,none⟩ ⟨Tr.ofL 33 [.pointer (some ⟨b,0,none⟩),.slice (some ⟨s,0,none⟩) 1 cp],h,[]⟩=.ok (.ret,⟨tm',h',[]⟩)∧tm'.get 4=some (.pointer (some ⟨h.next,0,none⟩))∧Zon h' h.next (foF f x 60)∧h'.next=h.next+1∧∀ e,e<h.next→h'.t.get e=h.t.get e by
  obtain ⟨tm',h',k1,k2,k3⟩:=hcc
  exact ⟨h',(zby (show (Eo O).O 145=none from hO)).trans (zaY (vs:=[_]) zCZ zvN zDo rfl zya k1 (by simp only [zaQ,k2,zcM])),k3⟩
 generalize hr:zab (cF Tryz.f145) (Eo O) (run (Eo O) n) ⟨145,47,.normal,none⟩ ⟨Tr.ofL 33 [.pointer (some ⟨b,0,none⟩),.slice (some ⟨s,0,none⟩) 1 cp],h,[]⟩=r
 have t0:(Tr.ofL 33 [Value.pointer (some ⟨b,0,none⟩),.slice (some ⟨s,0,none⟩) 1 cp]).get 0=some (.pointer (some ⟨b,0,none⟩)):=rfl
 have t1:(Tr.ofL 33 [Value.pointer (some ⟨b,0,none⟩),.slice (some ⟨s,0,none⟩) 1 cp]).get 1=some (.slice (some ⟨s,0,none⟩) 1 cp):=rfl
 generalize Tr.ofL 33 [Value.pointer (some ⟨b,0,none⟩),.slice (some ⟨s,0,none⟩) 1 cp]=tm at hr t0 t1
 have hsum:=trivial
 obtain ⟨hh,s1,z1,nx1,o1⟩:=zst (O:=O) (h:=h) (by omega) f
 have dead:=hz.dead (O:=O)
 have whole:=hz.whole (O:=O)
 obtain ⟨big,hbig⟩:∃ big,big=Value.agg (.bool false::zbc f 3600).toArray:=⟨_,rfl⟩
 rw [← hbig] at whole s1
 obtain ⟨nc,hnc⟩:∃ nc,nc=zai h 289 (.bool false::List.replicate 3600 (.int .i64 0)) false:=⟨_,rfl⟩
 have alc:=zmv (O:=O) (h:=h)
 rw [← hnc] at alc s1
 obtain ⟨tmk,hk⟩:∃ tmk,tmk=((((((((((((tm.put 4 (some (.pointer none))).put 9 (some (.pointer (some ⟨b,0,none⟩)))).put 10 (some (.pointer (some ⟨b,0,none⟩)))).put 11 (some (.pointer (some ⟨b,0+0,none⟩)))).put 12 (some (.bool false))).put 14 (some (.pointer (some ⟨b,0,none⟩)))).put 15 (some (.pointer (some ⟨b,0,none⟩)))).put 16 (some big)).put 5 (some (.pointer (some ⟨h.next,0,none⟩)))).put 17 (some (.slice (some ⟨s,0,none⟩) 1 cp))).put 18 (some (.int .i64 (.ofNat 1)))).put 19 (some (.int .i64 0))):=⟨_,rfl⟩
 have hin:FoJ f x h.next s cp (h.next+1) h.t.get 0 ⟨tmk,hh,[]⟩:=by
  subst hk
  refine ⟨rfl,?_,?_,?_,?_,z1.cg fun k hk => ?_,nx1,fun e he=>o1 e (by omega)⟩
  ·simp [zaa,lim]
  ·simp [zaa,lim]
  ·simp [zaa,lim]
  ·simp [zaa,lim]
  ·simp [foF,fcF]
 obtain ⟨o,⟨tm',h',dd'⟩,e0,e1,e2,e3⟩:=zcS (f:=zab foO (Eo O) (run (Eo O) n) ⟨145,47,.normal,none⟩) (I:=fun j st=>FoJ f x h.next s cp (h.next+1) h.t.get j st) (N:=1)
  (P:=fun o st=>o=.exit 0∧FoJ f x h.next s cp (h.next+1) h.t.get 1 st)
  (fun j st hj hI=>.inl (zJk hx hx1 hn hs (fun h2 k=>h1.to (k s hs)) j hj st hI)) (fun st hI=>zwP st hI) 1 1000000 0 _ (by omega) (by omega) hin
 subst e2
 obtain ⟨hd,r5,r17,r18,r19,rN,rnx,rkeep⟩:=e3
 simp only at hd r5 r17 r18 r19 rN rnx rkeep
 subst hd
 unfold foO at e1
 simp only [Tryz.f145,cF,Option.getD,cA,cB,cI,zab] at e1
 subst hk
 simp only [SSb,Tryz.f145,cF,Option.getD,cA,cB,cI,zab,zac,zao,zak,zau,zal,lim,Nat.reduceLT,Nat.reduceEqDiff,and_true,if_true,if_false,reduceIte,false_and,true_and,Nat.beq,cond_true,cond_false,zad,zae,zaf,zar,zap,zat,Option.bind_some,zam zaA,zaj,List.getElem?_toArray,List.getElem?_cons_succ,List.getElem?_cons_zero,List.drop_succ_cons,List.drop_zero,zah,zas,Bool.and_self,Bool.true_and,hsum,zct,zec,zlg (E:=Eo O) E60,dead,whole,alc,s1,t0,t1,e1,r5] at hr
 subst hr
 refine ⟨_,_,rfl,?_,rN.cg fun j hj=>by rw [Nat.one_mul],rnx,rkeep⟩
 simp [zaa,lim]
end Go.Proofs.YtghhpeemloeljaaGreat

/- The simulator on zone.Assign. (Written by genass.py.) The simulator on tags.tag. (Written by gentag.py.) The simulator on shape.good. (Written by gengood.py.) The simulator on tags.valued. (Written by genval.py.) The simulator on zone.Forget of a list. (Written by genfor.py.) Quick forms of the oracles on tables. (Written by genfast.py.) -/
import Derived.Test.YtghhpeemloeljaaGreatPutB
import Derived.Test.YtghhpeemloeljaaGreatQA
set_option linter.unusedVariables false
set_option linter.unusedSimpArgs false
set_option linter.unusedSimpArgs false
set_option linter.unusedVariables false
namespace Go.Proofs.YtghhpeemloeljaaGreat
open Go Go.Sim
set_option maxRecDepth 100000
set_option maxHeartbeats 1000000
variable {O:OT} {ih:K}
theorem zEl {E:Env} {ev:Ev} {o:Oper} {x:Int} {h:SHeap}:zpV E ev o .neg (some (.int .i64 x)) h=.ok (.value (.int .i64 (zaK .i64 (0-x))),h):=(id rfl)
noncomputable def asA:Code:=cB (cB (cB (cF Tryz.f207)))
noncomputable def asO:Code:=cI (cI (cB (cA asA)))
noncomputable def zGY (n:Nat):Array Oper:=zev (zcb (cF Tryz.f207)) n
theorem plS:zdb (Eo O) (zGY 0).toList=some ⟨[⟨4,.pure,0⟩,⟨5,.pure,0⟩,⟨6,.pure,0⟩,⟨7,.pure,0⟩,⟨8,.pure,0⟩,⟨9,.pure,0⟩,⟨10,.pure,0⟩,⟨11,.read,0⟩,⟨12,.pure,0⟩,⟨13,.eff,0⟩,⟨14,.pure,0⟩,⟨15,.pure,0⟩,⟨16,.pure,0⟩,⟨17,.pure,0⟩,⟨18,.pure,0⟩,⟨19,.pure,0⟩,⟨20,.pure,0⟩,⟨21,.read,0⟩,⟨22,.pure,0⟩,⟨23,.pure,0⟩,⟨24,.eff,1⟩,⟨0,.pure,0⟩,⟨1,.pure,0⟩,⟨25,.pure,0⟩,⟨26,.pure,0⟩,⟨27,.pure,2⟩,⟨28,.eff,2⟩,⟨2,.pure,0⟩,⟨3,.pure,0⟩,⟨29,.pure,0⟩,⟨30,.pure,0⟩],31,0⟩:=by kernel_rfl
theorem zDC:Tryz.f207.body=some (cF Tryz.f207):=rfl
theorem zNm:(Eo O).F 207=some Tryz.f207:=by show Tab.funcs.get 207=_; kernel_rfl
theorem zNw {a b c d:Value}:max Tryz.f207.ntmps (#[a,b,c,d]:Array Value).size=75:=rfl
theorem zFN:Tryz.f207.results.toList=[.tmp 8,.tmp 9]:=rfl
abbrev asU (m:Nat→Int) (y:Nat) (v:Int):Nat→Int:=fun q=>zaM (m (y*60+q)) v
abbrev asD (m:Nat→Int) (y:Nat) (v:Int):Nat→Int:=fun q=>zaM (m (q*60+y)) (zaK .i64 (0-v))
abbrev asF (m:Nat→Int) (x y:Nat) (v:Int) (n:Nat):Nat→Int:=fcF m (asU m y v) (asD m y v) x n
structure AsT (z x y:Nat) (v:Int) (tm:Tr Value):Prop where
 t0:tm.get 0=some (.pointer (some ⟨z,0,none⟩))
 t1:tm.get 1=some (.int .i64 (.ofNat x))
 t2:tm.get 2=some (.int .i64 (.ofNat y))
 t3:tm.get 3=some (.int .i64 v)
structure AsO (z x y nn:Nat) (v:Int) (m:Nat→Int) (n0:Nat) (g:Nat→Option SObj) (p:Nat) (st:St):Prop where
 ds:st.defers=[]
 T:AsT z x y v st.tm
 t10:st.tm.get 10=some (.pointer (some ⟨nn,0,none⟩))
 t37:st.tm.get 37=some (.int .i64 (.ofNat p))
 Z:Zon st.h z m
 N:Zon st.h nn (asF m x y v p)
 next:st.h.next=n0
 keep:∀ e,e<nn→st.h.t.get e=g e
theorem zSm (hsum:∀ (a b:Int) (h:SHeap),ih (.call 263 #[.int .i64 a,.int .i64 b] .normal) h=.ok (.int .i64 (zaM a b),h)) {z x y nn:Nat} {v:Int} {m:Nat→Int} {n0:Nat} {g:Nat→Option SObj} (hzn:z≠nn) (hn0:n0≤lim) (hx:x<60) (hy:y<60)
  (p:Nat) (hp:p<60) (st:St) (hI:AsO z x y nn v m n0 g p st) :
  ∃ st',zab asO (Eo O) ih ⟨207,75,.normal,none⟩ st=.ok (.normal,st')∧AsO z x y nn v m n0 g (p+1) st':=by
 obtain ⟨tm,h,dd⟩:=st
 obtain ⟨hd,⟨t0,t1,t2,t3⟩,t10,t37,hZ,hN,hnx,keep⟩:=hI
 simp only at hd t0 t1 t2 t3 t10 t37 hZ hN hnx keep
 subst hd
 have hk':decide (Int.ofNat p<60)=true:=by simp; omega
 have hk2:zaK .i64 (Int.ofNat p+1)=.ofNat (p+1):=zbb (m:=p+1) (by omega)
 generalize hr:zab asO (Eo O) ih ⟨207,75,.normal,none⟩ ⟨tm,h,[]⟩=r
 unfold asO asA at hr
 by_cases hpx:p=x
 ·have c1:(Int.ofNat p != Int.ofNat x)=false:=by simp [hpx]
  simp only [SSb,Tryz.f207,cF,Option.getD,cA,cB,cI,zab,zac,zao,zak,zau,zal,lim,Nat.reduceLT,Nat.reduceEqDiff,and_true,if_true,if_false,reduceIte,false_and,true_and,Nat.beq,cond_true,cond_false,zad,zae,zaf,zar,zap,zat,Option.bind_some,zam zaA,zaj,List.getElem?_toArray,List.getElem?_cons_succ,List.getElem?_cons_zero,List.drop_succ_cons,List.drop_zero,zah,zas,Bool.and_self,Bool.true_and,hsum,t0,t1,t2,t3,t10,t37,hk',hk2,c1] at hr
  subst hr
  refine ⟨_,rfl,rfl,⟨?_,?_,?_,?_⟩,?_,?_,hZ,hN.cg fun k _ => ?_,hnx,keep⟩
  ·simp [zaa,lim,t0]
  ·simp [zaa,lim,t1]
  ·simp [zaa,lim,t2]
  ·simp [zaa,lim,t3]
  ·simp [zaa,lim,t10]
  ·simp [zaa,lim]
  ·unfold asF fcF
   have e1:(k/60=x∧k%60≠x∧k%60<p)↔(k/60=x∧k%60≠x∧k%60<p+1):=by omega
   have e2:(k%60=x∧k/60≠x∧k/60<p)↔(k%60=x∧k/60≠x∧k/60<p+1):=by omega
   simp only [e1,e2]
 ·have c1:(Int.ofNat p != Int.ofNat x)=true:=by simp; omega
  have pl:=plS (O:=O)
  unfold zGY at pl
  simp only [Tryz.f207,cF,Option.getD,zcb,zev,List.nil_append,List.append_nil,List.cons_append] at pl
  have hnl':h.next≤lim:=by rw [hnx]; exact hn0
  have hnl0:Nat.ble h.next 4294967296=true:=by rw [Nat.ble_eq]; exact hnl'
  obtain ⟨h1,s1,N1,nx1,o1⟩:=hN.st (O:=O) hx hp (zaM (m (y*60+p)) v)
  obtain ⟨h2,s2,N2,nx2,o2⟩:=N1.st (O:=O) hp hx (zaM (m (p*60+y)) (zaK .i64 (0-v)))
  have hnl1:Nat.ble h1.next 4294967296=true:=by rw [Nat.ble_eq,nx1]; exact hnl'
  simp only [SSb,Tryz.f207,cF,Option.getD,cA,cB,cI,zab,zac,zao,zak,zau,zal,lim,Nat.reduceLT,Nat.reduceEqDiff,and_true,if_true,if_false,reduceIte,false_and,true_and,Nat.beq,cond_true,cond_false,zad,zae,zaf,zar,zap,zat,Option.bind_some,zam zaA,zaj,List.getElem?_toArray,List.getElem?_cons_succ,List.getElem?_cons_zero,List.drop_succ_cons,List.drop_zero,zah,zas,Bool.and_self,Bool.true_and,hsum,dUn,zEl,t0,t1,t2,t3,t10,t37,hk',hk2,c1,zcV hx,zde hp,zcV hp,zde hx,zcV hy,zde hy,hZ.ld hy hp,hZ.ld hp hy,s1,s2,zbX pl hnl',hnl0,hnl1] at hr
  subst hr
  refine ⟨_,rfl,rfl,⟨?_,?_,?_,?_⟩,?_,?_,(hZ.to (o1 _ hzn)).to (o2 _ hzn),N2.cg fun k hk => ?_,nx2.trans (nx1.trans hnx),fun e he=>(o2 _ (by omega)).trans ((o1 _ (by omega)).trans (keep e he))⟩
  ·simp [zaa,lim,t0]
  ·simp [zaa,lim,t1]
  ·simp [zaa,lim,t2]
  ·simp [zaa,lim,t3]
  ·simp [zaa,lim,t10]
  ·simp [zaa,lim]
  ·simp only [zes]
   unfold asF fcF
   by_cases e:k=p*60+x
   ·have e1:¬ (k/60=x∧k%60≠x∧k%60<p+1):=by omega
    have e2:k%60=x∧k/60≠x∧k/60<p+1:=by omega
    rw [if_pos e,if_neg e1,if_pos e2,show k/60=p by omega]
   ·rw [if_neg e]
    by_cases e':k=x*60+p
    ·have e1:k/60=x∧k%60≠x∧k%60<p+1:=by omega
     rw [if_pos e',if_pos e1,show k%60=p by omega]
    ·have e1:(k/60=x∧k%60≠x∧k%60<p)↔(k/60=x∧k%60≠x∧k%60<p+1):=by omega
     have e2:(k%60=x∧k/60≠x∧k/60<p)↔(k%60=x∧k/60≠x∧k/60<p+1):=by omega
     rw [if_neg e']
     simp only [e1,e2]
theorem zAL {z x y nn:Nat} {v:Int} {m:Nat→Int} {n0:Nat} {g:Nat→Option SObj} (st:St) (hI:AsO z x y nn v m n0 g 60 st) :
  ∃ o st',o ≠ .normal∧zab asO (Eo O) ih ⟨207,75,.normal,none⟩ st=.ok (o,st')∧(o=.exit 1∧AsO z x y nn v m n0 g 60 st'):=by
 obtain ⟨tm,h,dd⟩:=st
 obtain ⟨hd,⟨t0,t1,t2,t3⟩,t10,t37,hZ,hN,hnx,keep⟩:=hI
 simp only at hd t0 t1 t2 t3 t10 t37 hZ hN hnx keep
 subst hd
 have hk':decide (Int.ofNat 60<60)=false:=rfl
 have hsum:=trivial
 generalize hr:zab asO (Eo O) ih ⟨207,75,.normal,none⟩ ⟨tm,h,[]⟩=r
 unfold asO asA at hr
 simp only [SSb,Tryz.f207,cF,Option.getD,cA,cB,cI,zab,zac,zao,zak,zau,zal,lim,Nat.reduceLT,Nat.reduceEqDiff,and_true,if_true,if_false,reduceIte,false_and,true_and,Nat.beq,cond_true,cond_false,zad,zae,zaf,zar,zap,zat,Option.bind_some,zam zaA,zaj,List.getElem?_toArray,List.getElem?_cons_succ,List.getElem?_cons_zero,List.drop_succ_cons,List.drop_zero,zah,zas,Bool.and_self,Bool.true_and,hsum,t37,hk'] at hr
 subst hr
 refine ⟨_,_,by simp,rfl,rfl,rfl,⟨?_,?_,?_,?_⟩,?_,?_,hZ,hN,hnx,keep⟩<;>simp [zaa,lim,t0,t1,t2,t3,t10,t37]
theorem zCH:cF Tryz.f207=.seq (cA (cF Tryz.f207)) (.seq (cA (cB (cF Tryz.f207))) (.seq (cA (cB (cB (cF Tryz.f207)))) (.seq (cA asA) (cB asA)))):=rfl
theorem zVF {z x y:Nat} {v:Int} {tm:Tr Value} {h:SHeap} (k:AsT z x y v tm):∃ tm',zab (cA (cF Tryz.f207)) (Eo O) ih ⟨207,75,.normal,none⟩ ⟨tm,h,[]⟩=.ok (.normal,⟨tm',h,[]⟩)∧AsT z x y v tm':=by
 obtain ⟨t0,t1,t2,t3⟩:=k
 generalize hr:zab (cA (cF Tryz.f207)) (Eo O) ih ⟨207,75,.normal,none⟩ ⟨tm,h,[]⟩=r
 have hsum:=trivial
 simp only [SSb,Tryz.f207,cF,Option.getD,cA,cB,cI,zab,zac,zao,zak,zau,zal,lim,Nat.reduceLT,Nat.reduceEqDiff,and_true,if_true,if_false,reduceIte,false_and,true_and,Nat.beq,cond_true,cond_false,zad,zae,zaf,zar,zap,zat,Option.bind_some,zam zaA,zaj,List.getElem?_toArray,List.getElem?_cons_succ,List.getElem?_cons_zero,List.drop_succ_cons,List.drop_zero,zah,zas,Bool.and_self,Bool.true_and,hsum,zec,t0,t1] at hr
 subst hr
 exact ⟨_,rfl,by simp [zaa,lim,t0],by simp [zaa,lim,t1],by simp [zaa,lim,t2],by simp [zaa,lim,t3]⟩
theorem zWp {z x y:Nat} {v:Int} (hv:∀ (h:SHeap),ih (.call 165 #[.int .i64 (.ofNat y)] .normal) h=.ok (.bool true,h)) (hb:∀ (h:SHeap),ih (.call 261 #[.int .i64 v] .normal) h=.ok (.bool true,h)) {m:Nat→Int} {tm:Tr Value} {h:SHeap} (hx:x<60) (hx1:1≤x) (k:AsT z x y v tm) (hZ:Zon h z m):∃ tm',zab (cA (cB (cF Tryz.f207))) (Eo O) ih ⟨207,75,.normal,none⟩ ⟨tm,h,[]⟩=.ok (.normal,⟨tm',h,[]⟩)∧AsT z x y v tm':=by
 obtain ⟨t0,t1,t2,t3⟩:=k
 generalize hr:zab (cA (cB (cF Tryz.f207))) (Eo O) ih ⟨207,75,.normal,none⟩ ⟨tm,h,[]⟩=r
 have hsum:=trivial
 have c1:decide (Int.ofNat x<1)=false:=by simp; omega
 have c2:decide (Int.ofNat x≥60)=false:=by simp; omega
 simp only [SSb,Tryz.f207,cF,Option.getD,cA,cB,cI,zab,zac,zao,zak,zau,zal,lim,Nat.reduceLT,Nat.reduceEqDiff,and_true,if_true,if_false,reduceIte,false_and,true_and,Nat.beq,cond_true,cond_false,zad,zae,zaf,zar,zap,zat,Option.bind_some,zam zaA,zaj,List.getElem?_toArray,List.getElem?_cons_succ,List.getElem?_cons_zero,List.drop_succ_cons,List.drop_zero,zah,zas,Bool.and_self,Bool.true_and,hsum,dUn,zdQ,zbn,zam zwd,zam zsh,hv,hb,hZ.dead,t0,t1,t2,t3,c1,c2] at hr
 subst hr
 exact ⟨_,rfl,by simp [zaa,lim,t0],by simp [zaa,lim,t1],by simp [zaa,lim,t2],by simp [zaa,lim,t3]⟩
theorem zUm {z x y:Nat} {v:Int} {m:Nat→Int} {tm:Tr Value} {h:SHeap} (k:AsT z x y v tm) (hZ:Zon h z m) (hn:h.next<lim):∃ tm' h',zab (cA (cB (cB (cF Tryz.f207)))) (Eo O) ih ⟨207,75,.normal,none⟩ ⟨tm,h,[]⟩=.ok (.normal,⟨tm',h',[]⟩)∧AsT z x y v tm' ∧
  tm'.get 10=some (.pointer (some ⟨h.next,0,none⟩))∧Zon h' h.next m∧h'.next=h.next+1∧∀ d,d≠h.next→h'.t.get d=h.t.get d:=by
 obtain ⟨t0,t1,t2,t3⟩:=k
 obtain ⟨h1,s1,z1,nx1,o1⟩:=zst (O:=O) hn m
 generalize hr:zab (cA (cB (cB (cF Tryz.f207)))) (Eo O) ih ⟨207,75,.normal,none⟩ ⟨tm,h,[]⟩=r
 have hsum:=trivial
 obtain ⟨big,hbig⟩:∃ big,big=Value.agg (.bool false::zbc m 3600).toArray:=⟨_,rfl⟩
 have hw:=hZ.whole (O:=O)
 rw [← hbig] at hw s1
 simp only [SSb,Tryz.f207,cF,Option.getD,cA,cB,cI,zab,zac,zao,zak,zau,zal,lim,Nat.reduceLT,Nat.reduceEqDiff,and_true,if_true,if_false,reduceIte,false_and,true_and,Nat.beq,cond_true,cond_false,zad,zae,zaf,zar,zap,zat,Option.bind_some,zam zaA,zaj,List.getElem?_toArray,List.getElem?_cons_succ,List.getElem?_cons_zero,List.drop_succ_cons,List.drop_zero,zah,zas,Bool.and_self,Bool.true_and,hsum,zct,zmv,hw,s1,t0,t1] at hr
 subst hr
 exact ⟨_,h1,rfl,⟨by simp [zaa,lim,t0],by simp [zaa,lim,t1],by simp [zaa,lim,t2],by simp [zaa,lim,t3]⟩,by simp [zaa,lim],z1,nx1,o1⟩
theorem zSr (hsum:∀ (a b:Int) (h:SHeap),ih (.call 263 #[.int .i64 a,.int .i64 b] .normal) h=.ok (.int .i64 (zaM a b),h)) {z x y nn:Nat} {v:Int} {m:Nat→Int} {tm:Tr Value} {h:SHeap} (k:AsT z x y v tm)
  (t10:tm.get 10=some (.pointer (some ⟨nn,0,none⟩))) (hZ:Zon h z m) (hN:Zon h nn m) (hzn:z≠nn) (hn:h.next≤lim) (hx:x<60) (hy:y<60) :
  ∃ tm' h',zab (cA asA) (Eo O) ih ⟨207,75,.normal,none⟩ ⟨tm,h,[]⟩=.ok (.normal,⟨tm',h',[]⟩)∧tm'.get 10=some (.pointer (some ⟨nn,0,none⟩))∧Zon h' nn (asF m x y v 60)∧h'.next=h.next∧∀ e,e<nn→h'.t.get e=h.t.get e:=by
 obtain ⟨t0,t1,t2,t3⟩:=k
 have hin:AsO z x y nn v m h.next h.t.get 0 ⟨tm.put 37 (some (.int .i64 0)),h,[]⟩:=by
  refine ⟨rfl,⟨?_,?_,?_,?_⟩,?_,?_,hZ,hN.cg fun k _=>by simp [asF,fcF],rfl,fun _ _=>rfl⟩<;>simp [zaa,lim,t0,t1,t2,t3,t10]
 obtain ⟨o,⟨tm',h',dd'⟩,e0,e1,e2,e3⟩:=zcS (f:=zab asO (Eo O) ih ⟨207,75,.normal,none⟩) (I:=fun p st=>AsO z x y nn v m h.next h.t.get p st) (N:=60)
  (P:=fun o st=>o=.exit 1∧AsO z x y nn v m h.next h.t.get 60 st)
  (fun p st hp hI=>.inl (zSm hsum hzn hn hx hy p hp st hI)) (fun st hI=>zAL st hI) 60 1000000 0 _ (by omega) (by omega) hin
 subst e2
 obtain ⟨rd,_,r10,r37,rZ,rN,rnx,rkeep⟩:=e3
 simp only at rd r10 r37 rZ rN rnx rkeep
 subst rd
 unfold asO asA at e1
 simp only [Tryz.f207,cF,Option.getD,cA,cB,cI,zab] at e1
 generalize hr:zab (cA asA) (Eo O) ih ⟨207,75,.normal,none⟩ ⟨tm,h,[]⟩=r
 unfold asA at hr
 simp only [SSb,Tryz.f207,cF,Option.getD,cA,cB,cI,zab,zac,zao,zak,zau,zal,lim,Nat.reduceLT,Nat.reduceEqDiff,and_true,if_true,if_false,reduceIte,false_and,true_and,Nat.beq,cond_true,cond_false,zad,zae,zaf,zar,zap,zat,Option.bind_some,zam zaA,zaj,List.getElem?_toArray,List.getElem?_cons_succ,List.getElem?_cons_zero,List.drop_succ_cons,List.drop_zero,zah,zas,Bool.and_self,Bool.true_and,hsum,e1] at hr
 subst hr
 exact ⟨tm',h',rfl,r10,rN,rnx,rkeep⟩
theorem zYb {tm:Tr Value} {h:SHeap} {nn:Nat} (t10:tm.get 10=some (.pointer (some ⟨nn,0,none⟩))):∃ tm',zab (cB asA) (Eo O) ih ⟨207,75,.normal,none⟩ ⟨tm,h,[]⟩=.ok (.ret,⟨tm',h,[]⟩)∧tm'.get 8=some (.pointer (some ⟨nn,0,none⟩))∧tm'.get 9=some (.int .i64 0):=by
 generalize hr:zab (cB asA) (Eo O) ih ⟨207,75,.normal,none⟩ ⟨tm,h,[]⟩=r
 have hsum:=trivial
 unfold asA at hr
 simp only [SSb,Tryz.f207,cF,Option.getD,cA,cB,cI,zab,zac,zao,zak,zau,zal,lim,Nat.reduceLT,Nat.reduceEqDiff,and_true,if_true,if_false,reduceIte,false_and,true_and,Nat.beq,cond_true,cond_false,zad,zae,zaf,zar,zap,zat,Option.bind_some,zam zaA,zaj,List.getElem?_toArray,List.getElem?_cons_succ,List.getElem?_cons_zero,List.drop_succ_cons,List.drop_zero,zah,zas,Bool.and_self,Bool.true_and,hsum,t10] at hr
 subst hr
 exact ⟨_,rfl,by simp [zaa,lim],by simp [zaa,lim]⟩
theorem zEH {n:Nat} (hO:O 207=none) (hO2:O 165=none) (hO3:O 261=none) (hsum:∀ (a b:Int) (h:SHeap),run (Eo O) (n+1) (.call 263 #[.int .i64 a,.int .i64 b] .normal) h=.ok (.int .i64 (zaM a b),h)) {z x y:Nat} {v:Int} {m:Nat→Int} {h:SHeap}
  (hZ:Zon h z m) (hzl:z<h.next) (hn:h.next+1≤lim) (hx:x<60) (hx1:1≤x) (hy:y<60) (b1 : -1152921504606846976≤v) (b2:v≤1152921504606846976) :
  ∃ h2,run (Eo O) (n+2) (.call 207 #[.pointer (some ⟨z,0,none⟩),.int .i64 (.ofNat x),.int .i64 (.ofNat y),.int .i64 v] .normal) h=.ok (.tuple #[.pointer (some ⟨h.next,0,none⟩),.int .i64 0],h2)∧Zon h2 h.next (asF m x y v 60)∧h2.next=h.next+1∧∀ e,e<h.next→h2.t.get e=h.t.get e:=by
 suffices hc:∃ tm' h',zab (cF Tryz.f207) (Eo O) (run (Eo O) (n+1)) ⟨207,75,.normal,none⟩ ⟨Tr.ofL 33 [.pointer (some ⟨z,0,none⟩),.int .i64 (.ofNat x),.int .i64 (.ofNat y),.int .i64 v],h,[]⟩=.ok (.ret,⟨tm',h',[]⟩) ∧
   (tm'.get 8=some (.pointer (some ⟨h.next,0,none⟩))∧tm'.get 9=some (.int .i64 0))∧Zon h' h.next (asF m x y v 60)∧h'.next=h.next+1∧∀ e,e<h.next→h'.t.get e=h.t.get e by
  obtain ⟨tm',h',k1,k2,k3⟩:=hc
  exact ⟨h',(zby (show (Eo O).O 207=none from hO)).trans (zaY (vs:=[_,_]) zNm zDC zNw rfl zFN k1 (by simp only [zaQ,k2.1,k2.2,zcM])),k3⟩
 have k0:AsT z x y v (Tr.ofL 33 [.pointer (some ⟨z,0,none⟩),.int .i64 (.ofNat x),.int .i64 (.ofNat y),.int .i64 v]):=⟨rfl,rfl,rfl,rfl⟩
 generalize Tr.ofL 33 [Value.pointer (some ⟨z,0,none⟩),.int .i64 (.ofNat x),.int .i64 (.ofNat y),.int .i64 v]=tm at k0
 have hv:=fun h=>zqR (O:=O) (n:=n) hO2 y hy h
 have hb:=fun h=>zjw (O:=O) (n:=n) hO3 v h b1 b2
 generalize run (Eo O) (n+1)=ih at hsum hv hb ⊢
 obtain ⟨tm1,a1,k1⟩:=zVF (O:=O) (ih:=ih) (h:=h) k0
 obtain ⟨tm2,a2,k2⟩:=zWp (O:=O) (ih:=ih) hv hb hx hx1 k1 hZ
 obtain ⟨tm3,H3,a3,k3,t10,z3,nx3,kp3⟩:=zUm (O:=O) (ih:=ih) k2 hZ (by omega)
 obtain ⟨tm4,H4,a4,t4,z4,nx4,kp4⟩:=zSr (O:=O) hsum k3 t10 (hZ.to (kp3 z (by omega))) z3 (by omega) (by omega) hx hy
 obtain ⟨tm5,a5,t5⟩:=zYb (O:=O) (ih:=ih) (h:=H4) t4
 refine ⟨tm5,H4,?_,t5,z4,by omega,fun e he=>(kp4 e he).trans (kp3 e (by omega))⟩
 rw [zCH]
 simp only [zjv,a1,a2,a3,a4,a5,zaC]
theorem zvJ {c:Tr Value} {x y:Nat} {v:Int} {k:Nat} (hk:k<3600):zus c x y v (zaK .i64 (0-v)) k=asF (fun k=>fv c (1+k)) x y v 60 k:=by
 unfold zus asF fcF
 by_cases e1:k/60=x
 ·rw [zfF e1,cond_true]
  by_cases e2:k%60=x
  ·rw [zfF e2,cond_true,if_neg (by omega),if_neg (by omega)]
  ·rw [zfq e2,cond_false,if_pos (by omega)]
 ·rw [zfq e1,cond_false,if_neg (by omega)]
  by_cases e2:k%60=x
  ·rw [zfF e2,cond_true,if_pos (by omega)]
  ·rw [zfq e2,cond_false,if_neg (by omega)]
theorem zyp (KE:EnvOK (Eo O)) (hdraw:zcp (Eo O)) (hOK:∀ f g,(Eo O).O f=some g→zaz (Eo O) f g) (hO:O 207=none) (hO2:O 165=none) (hO3:O 261=none) (hO1:O 263=none):zaz (Eo O) 207 (zxt 289):=
 zcJ (zdc KE hdraw hOK 2) fun args h w h' hlow hok=>by
  obtain ⟨l⟩:=args
  unfold zxt at hok
  split at hok
  ·rename_i z x y v e
   have e:l=[.pointer (some ⟨z,0,none⟩),.int .i64 (.ofNat x),.int .i64 (.ofNat y),.int .i64 v]:=e
   subst e
   unfold zAz at hok
   split at hok
   ·rename_i c nn e hz
    split at hok
    ·rename_i cs hcs
     cases e3:(zbu cs&&Nat.beq nn 3601&&Nat.beq e 289&&Nat.ble (h.next+1) lim&&Nat.blt x 60&&Nat.blt y 60&&Nat.ble 1 x&&inB v) with
     | false=>rw [e3] at hok; simp at hok
     | true=>
     rw [e3,cond_true,zbF,zav] at hok
     simp only [Bool.and_eq_true] at e3
     obtain ⟨⟨⟨⟨⟨⟨⟨f1,f2⟩,f3⟩,f4⟩,f5⟩,f6⟩,f7⟩,f8⟩:=e3
     obtain rfl:=Nat.eq_of_beq_eq_true f2
     obtain rfl:=Nat.eq_of_beq_eq_true f3
     have f4:=Nat.le_of_ble_eq_true f4
     have f5:=zaB f5
     have f6:=zaB f6
     have f7:=Nat.le_of_ble_eq_true f7
     unfold inB at f8
     simp only [Bool.and_eq_true,decide_eq_true_eq] at f8
     have hZ:=zkl hz hcs f1
     obtain ⟨r,hr⟩:∃ r,r=Tr.ofL 33 (Value.bool false::zbR (zus c x y v (zaK .i64 (0-v))) 3600 []):=⟨_,rfl⟩
     rw [← hr] at hok
     obtain ⟨rfl,rfl⟩:=zaq hok
     obtain ⟨h2,k1,⟨c',m1,m2,m3⟩,k3,k4⟩:=zEH (O:=O) (n:=0) hO hO2 hO3 (fun a b h=>zni (n:=0) hO1) hZ (hlow _ _ hz) f4 f5 f7 f6 f8.1 f8.2
     refine ⟨h2,k1,k3,fun q x' hq => ?_⟩
     simp only [zaa] at hq
     by_cases eq:q=h.next
     ·rw [if_pos ⟨eq,by omega⟩] at hq
      obtain rfl:=(Option.some.inj hq).symm
      refine ⟨_,by rw [eq]; exact m1,ObjLe.cells fun i y' hy => ?_⟩
      rw [hr] at hy
      have hlt:=zbU hy
      rw [zbv hlt] at hy
      cases i with
      | zero=>simp at hy; subst hy; exact m2
      | succ i=>
       rw [List.getElem?_cons_succ,zeh,List.append_nil] at hy
       have hi:i<3600:=by
        rcases Nat.lt_or_ge i 3600 with w | w
        ·exact w
        ·rw [List.getElem?_eq_none (by rw [zdd]; exact w)] at hy; cases hy
       rw [zdf hi] at hy
       rw [← hy,show i+1=1+i by omega,m3 i hi,zvJ hi]
     ·rw [if_neg (fun w=>eq w.1)] at hq
      exact ⟨x',by rw [k4 q (hlow q x' hq)]; exact hq,ObjLe.refl x'⟩
    ·simp at hok
   ·simp at hok
  ·simp at hok
end Go.Proofs.YtghhpeemloeljaaGreat
set_option linter.unusedSimpArgs false
set_option linter.unusedVariables false
namespace Go.Proofs.YtghhpeemloeljaaGreat
open Go Go.Sim
set_option maxRecDepth 100000
set_option maxHeartbeats 1000000
variable {O:OT} {ih:K}
theorem zvu:Tryz.f151.body=some (cF Tryz.f151):=rfl
theorem zDg:(Eo O).F 151=some Tryz.f151:=by show Tab.funcs.get 151=_; kernel_rfl
theorem zDp {a b:Value}:max Tryz.f151.ntmps (#[a,b]:Array Value).size=30:=rfl
theorem zyO:Tryz.f151.results.toList=[.cell 4 148]:=rfl
theorem E37:(Eo O).T 148=some ⟨Tab.t148.desc,3,Tab.t148.bytes,some (.agg #[.int .i64 0,.int .i64 0,.int .i64 0])⟩:=by show Tab.types.get 148=_; kernel_rfl
theorem zNx:TI.agg ⟨Tab.t148.desc,3,Tab.t148.bytes,some (.agg #[.int .i64 0,.int .i64 0,.int .i64 0])⟩=true:=by kernel_rfl
theorem E38:(Eo O).T 149=some ⟨.array 10 148,30,Tab.t149.bytes,Tab.t149.zero⟩:=by show Tab.types.get 149=_; kernel_rfl
theorem E39:(Eo O).T 150=some ⟨.array 32 148,96,Tab.t150.bytes,Tab.t150.zero⟩:=by show Tab.types.get 150=_; kernel_rfl
theorem zDt {a:Addr} {h:SHeap}:zbz (Eo O) ((Eo O).T 209) (some (.pointer (some a))) 0 h=.ok (.value (.pointer (some (zbe a 0))),h):=by kernel_rfl
theorem zFh {a:Addr} {h:SHeap}:zbz (Eo O) ((Eo O).T 209) (some (.pointer (some a))) 1 h=.ok (.value (.pointer (some (zbe a 30))),h):=by kernel_rfl
theorem zXH {a:Addr} {i:Nat} {h:SHeap} (hi:i<10):zcy (Eo O) ((Eo O).T 149) (some (.pointer (some a))) (some i) h=zal (.pointer (some (zbe a (i*3)))) h:=by
 rw [E38]
 show zcm (Eo O) 148 10 a i h=_
 unfold zcm
 rw [E37]
 simp only [zaI hi,cond_true]
theorem zPR {a:Addr} {i:Nat} {h:SHeap} (hi:i<32):zcy (Eo O) ((Eo O).T 150) (some (.pointer (some a))) (some i) h=zal (.pointer (some (zbe a (i*3)))) h:=by
 rw [E39]
 show zcm (Eo O) 148 32 a i h=_
 unfold zcm
 rw [E37]
 simp only [zaI hi,cond_true]
theorem zrW {h:SHeap}:zgL ((Eo O).T 148) 148 h=.ok (.value (.pointer (some ⟨h.next,0,none⟩)),zai h 148 [.int .i64 0,.int .i64 0,.int .i64 0] false):=by
 rw [E37]; rfl
theorem zkb {h:SHeap} {cs:List Value}:zfD 209 (some (.agg ⟨cs⟩)) h=.ok (.value (.pointer (some ⟨h.next,0,none⟩)),zai h 209 cs false):=(id rfl)
theorem zBq {h:SHeap} {b n e k:Nat} {o r:Bool} {c:Tr Value} {x y z:Value} (hb:h.t.get b=some (.cells c n e o r)) (h0:c.get k=some x) (h1:c.get (k+1)=some y) (h2:c.get (k+1+1)=some z):loadAt (Eo O) h 148 ⟨b,k,none⟩=.ok (.agg #[x,y,z]):=by
 unfold loadAt
 simp only [E37,hb]
 rw [if_pos zNx]
 have:range c n k 3=some [x,y,z]:=by
  unfold range
  rw [show Nat.ble 3 12=true from rfl,cond_true]
  simp only [Tr.toListFrom,h0,h1,h2,zaD]
 simp only [this]
theorem zGt {h:SHeap} (hn:h.next<lim) (k l j:IntKind) (x y z:Int):∃ h',zcI (Eo O) 148 (some (.pointer (some ⟨h.next,0,none⟩))) (some (.agg #[.int k x,.int l y,.int j z])) (zai h 148 [.int .i64 0,.int .i64 0,.int .i64 0] false)=.ok (.value (.tuple #[]),h') ∧
  loadAt (Eo O) h' 148 ⟨h.next,0,none⟩=.ok (.agg #[.int k x,.int l y,.int j z])∧h'.next=h.next+1∧∀ d,d≠h.next→h'.t.get d=h.t.get d:=by
 have hb:(zai h 148 [.int .i64 0,.int .i64 0,.int .i64 0] false).t.get h.next=some (.cells (Tr.ofL 33 [.int .i64 0,.int .i64 0,.int .i64 0]) 3 148 false false):=by
  simp only [zai,SHeap.new,zaa]
  rw [if_pos ⟨trivial,hn⟩]
  rfl
 obtain ⟨t0,ht0⟩:∃ t0,t0=Tr.ofL 33 [Value.int .i64 0,.int .i64 0,.int .i64 0]:=⟨_,rfl⟩
 rw [← ht0] at hb
 have hs:zcL t0 3 0 [.int k x,.int l y,.int j z]=some (((t0.put 0 (some (.int k x))).put 1 (some (.int l y))).put 2 (some (.int j z))):=by
  unfold zcL
  rw [show Nat.ble [Value.int k x,.int l y,.int j z].length 12=true from rfl,cond_true]
  simp only [zcC,zav,zaD,zaI (show 0<3 by omega),zaI (show 0+1<3 by omega),zaI (show 0+1+1<3 by omega),cond_true]
 refine ⟨(zai h 148 [.int .i64 0,.int .i64 0,.int .i64 0] false).set h.next (some (.cells (((t0.put 0 (some (.int k x))).put 1 (some (.int l y))).put 2 (some (.int j z))) 3 148 false false)),?_,?_,rfl,fun d hd => ?_⟩
 ·unfold zcI storeAt
  simp only [E37,hb]
  have h2:¬ (Value.agg #[.int k x,.int l y,.int j z]).cells.size≠3:=by simp [Value.cells]
  have h3:(Value.agg #[.int k x,.int l y,.int j z]).cells.toList=[.int k x,.int l y,.int j z]:=by simp [Value.cells]
  rw [if_neg h2,h3]
  simp only [hs]
 ·refine zBq (n:=3) (e:=148) (o:=false) (r:=false) (by simp only [SHeap.set,zaa]; rw [if_pos ⟨trivial,hn⟩]) ?_ ?_ ?_<;>simp [zaa,lim]
 ·simp only [SHeap.set,zaa]
  rw [if_neg (fun q=>hd q.1)]
  exact zbK hd
theorem zvZ {E:Env} {ev:Ev} {o:Oper} {t:TypeId} {x y:Int} {h:SHeap}:zcZ E ev o .sub t (some (.int .i64 x)) (some (.int .i64 y)) h=.ok (.value (.int .i64 (zaK .i64 (x-y))),h):=zel (id rfl)
theorem zvY {n:Nat} (hO:O 151=none) {cs:List Value} {v:Nat} {k l j:IntKind} {x y z:Int} {h:SHeap} (hlen:cs.length=126) (h2:2≤v) (h44:v<44) (c0:cs[(v-2)*3]? = some (.int k x)) (c1:cs[(v-2)*3+1]? = some (.int l y)) (c2:cs[(v-2)*3+1+1]? = some (.int j z)) (hn:h.next+1<lim) :
  ∃ h2,run (Eo O) (n+1) (.call 151 #[.agg ⟨cs⟩,.int .i64 (.ofNat v)] .normal) h=.ok (.agg #[.int k x,.int l y,.int j z],h2)∧h2.next=h.next+2∧∀ d,d<h.next→h2.t.get d=h.t.get d:=by
 suffices hcc:∃ tm' h2,zab (cF Tryz.f151) (Eo O) (run (Eo O) n) ⟨151,30,.normal,none⟩ ⟨Tr.ofL 33 [.agg ⟨cs⟩,.int .i64 (.ofNat v)],h,[]⟩=.ok (.ret,⟨tm',h2,[]⟩)∧tm'.get 4=some (.pointer (some ⟨h.next+1,0,none⟩)) ∧
   loadAt (Eo O) h2 148 ⟨h.next+1,0,none⟩=.ok (.agg #[.int k x,.int l y,.int j z])∧h2.next=h.next+2∧∀ d,d<h.next→h2.t.get d=h.t.get d by
  obtain ⟨tm',h2,k1,k2,k3,k4,k5⟩:=hcc
  exact ⟨h2,(zby (show (Eo O).O 151=none from hO)).trans (zaY (vs:=[.agg #[.int k x,.int l y,.int j z]]) zDg zvu zDp rfl zyO k1 (by simp only [zaQ,k2,k3])),k4,k5⟩
 generalize run (Eo O) n=ih
 generalize hr:zab (cF Tryz.f151) (Eo O) ih ⟨151,30,.normal,none⟩ ⟨Tr.ofL 33 [.agg ⟨cs⟩,.int .i64 (.ofNat v)],h,[]⟩=q
 have t0:(Tr.ofL 33 [Value.agg ⟨cs⟩,.int .i64 (.ofNat v)]).get 0=some (.agg ⟨cs⟩):=rfl
 have t1:(Tr.ofL 33 [Value.agg ⟨cs⟩,.int .i64 (.ofNat v)]).get 1=some (.int .i64 (.ofNat v)):=rfl
 generalize Tr.ofL 33 [Value.agg ⟨cs⟩,.int .i64 (.ofNat v)]=tm at hr t0 t1
 have hb:(zai h 209 cs false).t.get h.next=some (.cells (Tr.ofL 33 cs) cs.length 209 false false):=by
  simp only [zai,SHeap.new,zaa]
  rw [if_pos ⟨trivial,by omega⟩]
 have nx1:(zai h 209 cs false).next=h.next+1:=(id rfl)
 have kp1:∀ d,d<h.next→(zai h 209 cs false).t.get d=h.t.get d:=fun d hd=>zbK (by omega)
 generalize hH:zai h 209 cs false=H1 at hb nx1 kp1
 have hb2:(zai H1 148 [.int .i64 0,.int .i64 0,.int .i64 0] false).t.get h.next=some (.cells (Tr.ofL 33 cs) cs.length 209 false false):=(zbK (by omega)).trans hb
 have L:=zBq (O:=O) hb2 ((zbv (by unfold lim; omega)).trans c0) ((zbv (by unfold lim; omega)).trans c1) ((zbv (by unfold lim; omega)).trans c2)
 have Lo:zba (Eo O) 148 (some (.pointer (some ⟨h.next,(v-2)*3,none⟩))) (zai H1 148 [.int .i64 0,.int .i64 0,.int .i64 0] false)=.ok (.value (.agg #[.int k x,.int l y,.int j z]),zai H1 148 [.int .i64 0,.int .i64 0,.int .i64 0] false):=by
  unfold zba
  simp only [L]
  rfl
 obtain ⟨H2,s1,r1,nx2,kp2⟩:=zGt (O:=O) (h:=H1) (by omega) k l j x y z
 rw [nx1] at s1 r1 kp2
 have e1:decide (Int.ofNat v≥2)=true:=by simp; omega
 have hsum:=trivial
 by_cases hv:v<12
 ·have e2:decide (Int.ofNat v<12)=true:=by simp; omega
  have e3:zaK .i64 (Int.ofNat v-2)=.ofNat (v-2):=by
   rw [show Int.ofNat v-2=Int.ofNat (v-2) by simp; omega]
   exact zbb (by omega)
  rw [show (v-2)*3=0+0+(v-2)*3 by omega] at Lo
  simp only [SSb,Tryz.f151,cF,Option.getD,cA,cB,cI,zab,zac,zao,zak,zau,zal,lim,Nat.reduceLT,Nat.reduceEqDiff,and_true,if_true,if_false,reduceIte,false_and,true_and,Nat.beq,cond_true,cond_false,zad,zae,zaf,zar,zap,zat,Option.bind_some,zam zaA,zaj,List.getElem?_toArray,List.getElem?_cons_succ,List.getElem?_cons_zero,List.drop_succ_cons,List.drop_zero,zah,zas,Bool.and_self,Bool.true_and,hsum,zco,zct,zkb,hH,zrW,nx1,zvZ,zDt,zXH (show v-2<10 by omega),Lo,s1,e1,e2,e3,t0,t1] at hr
  subst hr
  exact ⟨_,H2,rfl,by simp [zaa,lim],r1,by omega,fun d hd=>(kp2 d (by omega)).trans (kp1 d hd)⟩
 ·have e2:decide (Int.ofNat v<12)=false:=by simp; omega
  have e4:decide (Int.ofNat v≥12)=true:=by simp; omega
  have e5:decide (Int.ofNat v<44)=true:=by simp; omega
  have e3:zaK .i64 (Int.ofNat v-12)=.ofNat (v-12):=by
   rw [show Int.ofNat v-12=Int.ofNat (v-12) by simp; omega]
   exact zbb (by omega)
  rw [show (v-2)*3=0+30+(v-12)*3 by omega] at Lo
  simp only [SSb,Tryz.f151,cF,Option.getD,cA,cB,cI,zab,zac,zao,zak,zau,zal,lim,Nat.reduceLT,Nat.reduceEqDiff,and_true,if_true,if_false,reduceIte,false_and,true_and,Nat.beq,cond_true,cond_false,zad,zae,zaf,zar,zap,zat,Option.bind_some,zam zaA,zaj,List.getElem?_toArray,List.getElem?_cons_succ,List.getElem?_cons_zero,List.drop_succ_cons,List.drop_zero,zah,zas,Bool.and_self,Bool.true_and,hsum,zco,zct,zkb,hH,zrW,nx1,zvZ,zFh,zPR (show v-12<32 by omega),Lo,s1,e1,e2,e3,e4,e5,t0,t1] at hr
  subst hr
  exact ⟨_,H2,rfl,by simp [zaa,lim],r1,by omega,fun d hd=>(kp2 d (by omega)).trans (kp1 d hd)⟩
theorem zyy {h:SHeap}:zfw (Eo O) ((Eo O).T 148) (some []) h=.ok (.value (.agg #[.int .i64 0,.int .i64 0,.int .i64 0]),h):=by kernel_rfl
theorem zEr {n:Nat} (hO:O 151=none) {cs:List Value} {v:Nat} {h:SHeap} (hv:v<2∨44≤v) (hn:h.next+1<lim) :
  ∃ h2,run (Eo O) (n+1) (.call 151 #[.agg ⟨cs⟩,.int .i64 (.ofNat v)] .normal) h=.ok (.agg #[.int .i64 0,.int .i64 0,.int .i64 0],h2)∧h2.next=h.next+2∧∀ d,d<h.next→h2.t.get d=h.t.get d:=by
 suffices hcc:∃ tm' h2,zab (cF Tryz.f151) (Eo O) (run (Eo O) n) ⟨151,30,.normal,none⟩ ⟨Tr.ofL 33 [.agg ⟨cs⟩,.int .i64 (.ofNat v)],h,[]⟩=.ok (.ret,⟨tm',h2,[]⟩)∧tm'.get 4=some (.pointer (some ⟨h.next+1,0,none⟩)) ∧
   loadAt (Eo O) h2 148 ⟨h.next+1,0,none⟩=.ok (.agg #[.int .i64 0,.int .i64 0,.int .i64 0])∧h2.next=h.next+2∧∀ d,d<h.next→h2.t.get d=h.t.get d by
  obtain ⟨tm',h2,k1,k2,k3,k4,k5⟩:=hcc
  exact ⟨h2,(zby (show (Eo O).O 151=none from hO)).trans (zaY (vs:=[.agg #[.int .i64 0,.int .i64 0,.int .i64 0]]) zDg zvu zDp rfl zyO k1 (by simp only [zaQ,k2,k3])),k4,k5⟩
 generalize run (Eo O) n=ih
 generalize hr:zab (cF Tryz.f151) (Eo O) ih ⟨151,30,.normal,none⟩ ⟨Tr.ofL 33 [.agg ⟨cs⟩,.int .i64 (.ofNat v)],h,[]⟩=q
 have t0:(Tr.ofL 33 [Value.agg ⟨cs⟩,.int .i64 (.ofNat v)]).get 0=some (.agg ⟨cs⟩):=rfl
 have t1:(Tr.ofL 33 [Value.agg ⟨cs⟩,.int .i64 (.ofNat v)]).get 1=some (.int .i64 (.ofNat v)):=rfl
 generalize Tr.ofL 33 [Value.agg ⟨cs⟩,.int .i64 (.ofNat v)]=tm at hr t0 t1
 have nx1:(zai h 209 cs false).next=h.next+1:=(id rfl)
 have kp1:∀ d,d<h.next→(zai h 209 cs false).t.get d=h.t.get d:=fun d hd=>zbK (by omega)
 generalize hH:zai h 209 cs false=H1 at nx1 kp1
 obtain ⟨H2,s1,r1,nx2,kp2⟩:=zGt (O:=O) (h:=H1) (by omega) .i64 .i64 .i64 0 0 0
 rw [nx1] at s1 r1 kp2
 have hsum:=trivial
 rcases hv with hv | hv
 ·have e1:decide (Int.ofNat v≥2)=false:=by simp; omega
  have e4:decide (Int.ofNat v≥12)=false:=by simp; omega
  simp only [SSb,Tryz.f151,cF,Option.getD,cA,cB,cI,zab,zac,zao,zak,zau,zal,lim,Nat.reduceLT,Nat.reduceEqDiff,and_true,if_true,if_false,reduceIte,false_and,true_and,Nat.beq,cond_true,cond_false,zad,zae,zaf,zar,zap,zat,Option.bind_some,zam zaA,zaj,List.getElem?_toArray,List.getElem?_cons_succ,List.getElem?_cons_zero,List.drop_succ_cons,List.drop_zero,zah,zas,Bool.and_self,Bool.true_and,hsum,zco,zct,zbC,zaN,zyy,zkb,hH,zrW,nx1,s1,e1,e4,t0,t1] at hr
  subst hr
  exact ⟨_,H2,rfl,by simp [zaa,lim],r1,by omega,fun d hd=>(kp2 d (by omega)).trans (kp1 d hd)⟩
 ·have e1:decide (Int.ofNat v≥2)=true:=by simp; omega
  have e2:decide (Int.ofNat v<12)=false:=by simp; omega
  have e4:decide (Int.ofNat v≥12)=true:=by simp; omega
  have e5:decide (Int.ofNat v<44)=false:=by simp; omega
  simp only [SSb,Tryz.f151,cF,Option.getD,cA,cB,cI,zab,zac,zao,zak,zau,zal,lim,Nat.reduceLT,Nat.reduceEqDiff,and_true,if_true,if_false,reduceIte,false_and,true_and,Nat.beq,cond_true,cond_false,zad,zae,zaf,zar,zap,zat,Option.bind_some,zam zaA,zaj,List.getElem?_toArray,List.getElem?_cons_succ,List.getElem?_cons_zero,List.drop_succ_cons,List.drop_zero,zah,zas,Bool.and_self,Bool.true_and,hsum,zco,zct,zbC,zaN,zyy,zkb,hH,zrW,nx1,s1,e1,e2,e4,e5,t0,t1] at hr
  subst hr
  exact ⟨_,H2,rfl,by simp [zaa,lim],r1,by omega,fun d hd=>(kp2 d (by omega)).trans (kp1 d hd)⟩
theorem zKY (KE:EnvOK (Eo O)) (hdraw:zcp (Eo O)) (hOK:∀ f g,(Eo O).O f=some g→zaz (Eo O) f g) (hO:O 151=none):zaz (Eo O) 151 tagQ:=
 zcJ (zdc KE hdraw hOK 1) fun args h w h' hlow hok=>by
  obtain ⟨l⟩:=args
  unfold tagQ at hok
  split at hok
  ·rename_i cs v e
   have e:l=[.agg ⟨cs⟩,.int .i64 (.ofNat v)]:=e
   subst e
   cases e9:((Nat.blt v 2||Nat.ble 44 v)&&Nat.blt (h.next+1) lim) with
   | true=>
    rw [e9,cond_true] at hok
    obtain ⟨rfl,rfl⟩:=zaq hok
    simp only [Bool.and_eq_true,Bool.or_eq_true] at e9
    obtain ⟨h2,k1,k2,k3⟩:=zEr (O:=O) (n:=0) hO (cs:=cs) (v:=v) (h:=h) (e9.1.imp zaB Nat.le_of_ble_eq_true) (zaB e9.2)
    exact ⟨h2,k1,k2,fun b o hb=>⟨o,by rw [k3 b (hlow b o hb)]; exact hb,ObjLe.refl o⟩⟩
   | false=>
   rw [e9,cond_false] at hok
   cases e3:(Nat.beq cs.length 126&&Nat.ble 2 v&&Nat.blt v 44&&Nat.blt (h.next+1) lim) with
   | false=>rw [e3] at hok; simp at hok
   | true=>
    rw [e3,cond_true] at hok
    simp only [Bool.and_eq_true] at e3
    obtain ⟨⟨⟨f1,f2⟩,f3⟩,f4⟩:=e3
    have f1:=Nat.eq_of_beq_eq_true f1
    have f2:=Nat.le_of_ble_eq_true f2
    have f3:=zaB f3
    have f4:=zaB f4
    unfold zJN at hok
    split at hok
    ·rename_i k x l y j z r hd
     obtain ⟨rfl,rfl⟩:=zaq hok
     have at_:∀ i,cs[(v-2)*3+i]? = (Value.int k x :: .int l y :: .int j z::r)[i]? := fun i=>by rw [← hd,List.getElem?_drop]
     obtain ⟨h2,k1,k2,k3⟩:=zvY (O:=O) (n:=0) hO f1 f2 f3 (by have:=at_ 0; simpa using this) (by have:=at_ 1; simpa using this) (by have:=at_ 2; simpa using this) f4
     exact ⟨h2,k1,k2,fun b o hb=>⟨o,by rw [k3 b (hlow b o hb)]; exact hb,ObjLe.refl o⟩⟩
    ·simp at hok
  ·simp at hok
end Go.Proofs.YtghhpeemloeljaaGreat
set_option linter.unusedSimpArgs false
set_option linter.unusedVariables false
namespace Go.Proofs.YtghhpeemloeljaaGreat
open Go Go.Sim
set_option maxRecDepth 100000
set_option maxHeartbeats 1000000
variable {O:OT} {ih:K}
theorem zEg:Tryz.f295.body=some (cF Tryz.f295):=rfl
theorem zLL:(Eo O).F 295=some Tryz.f295:=by show Tab.funcs.get 295=_; kernel_rfl
theorem zNk {a b:Value}:max Tryz.f295.ntmps (#[a,b]:Array Value).size=56:=rfl
theorem zKw:Tryz.f295.results.toList=[.tmp 4]:=rfl
theorem zdq {a:Addr} {h:SHeap}:zbz (Eo O) ((Eo O).T 148) (some (.pointer (some a))) 0 h=.ok (.value (.pointer (some (zbe a 0))),h):=by kernel_rfl
theorem zdv {a:Addr} {h:SHeap}:zbz (Eo O) ((Eo O).T 148) (some (.pointer (some a))) 1 h=.ok (.value (.pointer (some (zbe a 1))),h):=by kernel_rfl
theorem zdr {a:Addr} {h:SHeap}:zbz (Eo O) ((Eo O).T 148) (some (.pointer (some a))) 2 h=.ok (.value (.pointer (some (zbe a 2))),h):=by kernel_rfl
theorem zef {v:Int} {h:SHeap}:zfw (Eo O) ((Eo O).T 148) (some [(0,.int .i64 v)]) h=.ok (.value (.agg #[.int .i64 v,.int .i64 0,.int .i64 0]),h):=by kernel_rfl
theorem zfg {ev:Ev} {o:Oper} {a b e c d f:Int} {h:SHeap}:zcZ (Eo O) ev o .eql 148 (some (.agg #[.int .i64 a,.int .i64 b,.int .i64 e])) (some (.agg #[.int .i64 c,.int .i64 d,.int .i64 f])) h=.ok (.value (.bool ((a==c)&&((b==d)&&(e==f)))),h):=by
 have:zcZ (Eo O) ev o .eql 148 (some (.agg #[.int .i64 a,.int .i64 b,.int .i64 e])) (some (.agg #[.int .i64 c,.int .i64 d,.int .i64 f])) h=.ok (.value (.bool (zdZ.intEq a c&&(zdZ.intEq b d&&(zdZ.intEq e f&&true)))),h):=by kernel_rfl
 rw [this,zjl,zjl,zjl,Bool.and_true]
theorem zLP {h:SHeap} {x y z:Value}:zfD 148 (some (.agg #[x,y,z])) h=.ok (.value (.pointer (some ⟨h.next,0,none⟩)),zai h 148 [x,y,z] false):=(id rfl)
theorem zBm {n:Nat} (hO:O 295=none) {kd a b:Int} {fl:Bool} {h:SHeap} (hn:h.next<lim) :
  ∃ h2,run (Eo O) (n+1) (.call 295 #[.agg #[.int .i64 kd,.int .i64 a,.int .i64 b],.bool fl] .normal) h=.ok (.bool (zth kd a b fl),h2)∧h2.next=h.next+1∧∀ d,d<h.next→h2.t.get d=h.t.get d:=by
 suffices hcc:∃ tm',zab (cF Tryz.f295) (Eo O) (run (Eo O) n) ⟨295,56,.normal,none⟩ ⟨Tr.ofL 33 [.agg #[.int .i64 kd,.int .i64 a,.int .i64 b],.bool fl],h,[]⟩=.ok (.ret,⟨tm',zai h 148 [.int .i64 kd,.int .i64 a,.int .i64 b] false,[]⟩)∧tm'.get 4=some (.bool (zth kd a b fl)) by
  obtain ⟨tm',k1,k2⟩:=hcc
  exact ⟨_,(zby (show (Eo O).O 295=none from hO)).trans (zaY (vs:=[.bool (zth kd a b fl)]) zLL zEg zNk rfl zKw k1 (by simp only [zaQ,k2,zcM])),rfl,fun d hd=>zbK (by omega)⟩
 generalize run (Eo O) n=ih
 generalize hr:zab (cF Tryz.f295) (Eo O) ih ⟨295,56,.normal,none⟩ ⟨Tr.ofL 33 [.agg #[.int .i64 kd,.int .i64 a,.int .i64 b],.bool fl],h,[]⟩=q
 have t0:(Tr.ofL 33 [Value.agg #[.int .i64 kd,.int .i64 a,.int .i64 b],.bool fl]).get 0=some (.agg #[.int .i64 kd,.int .i64 a,.int .i64 b]):=rfl
 have t1:(Tr.ofL 33 [Value.agg #[.int .i64 kd,.int .i64 a,.int .i64 b],.bool fl]).get 1=some (.bool fl):=rfl
 generalize Tr.ofL 33 [Value.agg #[.int .i64 kd,.int .i64 a,.int .i64 b],.bool fl]=tm at hr t0 t1
 have hb:(zai h 148 [.int .i64 kd,.int .i64 a,.int .i64 b] false).t.get h.next=some (.cells (Tr.ofL 33 [.int .i64 kd,.int .i64 a,.int .i64 b]) 3 148 false false):=by
  simp only [zai,SHeap.new,zaa]
  rw [if_pos ⟨trivial,hn⟩]
  rfl
 have l0:=zbD (E:=Eo O) (k:=0+0) E3 rfl hb (v:=.int .i64 kd) rfl
 have l1:=zbD (E:=Eo O) (k:=0+1) E3 rfl hb (v:=.int .i64 a) rfl
 have l2:=zbD (E:=Eo O) (k:=0+2) E3 rfl hb (v:=.int .i64 b) rfl
 have L:=zBq (O:=O) hb (k:=0) (x:=.int .i64 kd) (y:=.int .i64 a) (z:=.int .i64 b) rfl rfl rfl
 have la:zba (Eo O) 148 (some (.pointer (some ⟨h.next,0,none⟩))) (zai h 148 [.int .i64 kd,.int .i64 a,.int .i64 b] false)=.ok (.value (.agg #[.int .i64 kd,.int .i64 a,.int .i64 b]),zai h 148 [.int .i64 kd,.int .i64 a,.int .i64 b] false):=by
  unfold zba
  simp only [L]
  rfl
 have hsum:=trivial
 obtain ⟨H1,hH⟩:∃ H1,H1=zai h 148 [.int .i64 kd,.int .i64 a,.int .i64 b] false:=⟨_,rfl⟩
 have bx:zfD 148 (some (.agg #[.int .i64 kd,.int .i64 a,.int .i64 b])) h=.ok (.value (.pointer (some ⟨h.next,0,none⟩)),H1):=by rw [hH]; exact zLP
 rw [← hH] at l0 l1 l2 la ⊢
 clear hb L hH
 unfold zth
 cases c5:(kd==5) with
 | true=>
  cases x1:(b==0) with
  | true=>
   cases x2:decide (a≥0) with
   | true=>
    cases x3:decide (a<8) with
    | true=>
     simp only [SSb,Tryz.f295,cF,Option.getD,cA,cB,cI,zab,zac,zao,zak,zau,zal,lim,Nat.reduceLT,Nat.reduceEqDiff,and_true,if_true,if_false,reduceIte,false_and,true_and,Nat.beq,cond_true,cond_false,zad,zae,zaf,zar,zap,zat,Option.bind_some,zam zaA,zaj,List.getElem?_toArray,List.getElem?_cons_succ,List.getElem?_cons_zero,List.drop_succ_cons,List.drop_zero,zah,zas,Bool.and_self,Bool.true_and,hsum,zco,zcQ,bx,zdq,zdv,zdr,zef,zfg,zaN,zbC,l0,l1,l2,la,t0,t1,c5,x1,x2,x3] at hr
     subst hr
     exact ⟨_,rfl,by simp [zaa,lim,c5,x1,x2,x3]⟩
    | false=>
     simp only [SSb,Tryz.f295,cF,Option.getD,cA,cB,cI,zab,zac,zao,zak,zau,zal,lim,Nat.reduceLT,Nat.reduceEqDiff,and_true,if_true,if_false,reduceIte,false_and,true_and,Nat.beq,cond_true,cond_false,zad,zae,zaf,zar,zap,zat,Option.bind_some,zam zaA,zaj,List.getElem?_toArray,List.getElem?_cons_succ,List.getElem?_cons_zero,List.drop_succ_cons,List.drop_zero,zah,zas,Bool.and_self,Bool.true_and,hsum,zco,zcQ,bx,zdq,zdv,zdr,zef,zfg,zaN,zbC,l0,l1,l2,la,t0,t1,c5,x1,x2,x3] at hr
     subst hr
     exact ⟨_,rfl,by simp [zaa,lim,c5,x1,x2,x3]⟩
   | false=>
    simp only [SSb,Tryz.f295,cF,Option.getD,cA,cB,cI,zab,zac,zao,zak,zau,zal,lim,Nat.reduceLT,Nat.reduceEqDiff,and_true,if_true,if_false,reduceIte,false_and,true_and,Nat.beq,cond_true,cond_false,zad,zae,zaf,zar,zap,zat,Option.bind_some,zam zaA,zaj,List.getElem?_toArray,List.getElem?_cons_succ,List.getElem?_cons_zero,List.drop_succ_cons,List.drop_zero,zah,zas,Bool.and_self,Bool.true_and,hsum,zco,zcQ,bx,zdq,zdv,zdr,zef,zfg,zaN,zbC,l0,l1,l2,la,t0,t1,c5,x1,x2] at hr
    subst hr
    exact ⟨_,rfl,by simp [zaa,lim,c5,x1,x2]⟩
  | false=>
   simp only [SSb,Tryz.f295,cF,Option.getD,cA,cB,cI,zab,zac,zao,zak,zau,zal,lim,Nat.reduceLT,Nat.reduceEqDiff,and_true,if_true,if_false,reduceIte,false_and,true_and,Nat.beq,cond_true,cond_false,zad,zae,zaf,zar,zap,zat,Option.bind_some,zam zaA,zaj,List.getElem?_toArray,List.getElem?_cons_succ,List.getElem?_cons_zero,List.drop_succ_cons,List.drop_zero,zah,zas,Bool.and_self,Bool.true_and,hsum,zco,zcQ,bx,zdq,zdv,zdr,zef,zfg,zaN,zbC,l0,l1,l2,la,t0,t1,c5,x1] at hr
   subst hr
   exact ⟨_,rfl,by simp [zaa,lim,c5,x1]⟩
 | false=>
  cases c6:(kd==6) with
  | true=>
   cases x1:(b==0) with
   | true=>
    cases x2:decide (a≥0) with
    | true=>
     cases x3:decide (a<8) with
     | true=>
      simp only [SSb,Tryz.f295,cF,Option.getD,cA,cB,cI,zab,zac,zao,zak,zau,zal,lim,Nat.reduceLT,Nat.reduceEqDiff,and_true,if_true,if_false,reduceIte,false_and,true_and,Nat.beq,cond_true,cond_false,zad,zae,zaf,zar,zap,zat,Option.bind_some,zam zaA,zaj,List.getElem?_toArray,List.getElem?_cons_succ,List.getElem?_cons_zero,List.drop_succ_cons,List.drop_zero,zah,zas,Bool.and_self,Bool.true_and,hsum,zco,zcQ,bx,zdq,zdv,zdr,zef,zfg,zaN,zbC,l0,l1,l2,la,t0,t1,c5,c6,x1,x2,x3] at hr
      subst hr
      exact ⟨_,rfl,by simp [zaa,lim,c5,c6,x1,x2,x3]⟩
     | false=>
      simp only [SSb,Tryz.f295,cF,Option.getD,cA,cB,cI,zab,zac,zao,zak,zau,zal,lim,Nat.reduceLT,Nat.reduceEqDiff,and_true,if_true,if_false,reduceIte,false_and,true_and,Nat.beq,cond_true,cond_false,zad,zae,zaf,zar,zap,zat,Option.bind_some,zam zaA,zaj,List.getElem?_toArray,List.getElem?_cons_succ,List.getElem?_cons_zero,List.drop_succ_cons,List.drop_zero,zah,zas,Bool.and_self,Bool.true_and,hsum,zco,zcQ,bx,zdq,zdv,zdr,zef,zfg,zaN,zbC,l0,l1,l2,la,t0,t1,c5,c6,x1,x2,x3] at hr
      subst hr
      exact ⟨_,rfl,by simp [zaa,lim,c5,c6,x1,x2,x3]⟩
    | false=>
     simp only [SSb,Tryz.f295,cF,Option.getD,cA,cB,cI,zab,zac,zao,zak,zau,zal,lim,Nat.reduceLT,Nat.reduceEqDiff,and_true,if_true,if_false,reduceIte,false_and,true_and,Nat.beq,cond_true,cond_false,zad,zae,zaf,zar,zap,zat,Option.bind_some,zam zaA,zaj,List.getElem?_toArray,List.getElem?_cons_succ,List.getElem?_cons_zero,List.drop_succ_cons,List.drop_zero,zah,zas,Bool.and_self,Bool.true_and,hsum,zco,zcQ,bx,zdq,zdv,zdr,zef,zfg,zaN,zbC,l0,l1,l2,la,t0,t1,c5,c6,x1,x2] at hr
     subst hr
     exact ⟨_,rfl,by simp [zaa,lim,c5,c6,x1,x2]⟩
   | false=>
    simp only [SSb,Tryz.f295,cF,Option.getD,cA,cB,cI,zab,zac,zao,zak,zau,zal,lim,Nat.reduceLT,Nat.reduceEqDiff,and_true,if_true,if_false,reduceIte,false_and,true_and,Nat.beq,cond_true,cond_false,zad,zae,zaf,zar,zap,zat,Option.bind_some,zam zaA,zaj,List.getElem?_toArray,List.getElem?_cons_succ,List.getElem?_cons_zero,List.drop_succ_cons,List.drop_zero,zah,zas,Bool.and_self,Bool.true_and,hsum,zco,zcQ,bx,zdq,zdv,zdr,zef,zfg,zaN,zbC,l0,l1,l2,la,t0,t1,c5,c6,x1] at hr
    subst hr
    exact ⟨_,rfl,by simp [zaa,lim,c5,c6,x1]⟩
  | false=>
   cases c0:(kd==0) with
   | true=>
    cases y1:(a==0) with
    | true=>
     cases y2:(b==0) with
     | true=>
      simp only [SSb,Tryz.f295,cF,Option.getD,cA,cB,cI,zab,zac,zao,zak,zau,zal,lim,Nat.reduceLT,Nat.reduceEqDiff,and_true,if_true,if_false,reduceIte,false_and,true_and,Nat.beq,cond_true,cond_false,zad,zae,zaf,zar,zap,zat,Option.bind_some,zam zaA,zaj,List.getElem?_toArray,List.getElem?_cons_succ,List.getElem?_cons_zero,List.drop_succ_cons,List.drop_zero,zah,zas,Bool.and_self,Bool.true_and,hsum,zco,zcQ,bx,zdq,zdv,zdr,zef,zfg,zaN,zbC,l0,l1,l2,la,t0,t1,c5,c6,c0,y1,y2] at hr
      subst hr
      exact ⟨_,rfl,by simp [zaa,lim,c5,c6,c0,y1,y2]⟩
     | false=>
      cases y3:fl with
      | true=>
       rw [y3] at t1
       cases y4:decide (b>0) with
       | true=>
        cases y5:decide (b≤255) with
        | true=>
         simp only [SSb,Tryz.f295,cF,Option.getD,cA,cB,cI,zab,zac,zao,zak,zau,zal,lim,Nat.reduceLT,Nat.reduceEqDiff,and_true,if_true,if_false,reduceIte,false_and,true_and,Nat.beq,cond_true,cond_false,zad,zae,zaf,zar,zap,zat,Option.bind_some,zam zaA,zaj,List.getElem?_toArray,List.getElem?_cons_succ,List.getElem?_cons_zero,List.drop_succ_cons,List.drop_zero,zah,zas,Bool.and_self,Bool.true_and,hsum,zco,zcQ,bx,zdq,zdv,zdr,zef,zfg,zaN,zbC,l0,l1,l2,la,t0,t1,c5,c6,c0,y1,y2,y4,y5] at hr
         subst hr
         exact ⟨_,rfl,by simp [zaa,lim,c5,c6,c0,y1,y2,y4,y5]⟩
        | false=>
         simp only [SSb,Tryz.f295,cF,Option.getD,cA,cB,cI,zab,zac,zao,zak,zau,zal,lim,Nat.reduceLT,Nat.reduceEqDiff,and_true,if_true,if_false,reduceIte,false_and,true_and,Nat.beq,cond_true,cond_false,zad,zae,zaf,zar,zap,zat,Option.bind_some,zam zaA,zaj,List.getElem?_toArray,List.getElem?_cons_succ,List.getElem?_cons_zero,List.drop_succ_cons,List.drop_zero,zah,zas,Bool.and_self,Bool.true_and,hsum,zco,zcQ,bx,zdq,zdv,zdr,zef,zfg,zaN,zbC,l0,l1,l2,la,t0,t1,c5,c6,c0,y1,y2,y4,y5] at hr
         subst hr
         exact ⟨_,rfl,by simp [zaa,lim,c5,c6,c0,y1,y2,y4,y5]⟩
       | false=>
        simp only [SSb,Tryz.f295,cF,Option.getD,cA,cB,cI,zab,zac,zao,zak,zau,zal,lim,Nat.reduceLT,Nat.reduceEqDiff,and_true,if_true,if_false,reduceIte,false_and,true_and,Nat.beq,cond_true,cond_false,zad,zae,zaf,zar,zap,zat,Option.bind_some,zam zaA,zaj,List.getElem?_toArray,List.getElem?_cons_succ,List.getElem?_cons_zero,List.drop_succ_cons,List.drop_zero,zah,zas,Bool.and_self,Bool.true_and,hsum,zco,zcQ,bx,zdq,zdv,zdr,zef,zfg,zaN,zbC,l0,l1,l2,la,t0,t1,c5,c6,c0,y1,y2,y4] at hr
        subst hr
        exact ⟨_,rfl,by simp [zaa,lim,c5,c6,c0,y1,y2,y4]⟩
      | false=>
       rw [y3] at t1
       simp only [SSb,Tryz.f295,cF,Option.getD,cA,cB,cI,zab,zac,zao,zak,zau,zal,lim,Nat.reduceLT,Nat.reduceEqDiff,and_true,if_true,if_false,reduceIte,false_and,true_and,Nat.beq,cond_true,cond_false,zad,zae,zaf,zar,zap,zat,Option.bind_some,zam zaA,zaj,List.getElem?_toArray,List.getElem?_cons_succ,List.getElem?_cons_zero,List.drop_succ_cons,List.drop_zero,zah,zas,Bool.and_self,Bool.true_and,hsum,zco,zcQ,bx,zdq,zdv,zdr,zef,zfg,zaN,zbC,l0,l1,l2,la,t0,t1,c5,c6,c0,y1,y2] at hr
       subst hr
       exact ⟨_,rfl,by simp [zaa,lim,c5,c6,c0,y1,y2]⟩
    | false=>
     simp only [SSb,Tryz.f295,cF,Option.getD,cA,cB,cI,zab,zac,zao,zak,zau,zal,lim,Nat.reduceLT,Nat.reduceEqDiff,and_true,if_true,if_false,reduceIte,false_and,true_and,Nat.beq,cond_true,cond_false,zad,zae,zaf,zar,zap,zat,Option.bind_some,zam zaA,zaj,List.getElem?_toArray,List.getElem?_cons_succ,List.getElem?_cons_zero,List.drop_succ_cons,List.drop_zero,zah,zas,Bool.and_self,Bool.true_and,hsum,zco,zcQ,bx,zdq,zdv,zdr,zef,zfg,zaN,zbC,l0,l1,l2,la,t0,t1,c5,c6,c0,y1] at hr
     subst hr
     exact ⟨_,rfl,by simp [zaa,lim,c5,c6,c0,y1]⟩
   | false=>
    cases c1:(kd==1) with
    | true=>
     simp only [SSb,Tryz.f295,cF,Option.getD,cA,cB,cI,zab,zac,zao,zak,zau,zal,lim,Nat.reduceLT,Nat.reduceEqDiff,and_true,if_true,if_false,reduceIte,false_and,true_and,Nat.beq,cond_true,cond_false,zad,zae,zaf,zar,zap,zat,Option.bind_some,zam zaA,zaj,List.getElem?_toArray,List.getElem?_cons_succ,List.getElem?_cons_zero,List.drop_succ_cons,List.drop_zero,zah,zas,Bool.and_self,Bool.true_and,hsum,zco,zcQ,bx,zdq,zdv,zdr,zef,zfg,zaN,zbC,l0,l1,l2,la,t0,t1,c5,c6,c0,c1] at hr
     subst hr
     exact ⟨_,rfl,by simp [zaa,lim,c5,c6,c0,c1]⟩
    | false=>
     cases c2:(kd==2) with
     | true=>
      simp only [SSb,Tryz.f295,cF,Option.getD,cA,cB,cI,zab,zac,zao,zak,zau,zal,lim,Nat.reduceLT,Nat.reduceEqDiff,and_true,if_true,if_false,reduceIte,false_and,true_and,Nat.beq,cond_true,cond_false,zad,zae,zaf,zar,zap,zat,Option.bind_some,zam zaA,zaj,List.getElem?_toArray,List.getElem?_cons_succ,List.getElem?_cons_zero,List.drop_succ_cons,List.drop_zero,zah,zas,Bool.and_self,Bool.true_and,hsum,zco,zcQ,bx,zdq,zdv,zdr,zef,zfg,zaN,zbC,l0,l1,l2,la,t0,t1,c5,c6,c0,c1,c2] at hr
      subst hr
      exact ⟨_,rfl,by simp [zaa,lim,c5,c6,c0,c1,c2]⟩
     | false=>
      cases c3:(kd==3) with
      | true=>
       simp only [SSb,Tryz.f295,cF,Option.getD,cA,cB,cI,zab,zac,zao,zak,zau,zal,lim,Nat.reduceLT,Nat.reduceEqDiff,and_true,if_true,if_false,reduceIte,false_and,true_and,Nat.beq,cond_true,cond_false,zad,zae,zaf,zar,zap,zat,Option.bind_some,zam zaA,zaj,List.getElem?_toArray,List.getElem?_cons_succ,List.getElem?_cons_zero,List.drop_succ_cons,List.drop_zero,zah,zas,Bool.and_self,Bool.true_and,hsum,zco,zcQ,bx,zdq,zdv,zdr,zef,zfg,zaN,zbC,l0,l1,l2,la,t0,t1,c5,c6,c0,c1,c2,c3] at hr
       subst hr
       exact ⟨_,rfl,by simp [zaa,lim,c5,c6,c0,c1,c2,c3]⟩
      | false=>
       cases c4:(kd==4) with
       | true=>
        simp only [SSb,Tryz.f295,cF,Option.getD,cA,cB,cI,zab,zac,zao,zak,zau,zal,lim,Nat.reduceLT,Nat.reduceEqDiff,and_true,if_true,if_false,reduceIte,false_and,true_and,Nat.beq,cond_true,cond_false,zad,zae,zaf,zar,zap,zat,Option.bind_some,zam zaA,zaj,List.getElem?_toArray,List.getElem?_cons_succ,List.getElem?_cons_zero,List.drop_succ_cons,List.drop_zero,zah,zas,Bool.and_self,Bool.true_and,hsum,zco,zcQ,bx,zdq,zdv,zdr,zef,zfg,zaN,zbC,l0,l1,l2,la,t0,t1,c5,c6,c0,c1,c2,c3,c4] at hr
        subst hr
        exact ⟨_,rfl,by simp [zaa,lim,c5,c6,c0,c1,c2,c3,c4]⟩
       | false=>
        simp only [SSb,Tryz.f295,cF,Option.getD,cA,cB,cI,zab,zac,zao,zak,zau,zal,lim,Nat.reduceLT,Nat.reduceEqDiff,and_true,if_true,if_false,reduceIte,false_and,true_and,Nat.beq,cond_true,cond_false,zad,zae,zaf,zar,zap,zat,Option.bind_some,zam zaA,zaj,List.getElem?_toArray,List.getElem?_cons_succ,List.getElem?_cons_zero,List.drop_succ_cons,List.drop_zero,zah,zas,Bool.and_self,Bool.true_and,hsum,zco,zcQ,bx,zdq,zdv,zdr,zef,zfg,zaN,zbC,l0,l1,l2,la,t0,t1,c5,c6,c0,c1,c2,c3,c4] at hr
        subst hr
        exact ⟨_,rfl,by simp [zaa,lim,c5,c6,c0,c1,c2,c3,c4]⟩
theorem zEx (KE:EnvOK (Eo O)) (hdraw:zcp (Eo O)) (hOK:∀ f g,(Eo O).O f=some g→zaz (Eo O) f g) (hO:O 295=none):zaz (Eo O) 295 gooQ:=
 zcJ (zdc KE hdraw hOK 1) fun args h w h' hlow hok=>by
  obtain ⟨l⟩:=args
  unfold gooQ at hok
  split at hok
  ·rename_i kd a b fl e
   have e:l=[.agg #[.int .i64 kd,.int .i64 a,.int .i64 b],.bool fl]:=e
   subst e
   cases hc:Nat.blt h.next lim with
   | false=>rw [hc] at hok; simp at hok
   | true=>
    rw [hc,cond_true] at hok
    obtain ⟨rfl,rfl⟩:=zaq hok
    obtain ⟨h2,k1,k2,k3⟩:=zBm (O:=O) (n:=0) hO (kd:=kd) (a:=a) (b:=b) (fl:=fl) (h:=h) (zaB hc)
    exact ⟨h2,k1,k2,fun d o hd=>⟨o,by rw [k3 d (hlow d o hd)]; exact hd,ObjLe.refl o⟩⟩
  ·simp at hok
end Go.Proofs.YtghhpeemloeljaaGreat
set_option linter.unusedSimpArgs false
set_option linter.unusedVariables false
namespace Go.Proofs.YtghhpeemloeljaaGreat
open Go Go.Sim
set_option maxRecDepth 100000
set_option maxHeartbeats 1000000
variable {O:OT} {ih:K}
theorem zvz:Tryz.f243.body=some (cF Tryz.f243):=rfl
theorem zCM:(Eo O).F 243=some Tryz.f243:=by show Tab.funcs.get 243=_; kernel_rfl
theorem zDq {a b:Value}:max Tryz.f243.ntmps (#[a,b]:Array Value).size=22:=rfl
theorem zzh:Tryz.f243.results.toList=[.tmp 4]:=rfl
theorem zCS:zcY (Eo O) 151:=fun _ _=>by kernel_rfl
theorem zTG:(Eo O).T 209=some ⟨Tab.t209.desc,126,Tab.t209.bytes,Tab.t209.zero⟩:=by show Tab.types.get 209=_; kernel_rfl
theorem zFB:TI.agg ⟨Tab.t209.desc,126,Tab.t209.bytes,Tab.t209.zero⟩=true:=by kernel_rfl
theorem zNh {h:SHeap} {b:Nat} {cs:List Value} (hlen:cs.length=126) (hb:h.t.get b=some (.cells (Tr.ofL 33 cs) cs.length 209 false false)):zba (Eo O) 209 (some (.pointer (some ⟨b,0,none⟩))) h=.ok (.value (.agg ⟨cs⟩),h):=by
 unfold zba loadAt
 simp only [zTG,hb]
 rw [if_pos zFB]
 have:=zpf (c:=Tr.ofL 33 cs) (n:=cs.length) (off:=0) (len:=126) (v:=cs) hlen (by omega) (by omega) (by rw [hlen]; unfold lim; omega) (fun k hk=>by rw [Nat.zero_add]; exact zbv (by unfold lim; omega))
 simp only [this]
 rfl
theorem zCW {k:IntKind} {x:Int} {y z:Value} {h:SHeap}:zpR (Eo O) ((Eo O).T 148) (some (.agg #[.int k x,y,z])) 0 h=.ok (.value (.int k x),h):=by kernel_rfl
theorem zwA {n:Nat} (hO:O 243=none) (hO2:O 151=none) {cs:List Value} {v:Nat} {x y z:Int} {h:SHeap} (hlen:cs.length=126) (h2:2≤v) (h44:v<44) (c0:cs[(v-2)*3]? = some (.int .i64 x)) (c1:cs[(v-2)*3+1]? = some (.int .i64 y)) (c2:cs[(v-2)*3+1+1]? = some (.int .i64 z)) (hn:h.next+2<lim) :
  ∃ h2,run (Eo O) (n+2) (.call 243 #[.agg ⟨cs⟩,.int .i64 (.ofNat v)] .normal) h=.ok (.bool (bif x != 0 then x != 6 else false),h2)∧h2.next=h.next+3∧∀ d,d<h.next→h2.t.get d=h.t.get d:=by
 have hb:(zai h 209 cs false).t.get h.next=some (.cells (Tr.ofL 33 cs) cs.length 209 false false):=by
  simp only [zai,SHeap.new,zaa]
  rw [if_pos ⟨trivial,by omega⟩]
 have nx1:(zai h 209 cs false).next=h.next+1:=(id rfl)
 have kp1:∀ d,d<h.next→(zai h 209 cs false).t.get d=h.t.get d:=fun d hd=>zbK (by omega)
 have bx:zfD 209 (some (.agg ⟨cs⟩)) h=.ok (.value (.pointer (some ⟨h.next,0,none⟩)),zai h 209 cs false):=zkb
 generalize zai h 209 cs false=H1 at hb nx1 kp1 bx
 obtain ⟨H2,e1,nx2,kp2⟩:=zvY (O:=O) (n:=n) hO2 (h:=H1) hlen h2 h44 c0 c1 c2 (by omega)
 refine ⟨H2,?_,by omega,fun d hd=>(kp2 d (by omega)).trans (kp1 d hd)⟩
 suffices hcc:∃ tm',zab (cF Tryz.f243) (Eo O) (run (Eo O) (n+1)) ⟨243,22,.normal,none⟩ ⟨Tr.ofL 33 [.agg ⟨cs⟩,.int .i64 (.ofNat v)],h,[]⟩=.ok (.ret,⟨tm',H2,[]⟩)∧tm'.get 4=some (.bool (bif x != 0 then x != 6 else false)) by
  obtain ⟨tm',k1,k2⟩:=hcc
  exact (zby (show (Eo O).O 243=none from hO)).trans (zaY (vs:=[.bool (bif x != 0 then x != 6 else false)]) zCM zvz zDq rfl zzh k1 (by simp only [zaQ,k2,zcM]))
 generalize run (Eo O) (n+1)=ih at e1 ⊢
 generalize hr:zab (cF Tryz.f243) (Eo O) ih ⟨243,22,.normal,none⟩ ⟨Tr.ofL 33 [.agg ⟨cs⟩,.int .i64 (.ofNat v)],h,[]⟩=q
 have t0:(Tr.ofL 33 [Value.agg ⟨cs⟩,.int .i64 (.ofNat v)]).get 0=some (.agg ⟨cs⟩):=rfl
 have t1:(Tr.ofL 33 [Value.agg ⟨cs⟩,.int .i64 (.ofNat v)]).get 1=some (.int .i64 (.ofNat v)):=rfl
 generalize Tr.ofL 33 [Value.agg ⟨cs⟩,.int .i64 (.ofNat v)]=tm at hr t0 t1
 have hw:=zNh (O:=O) hlen hb
 have d1:decide (Int.ofNat v<2)=false:=by simp; omega
 have d2:decide (Int.ofNat v≥44)=false:=by simp; omega
 have hsum:=trivial
 cases c:(x != 0) with
 | true=>
  simp only [SSb,Tryz.f243,cF,Option.getD,cA,cB,cI,zab,zac,zao,zak,zau,zal,lim,Nat.reduceLT,Nat.reduceEqDiff,and_true,if_true,if_false,reduceIte,false_and,true_and,Nat.beq,cond_true,cond_false,zad,zae,zaf,zar,zap,zat,Option.bind_some,zam zaA,zaj,List.getElem?_toArray,List.getElem?_cons_succ,List.getElem?_cons_zero,List.drop_succ_cons,List.drop_zero,zah,zas,Bool.and_self,Bool.true_and,hsum,zco,bx,zjP,zCW,zbn,zam zCS,hw,e1,d1,d2,c,t0,t1] at hr
  subst hr
  exact ⟨_,rfl,by simp [zaa,lim]⟩
 | false=>
  simp only [SSb,Tryz.f243,cF,Option.getD,cA,cB,cI,zab,zac,zao,zak,zau,zal,lim,Nat.reduceLT,Nat.reduceEqDiff,and_true,if_true,if_false,reduceIte,false_and,true_and,Nat.beq,cond_true,cond_false,zad,zae,zaf,zar,zap,zat,Option.bind_some,zam zaA,zaj,List.getElem?_toArray,List.getElem?_cons_succ,List.getElem?_cons_zero,List.drop_succ_cons,List.drop_zero,zah,zas,Bool.and_self,Bool.true_and,hsum,zco,bx,zjP,zCW,zbn,zam zCS,hw,e1,d1,d2,c,t0,t1] at hr
  subst hr
  exact ⟨_,rfl,by simp [zaa,lim]⟩
theorem zwG {n:Nat} (hO:O 243=none) {cs:List Value} {v:Nat} {h:SHeap} (hv:v<2∨44≤v) (hn:h.next<lim) :
  ∃ h2,run (Eo O) (n+1) (.call 243 #[.agg ⟨cs⟩,.int .i64 (.ofNat v)] .normal) h=.ok (.bool true,h2)∧h2.next=h.next+1∧∀ d,d<h.next→h2.t.get d=h.t.get d:=by
 have nx1:(zai h 209 cs false).next=h.next+1:=(id rfl)
 have kp1:∀ d,d<h.next→(zai h 209 cs false).t.get d=h.t.get d:=fun d hd=>zbK (by omega)
 have bx:zfD 209 (some (.agg ⟨cs⟩)) h=.ok (.value (.pointer (some ⟨h.next,0,none⟩)),zai h 209 cs false):=zkb
 generalize zai h 209 cs false=H1 at nx1 kp1 bx
 refine ⟨H1,?_,nx1,kp1⟩
 suffices hcc:∃ tm',zab (cF Tryz.f243) (Eo O) (run (Eo O) n) ⟨243,22,.normal,none⟩ ⟨Tr.ofL 33 [.agg ⟨cs⟩,.int .i64 (.ofNat v)],h,[]⟩=.ok (.ret,⟨tm',H1,[]⟩)∧tm'.get 4=some (.bool true) by
  obtain ⟨tm',k1,k2⟩:=hcc
  exact (zby (show (Eo O).O 243=none from hO)).trans (zaY (vs:=[.bool true]) zCM zvz zDq rfl zzh k1 (by simp only [zaQ,k2,zcM]))
 generalize run (Eo O) n=ih
 generalize hr:zab (cF Tryz.f243) (Eo O) ih ⟨243,22,.normal,none⟩ ⟨Tr.ofL 33 [.agg ⟨cs⟩,.int .i64 (.ofNat v)],h,[]⟩=q
 have t0:(Tr.ofL 33 [Value.agg ⟨cs⟩,.int .i64 (.ofNat v)]).get 0=some (.agg ⟨cs⟩):=rfl
 have t1:(Tr.ofL 33 [Value.agg ⟨cs⟩,.int .i64 (.ofNat v)]).get 1=some (.int .i64 (.ofNat v)):=rfl
 generalize Tr.ofL 33 [Value.agg ⟨cs⟩,.int .i64 (.ofNat v)]=tm at hr t0 t1
 have hsum:=trivial
 cases d1:decide (Int.ofNat v<2) with
 | true=>
  simp only [SSb,Tryz.f243,cF,Option.getD,cA,cB,cI,zab,zac,zao,zak,zau,zal,lim,Nat.reduceLT,Nat.reduceEqDiff,and_true,if_true,if_false,reduceIte,false_and,true_and,Nat.beq,cond_true,cond_false,zad,zae,zaf,zar,zap,zat,Option.bind_some,zam zaA,zaj,List.getElem?_toArray,List.getElem?_cons_succ,List.getElem?_cons_zero,List.drop_succ_cons,List.drop_zero,zah,zas,Bool.and_self,Bool.true_and,hsum,zco,bx,d1,t0,t1] at hr
  subst hr
  exact ⟨_,rfl,by simp [zaa,lim]⟩
 | false=>
  have d2:decide (Int.ofNat v≥44)=true:=by simp at d1 ⊢; omega
  simp only [SSb,Tryz.f243,cF,Option.getD,cA,cB,cI,zab,zac,zao,zak,zau,zal,lim,Nat.reduceLT,Nat.reduceEqDiff,and_true,if_true,if_false,reduceIte,false_and,true_and,Nat.beq,cond_true,cond_false,zad,zae,zaf,zar,zap,zat,Option.bind_some,zam zaA,zaj,List.getElem?_toArray,List.getElem?_cons_succ,List.getElem?_cons_zero,List.drop_succ_cons,List.drop_zero,zah,zas,Bool.and_self,Bool.true_and,hsum,zco,bx,d1,d2,t0,t1] at hr
  subst hr
  exact ⟨_,rfl,by simp [zaa,lim]⟩
theorem zzo (KE:EnvOK (Eo O)) (hdraw:zcp (Eo O)) (hOK:∀ f g,(Eo O).O f=some g→zaz (Eo O) f g) (hO:O 243=none) (hO2:O 151=none):zaz (Eo O) 243 valQ:=
 zcJ (zdc KE hdraw hOK 2) fun args h w h' hlow hok=>by
  obtain ⟨l⟩:=args
  unfold valQ at hok
  split at hok
  ·rename_i cs v e
   have e:l=[.agg ⟨cs⟩,.int .i64 (.ofNat v)]:=e
   subst e
   cases e3:(Nat.beq cs.length 126&&Nat.blt (h.next+2) lim) with
   | false=>rw [e3] at hok; simp at hok
   | true=>
    rw [e3,cond_true] at hok
    simp only [Bool.and_eq_true] at e3
    have f1:=Nat.eq_of_beq_eq_true e3.1
    have f4:=zaB e3.2
    cases e4:(Nat.blt v 2||Nat.ble 44 v) with
    | true=>
     rw [e4,cond_true] at hok
     obtain ⟨rfl,rfl⟩:=zaq hok
     rw [Bool.or_eq_true] at e4
     obtain ⟨h2,k1,k2,k3⟩:=zwG (O:=O) (n:=1) hO (cs:=cs) (h:=h) (e4.imp zaB Nat.le_of_ble_eq_true) (by omega)
     exact ⟨h2,k1,k2,fun b o hb=>⟨o,by rw [k3 b (hlow b o hb)]; exact hb,ObjLe.refl o⟩⟩
    | false=>
     rw [e4,cond_false] at hok
     rw [Bool.or_eq_false_iff] at e4
     have g1:2≤v:=by
      rcases Nat.lt_or_ge v 2 with q | q
      ·rw [zaI q] at e4; cases e4.1
      ·exact q
     have g2:v<44:=by
      rcases Nat.lt_or_ge v 44 with q | q
      ·exact q
      ·have:Nat.ble 44 v=true:=by rw [Nat.ble_eq]; exact q
       rw [this] at e4; cases e4.2
     unfold zKD at hok
     split at hok
     ·rename_i x y z r hd
      obtain ⟨rfl,rfl⟩:=zaq hok
      have at_:∀ i,cs[(v-2)*3+i]? = (Value.int .i64 x :: .int .i64 y :: .int .i64 z::r)[i]? := fun i=>by rw [← hd,List.getElem?_drop]
      obtain ⟨h2,k1,k2,k3⟩:=zwA (O:=O) (n:=0) hO hO2 f1 g1 g2 (by have:=at_ 0; simpa using this) (by have:=at_ 1; simpa using this) (by have:=at_ 2; simpa using this) f4
      exact ⟨h2,k1,k2,fun b o hb=>⟨o,by rw [k3 b (hlow b o hb)]; exact hb,ObjLe.refl o⟩⟩
     ·simp at hok
  ·simp at hok
end Go.Proofs.YtghhpeemloeljaaGreat
set_option linter.unusedSimpArgs false
set_option linter.unusedVariables false
namespace Go.Proofs.YtghhpeemloeljaaGreat
open Go Go.Sim
set_option maxRecDepth 100000
set_option maxHeartbeats 1000000
variable {O:OT} {ih:K}
theorem iaL {b o L c j:Nat} {h:SHeap} (hj:j<L):zcy (Eo O) ((Eo O).T 43) (some (.slice (some ⟨b,o,none⟩) L c)) (some j) h=.ok (.value (.pointer (some ⟨b,o+j,none⟩)),h):=by
 rw [E60]
 show zcm (Eo O) 3 L ⟨b,o,none⟩ j h=_
 unfold zcm
 rw [E3]
 simp only [zaI hj,cond_true,zal,zaG,Nat.mul_one]
def Lst (h:SHeap) (s o:Nat) (xs:List Int):Prop:=∃ t n e op r,h.t.get s=some (.cells t n e op r)∧∀ j x,xs[j]? = some x→t.get (o+j)=some (.int .i64 x)
theorem Lst.to {h h':SHeap} {s o:Nat} {xs:List Int} (k:Lst h s o xs) (e:h'.t.get s=h.t.get s):Lst h' s o xs:=let ⟨t,n,y,op,r,h1,h2⟩:=k; ⟨t,n,y,op,r,e.trans h1,h2⟩
theorem Lst.ld {h:SHeap} {s o:Nat} {xs:List Int} (k:Lst h s o xs) {j:Nat} {x:Int} (hj:xs[j]? = some x):zba (Eo O) 3 (some (.pointer (some ⟨s,o+j,none⟩))) h=.ok (.value (.int .i64 x),h):=by
 obtain ⟨t,n,e,op,r,h1,h2⟩:=k
 exact zbD (E:=Eo O) E3 rfl h1 (h2 j x hj)
def SlN (h:SHeap) (z:Nat) (sv:Value) (xs:List Int):Prop:=(xs=[]∧∃ c,sv=.slice none 0 c)∨∃ s o c,s<z∧sv=.slice (some ⟨s,o,none⟩) xs.length c∧Lst h s o xs
def fo1 (f:Nat→Int) (x:Int):Nat→Int:=if 1≤x∧x<60 then foF f x.toNat 60 else f
def foS (f:Nat→Int) (xs:List Int):Nat→Int:=xs.foldl fo1 f
theorem zzN {f:Nat→Int} {xs:List Int} {j:Nat} {x:Int} (h:xs[j]? = some x):foS f (xs.take (j+1))=fo1 (foS f (xs.take j)) x:=by
 obtain ⟨hj,rfl⟩:=List.getElem?_eq_some_iff.1 h
 rw [foS,List.take_succ_eq_append_getElem hj,List.foldl_append]
 rfl
structure FlI (f:Nat→Int) (x z:Nat) (sv:Value) (L j n0:Nat) (g:Nat→Option SObj) (i:Nat) (st:St):Prop where
 ds:st.defers=[]
 t5:st.tm.get 5=some (.pointer (some ⟨z,0,none⟩))
 t7:st.tm.get 7=some (.int .i64 (.ofNat x))
 t17:st.tm.get 17=some sv
 t18:st.tm.get 18=some (.int .i64 (.ofNat L))
 t19:st.tm.get 19=some (.int .i64 (.ofNat j))
 t29:st.tm.get 29=some (.int .i64 (.ofNat i))
 N:Zon st.h z (foF f x i)
 next:st.h.next=n0
 keep:∀ e,e<z→st.h.t.get e=g e
theorem zMZ {f:Nat→Int} {x z L j n0:Nat} {sv:Value} {g:Nat→Option SObj} (hx:x<60) (hn0:n0≤lim) (i:Nat) (hi:i<60) (st:St) (hI:FlI f x z sv L j n0 g i st) :
  ∃ st',zab foB (Eo O) ih ⟨145,47,.normal,none⟩ st=.ok (.normal,st')∧FlI f x z sv L j n0 g (i+1) st':=by
 obtain ⟨tm,h,dd⟩:=st
 obtain ⟨hd,t5,t7,t17,t18,t19,t29,hN,hnx,keep⟩:=hI
 simp only at hd t5 t7 t17 t18 t19 t29 hN hnx keep
 subst hd
 have hsum:=trivial
 have hk':decide (Int.ofNat i<60)=true:=by simp; omega
 have hk2:zaK .i64 (Int.ofNat i+1)=.ofNat (i+1):=zbb (m:=i+1) (by omega)
 generalize hr:zab foB (Eo O) ih ⟨145,47,.normal,none⟩ ⟨tm,h,[]⟩=r
 unfold foB foO at hr
 by_cases hix:i=x
 ·have c1:(Int.ofNat i != Int.ofNat x)=false:=by simp [hix]
  simp only [SSb,Tryz.f145,cF,Option.getD,cA,cB,cI,zab,zac,zao,zak,zau,zal,lim,Nat.reduceLT,Nat.reduceEqDiff,and_true,if_true,if_false,reduceIte,false_and,true_and,Nat.beq,cond_true,cond_false,zad,zae,zaf,zar,zap,zat,Option.bind_some,zam zaA,zaj,List.getElem?_toArray,List.getElem?_cons_succ,List.getElem?_cons_zero,List.drop_succ_cons,List.drop_zero,zah,zas,Bool.and_self,Bool.true_and,hsum,t5,t7,t17,t18,t19,t29,hk',hk2,c1] at hr
  subst hr
  refine ⟨_,rfl,rfl,?_,?_,?_,?_,?_,?_,hN.cg fun k _ => ?_,hnx,keep⟩
  ·simp [zaa,lim,t5]
  ·simp [zaa,lim,t7]
  ·simp [zaa,lim,t17]
  ·simp [zaa,lim,t18]
  ·simp [zaa,lim,t19]
  ·simp [zaa,lim]
  ·unfold foF fcF
   have e1:(k/60=x∧k%60≠x∧k%60<i)↔(k/60=x∧k%60≠x∧k%60<i+1):=by omega
   have e2:(k%60=x∧k/60≠x∧k/60<i)↔(k%60=x∧k/60≠x∧k/60<i+1):=by omega
   simp only [e1,e2]
 ·have c1:(Int.ofNat i != Int.ofNat x)=true:=by simp; omega
  have pl:=zJB (O:=O)
  unfold zzT at pl
  simp only [Tryz.f145,cF,Option.getD,zcb,zev,List.nil_append,List.append_nil,List.cons_append] at pl
  have hnl':h.next≤lim:=by rw [hnx]; exact hn0
  obtain ⟨h1,s1,N1,nx1,o1⟩:=hN.st (O:=O) hx hi 2305843009213693952
  obtain ⟨h2,s2,N2,nx2,o2⟩:=N1.st (O:=O) hi hx 2305843009213693952
  have hnl1:Nat.ble h1.next 4294967296=true:=by rw [Nat.ble_eq,nx1]; exact hnl'
  simp only [SSb,Tryz.f145,cF,Option.getD,cA,cB,cI,zab,zac,zao,zak,zau,zal,lim,Nat.reduceLT,Nat.reduceEqDiff,and_true,if_true,if_false,reduceIte,false_and,true_and,Nat.beq,cond_true,cond_false,zad,zae,zaf,zar,zap,zat,Option.bind_some,zam zaA,zaj,List.getElem?_toArray,List.getElem?_cons_succ,List.getElem?_cons_zero,List.drop_succ_cons,List.drop_zero,zah,zas,Bool.and_self,Bool.true_and,hsum,t5,t7,t17,t18,t19,t29,hk',hk2,c1,zcV hx,zde hi,zcV hi,zde hx,s1,s2,zbX pl hnl',hnl1] at hr
  subst hr
  refine ⟨_,rfl,rfl,?_,?_,?_,?_,?_,?_,N2.cg fun k hk => ?_,nx2.trans (nx1.trans hnx),fun e he=>(o2 _ (by omega)).trans ((o1 _ (by omega)).trans (keep e he))⟩
  ·simp [zaa,lim,t5]
  ·simp [zaa,lim,t7]
  ·simp [zaa,lim,t17]
  ·simp [zaa,lim,t18]
  ·simp [zaa,lim,t19]
  ·simp [zaa,lim]
  ·simp only [zes]
   unfold foF fcF
   by_cases e:k=i*60+x
   ·have e1:¬ (k/60=x∧k%60≠x∧k%60<i+1):=by omega
    have e2:k%60=x∧k/60≠x∧k/60<i+1:=by omega
    rw [if_pos e,if_neg e1,if_pos e2]
   ·rw [if_neg e]
    by_cases e':k=x*60+i
    ·have e1:k/60=x∧k%60≠x∧k%60<i+1:=by omega
     rw [if_pos e',if_pos e1]
    ·have e1:(k/60=x∧k%60≠x∧k%60<i)↔(k/60=x∧k%60≠x∧k%60<i+1):=by omega
     have e2:(k%60=x∧k/60≠x∧k/60<i)↔(k%60=x∧k/60≠x∧k/60<i+1):=by omega
     rw [if_neg e']
     simp only [e1,e2]
theorem zzg {f:Nat→Int} {x z L j n0:Nat} {sv:Value} {g:Nat→Option SObj} (st:St) (hI:FlI f x z sv L j n0 g 60 st) :
  ∃ o st',o ≠ .normal∧zab foB (Eo O) ih ⟨145,47,.normal,none⟩ st=.ok (o,st')∧(o=.exit 2∧FlI f x z sv L j n0 g 60 st'):=by
 obtain ⟨tm,h,dd⟩:=st
 obtain ⟨hd,t5,t7,t17,t18,t19,t29,hN,hnx,keep⟩:=hI
 simp only at hd t5 t7 t17 t18 t19 t29 hN hnx keep
 subst hd
 have hsum:=trivial
 have hk':decide (Int.ofNat 60<60)=false:=rfl
 generalize hr:zab foB (Eo O) ih ⟨145,47,.normal,none⟩ ⟨tm,h,[]⟩=r
 unfold foB foO at hr
 simp only [SSb,Tryz.f145,cF,Option.getD,cA,cB,cI,zab,zac,zao,zak,zau,zal,lim,Nat.reduceLT,Nat.reduceEqDiff,and_true,if_true,if_false,reduceIte,false_and,true_and,Nat.beq,cond_true,cond_false,zad,zae,zaf,zar,zap,zat,Option.bind_some,zam zaA,zaj,List.getElem?_toArray,List.getElem?_cons_succ,List.getElem?_cons_zero,List.drop_succ_cons,List.drop_zero,zah,zas,Bool.and_self,Bool.true_and,hsum,t29,hk'] at hr
 subst hr
 refine ⟨_,_,by simp,rfl,rfl,rfl,?_,?_,?_,?_,?_,?_,hN,hnx,keep⟩<;>simp [zaa,lim,t5,t7,t17,t18,t19,t29]
structure FlJ (f:Nat→Int) (xs:List Int) (z:Nat) (sv:Value) (n0:Nat) (g:Nat→Option SObj) (j:Nat) (st:St):Prop where
 ds:st.defers=[]
 t5:st.tm.get 5=some (.pointer (some ⟨z,0,none⟩))
 t17:st.tm.get 17=some sv
 t18:st.tm.get 18=some (.int .i64 (.ofNat xs.length))
 t19:st.tm.get 19=some (.int .i64 (.ofNat j))
 N:Zon st.h z (foS f (xs.take j))
 next:st.h.next=n0
 keep:∀ e,e<z→st.h.t.get e=g e
theorem zKn {f:Nat→Int} {xs:List Int} {z n0:Nat} {sv:Value} {g:Nat→Option SObj} (hn0:n0≤lim) (hlen:xs.length<1000) (hO:∀ h:SHeap,(∀ e,e<z→h.t.get e=g e)→SlN h z sv xs) (j:Nat) (hj:j<xs.length) (st:St) (hI:FlJ f xs z sv n0 g j st) :
  ∃ st',zab foO (Eo O) ih ⟨145,47,.normal,none⟩ st=.ok (.normal,st')∧FlJ f xs z sv n0 g (j+1) st':=by
 obtain ⟨x,hx⟩:∃ x,xs[j]? = some x:=⟨_,List.getElem?_eq_getElem hj⟩
 obtain ⟨tm,h,dd⟩:=st
 obtain ⟨hd,t5,t17,t18,t19,hN,hnx,keep⟩:=hI
 simp only at hd t5 t17 t18 t19 hN hnx keep
 subst hd
 have hsum:=trivial
 rcases hO h keep with ⟨e,_⟩ | ⟨s,oo,c,hsz,rfl,hl⟩
 ·subst e; cases hj
 have ld:=hl.ld (O:=O) hx
 have hk':decide (Int.ofNat j<Int.ofNat xs.length)=true:=by simp; omega
 have hk2:zaK .i64 (Int.ofNat j+1)=.ofNat (j+1):=zbb (m:=j+1) (by omega)
 have hS:=zzN (f:=f) hx
 generalize hr:zab foO (Eo O) ih ⟨145,47,.normal,none⟩ ⟨tm,h,[]⟩=r
 by_cases c1:x<1
 ·have c1':decide (x<1)=true:=by simp; omega
  unfold foO at hr
  simp only [SSb,Tryz.f145,cF,Option.getD,cA,cB,cI,zab,zac,zao,zak,zau,zal,lim,Nat.reduceLT,Nat.reduceEqDiff,and_true,if_true,if_false,reduceIte,false_and,true_and,Nat.beq,cond_true,cond_false,zad,zae,zaf,zar,zap,zat,Option.bind_some,zam zaA,zaj,List.getElem?_toArray,List.getElem?_cons_succ,List.getElem?_cons_zero,List.drop_succ_cons,List.drop_zero,zah,zas,Bool.and_self,Bool.true_and,hsum,t5,t17,t18,t19,hk',hk2,c1',iaL hj,ld] at hr
  subst hr
  refine ⟨_,rfl,rfl,?_,?_,?_,?_,?_,hnx,keep⟩
  ·simp [zaa,lim,t5]
  ·simp [zaa,lim,t17]
  ·simp [zaa,lim,t18]
  ·simp [zaa,lim]
  ·rw [hS,fo1,if_neg (by omega)]; exact hN
 by_cases c2:x≥60
 ·have c1':decide (x<1)=false:=by simp; omega
  have c2':decide (x≥60)=true:=by simp; omega
  unfold foO at hr
  simp only [SSb,Tryz.f145,cF,Option.getD,cA,cB,cI,zab,zac,zao,zak,zau,zal,lim,Nat.reduceLT,Nat.reduceEqDiff,and_true,if_true,if_false,reduceIte,false_and,true_and,Nat.beq,cond_true,cond_false,zad,zae,zaf,zar,zap,zat,Option.bind_some,zam zaA,zaj,List.getElem?_toArray,List.getElem?_cons_succ,List.getElem?_cons_zero,List.drop_succ_cons,List.drop_zero,zah,zas,Bool.and_self,Bool.true_and,hsum,t5,t17,t18,t19,hk',hk2,c1',c2',iaL hj,ld] at hr
  subst hr
  refine ⟨_,rfl,rfl,?_,?_,?_,?_,?_,hnx,keep⟩
  ·simp [zaa,lim,t5]
  ·simp [zaa,lim,t17]
  ·simp [zaa,lim,t18]
  ·simp [zaa,lim]
  ·rw [hS,fo1,if_neg (by omega)]; exact hN
 obtain ⟨y,rfl⟩:∃ y:Nat,x=.ofNat y:=⟨x.toNat,by simp; omega⟩
 have hy:y<60:=by simp at c2; omega
 have hy1:1≤y:=by simp at c1; omega
 have c1':decide (Int.ofNat y<1)=false:=by simp; omega
 have c2':decide (Int.ofNat y≥60)=false:=by simp; omega
 obtain ⟨F,hF⟩:∃ F,F=foS f (xs.take j):=⟨_,rfl⟩
 rw [← hF] at hN hS
 obtain ⟨tmk,hk⟩:∃ tmk,tmk=((((((((((tm.put 20 (some (.bool true))).put 21 (some (.pointer (some ⟨s,oo+j,none⟩)))).put 22 (some (.int .i64 (.ofNat y)))).put 7 (some (.int .i64 (.ofNat y)))).put 23 (some (.int .i64 (.ofNat y)))).put 24 (some (.bool false))).put 25 (some (.bool false))).put 26 (some (.int .i64 (.ofNat y)))).put 27 (some (.bool false))).put 28 (some (.bool false))).put 29 (some (.int .i64 0)):=⟨_,rfl⟩
 have hin:FlI F y z (.slice (some ⟨s,oo,none⟩) xs.length c) xs.length j n0 g 0 ⟨tmk,h,[]⟩:=by
  subst hk
  refine ⟨rfl,?_,?_,?_,?_,?_,?_,hN.cg fun k hk=>by simp [foF,fcF],hnx,keep⟩<;>simp [zaa,lim,t5,t17,t18,t19]
 obtain ⟨o,⟨tm',h',dd'⟩,e0,e1,e2,e3⟩:=zcS (f:=zab foB (Eo O) ih ⟨145,47,.normal,none⟩) (I:=fun i st=>FlI F y z (.slice (some ⟨s,oo,none⟩) xs.length c) xs.length j n0 g i st) (N:=60)
  (P:=fun o st=>o=.exit 2∧FlI F y z (.slice (some ⟨s,oo,none⟩) xs.length c) xs.length j n0 g 60 st)
  (fun i st hi hI=>.inl (zMZ hy hn0 i hi st hI)) (fun st hI=>zzg st hI) 60 1000000 0 _ (by omega) (by omega) hin
 subst e2
 obtain ⟨hd,r5,r7,r17,r18,r19,r29,rN,rnx,rkeep⟩:=e3
 simp only at hd r5 r7 r17 r18 r19 r29 rN rnx rkeep
 subst hd
 unfold foB foO at e1
 simp only [Tryz.f145,cF,Option.getD,cA,cB,cI,zab] at e1
 subst hk
 unfold foO at hr
 simp only [SSb,Tryz.f145,cF,Option.getD,cA,cB,cI,zab,zac,zao,zak,zau,zal,lim,Nat.reduceLT,Nat.reduceEqDiff,and_true,if_true,if_false,reduceIte,false_and,true_and,Nat.beq,cond_true,cond_false,zad,zae,zaf,zar,zap,zat,Option.bind_some,zam zaA,zaj,List.getElem?_toArray,List.getElem?_cons_succ,List.getElem?_cons_zero,List.drop_succ_cons,List.drop_zero,zah,zas,Bool.and_self,Bool.true_and,hsum,t5,t17,t18,t19,hk',hk2,c1',c2',iaL hj,ld,e1,r19] at hr
 subst hr
 refine ⟨_,rfl,rfl,?_,?_,?_,?_,?_,rnx,rkeep⟩
 ·simp [zaa,lim,r5]
 ·simp [zaa,lim,r17]
 ·simp [zaa,lim,r18]
 ·simp [zaa,lim]
 ·rw [hS,fo1,if_pos (by constructor<;>simp<;>omega)]; exact rN
theorem zwl {f:Nat→Int} {xs:List Int} {z n0:Nat} {sv:Value} {g:Nat→Option SObj} (st:St) (hI:FlJ f xs z sv n0 g xs.length st) :
  ∃ o st',o ≠ .normal∧zab foO (Eo O) ih ⟨145,47,.normal,none⟩ st=.ok (o,st')∧(o=.exit 0∧FlJ f xs z sv n0 g xs.length st'):=by
 obtain ⟨tm,h,dd⟩:=st
 obtain ⟨hd,t5,t17,t18,t19,hN,hnx,keep⟩:=hI
 simp only at hd t5 t17 t18 t19 hN hnx keep
 subst hd
 have hsum:=trivial
 have hk':decide (Int.ofNat xs.length<Int.ofNat xs.length)=false:=by simp
 generalize hr:zab foO (Eo O) ih ⟨145,47,.normal,none⟩ ⟨tm,h,[]⟩=r
 unfold foO at hr
 simp only [SSb,Tryz.f145,cF,Option.getD,cA,cB,cI,zab,zac,zao,zak,zau,zal,lim,Nat.reduceLT,Nat.reduceEqDiff,and_true,if_true,if_false,reduceIte,false_and,true_and,Nat.beq,cond_true,cond_false,zad,zae,zaf,zar,zap,zat,Option.bind_some,zam zaA,zaj,List.getElem?_toArray,List.getElem?_cons_succ,List.getElem?_cons_zero,List.drop_succ_cons,List.drop_zero,zah,zas,Bool.and_self,Bool.true_and,hsum,t18,t19,hk'] at hr
 subst hr
 refine ⟨_,_,by simp,rfl,rfl,rfl,?_,?_,?_,?_,hN,hnx,keep⟩<;>simp [zaa,lim,t5,t17,t18,t19]
theorem zxq {n:Nat} (hO:O 145=none) {f:Nat→Int} {xs:List Int} {b:Nat} {sv:Value} {h:SHeap} (hlen:xs.length<1000) (hb:b<h.next) (hs:SlN h h.next sv xs) (hz:Zon h b f) (hn:h.next+1≤lim) :
  ∃ h',run (Eo O) (n+1) (.call 145 #[.pointer (some ⟨b,0,none⟩),sv] .normal) h=.ok (.pointer (some ⟨h.next,0,none⟩),h')∧Zon h' h.next (foS f xs)∧h'.next=h.next+1∧∀ e,e<h.next→h'.t.get e=h.t.get e:=by
 suffices hcc:∃ tm' h',zab (cF Tryz.f145) (Eo O) (run (Eo O) n) ⟨145,47,.normal,none⟩ ⟨Tr.ofL 33 [.pointer (some ⟨b,0,none⟩),sv],h,[]⟩=.ok (.ret,⟨tm',h',[]⟩)∧tm'.get 4=some (.pointer (some ⟨h.next,0,none⟩))∧Zon h' h.next (foS f xs)∧h'.next=h.next+1∧∀ e,e<h.next→h'.t.get e=h.t.get e by
  obtain ⟨tm',h',k1,k2,k3⟩:=hcc
  exact ⟨h',(zby (show (Eo O).O 145=none from hO)).trans (zaY (vs:=[_]) zCZ zvN zDo rfl zya k1 (by simp only [zaQ,k2,zcM])),k3⟩
 generalize hr:zab (cF Tryz.f145) (Eo O) (run (Eo O) n) ⟨145,47,.normal,none⟩ ⟨Tr.ofL 33 [.pointer (some ⟨b,0,none⟩),sv],h,[]⟩=r
 have t0:(Tr.ofL 33 [Value.pointer (some ⟨b,0,none⟩),sv]).get 0=some (.pointer (some ⟨b,0,none⟩)):=rfl
 have t1:(Tr.ofL 33 [Value.pointer (some ⟨b,0,none⟩),sv]).get 1=some sv:=rfl
 generalize Tr.ofL 33 [Value.pointer (some ⟨b,0,none⟩),sv]=tm at hr t0 t1
 have hsum:=trivial
 obtain ⟨a,cp,hsv⟩:∃ a cp,sv=.slice a xs.length cp:=by
  rcases hs with ⟨rfl,c,rfl⟩ | ⟨s,oo,c,_,rfl,_⟩
  ·exact ⟨_,_,rfl⟩
  ·exact ⟨_,_,rfl⟩
 obtain ⟨hh,s1,z1,nx1,o1⟩:=zst (O:=O) (h:=h) (by omega) f
 have dead:=hz.dead (O:=O)
 have whole:=hz.whole (O:=O)
 obtain ⟨big,hbig⟩:∃ big,big=Value.agg (.bool false::zbc f 3600).toArray:=⟨_,rfl⟩
 rw [← hbig] at whole s1
 obtain ⟨nc,hnc⟩:∃ nc,nc=zai h 289 (.bool false::List.replicate 3600 (.int .i64 0)) false:=⟨_,rfl⟩
 have alc:=zmv (O:=O) (h:=h)
 rw [← hnc] at alc s1
 obtain ⟨tmk,hk⟩:∃ tmk,tmk=((((((((((((tm.put 4 (some (.pointer none))).put 9 (some (.pointer (some ⟨b,0,none⟩)))).put 10 (some (.pointer (some ⟨b,0,none⟩)))).put 11 (some (.pointer (some ⟨b,0+0,none⟩)))).put 12 (some (.bool false))).put 14 (some (.pointer (some ⟨b,0,none⟩)))).put 15 (some (.pointer (some ⟨b,0,none⟩)))).put 16 (some big)).put 5 (some (.pointer (some ⟨h.next,0,none⟩)))).put 17 (some sv)).put 18 (some (.int .i64 (.ofNat xs.length)))).put 19 (some (.int .i64 0))):=⟨_,rfl⟩
 have hin:FlJ f xs h.next sv (h.next+1) h.t.get 0 ⟨tmk,hh,[]⟩:=by
  subst hk
  refine ⟨rfl,?_,?_,?_,?_,z1.cg fun k hk => ?_,nx1,fun e he=>o1 e (by omega)⟩
  ·simp [zaa,lim]
  ·simp [zaa,lim]
  ·simp [zaa,lim]
  ·simp [zaa,lim]
  ·simp [foS]
 obtain ⟨o,⟨tm',h',dd'⟩,e0,e1,e2,e3⟩:=zcS (f:=zab foO (Eo O) (run (Eo O) n) ⟨145,47,.normal,none⟩) (I:=fun j st=>FlJ f xs h.next sv (h.next+1) h.t.get j st) (N:=xs.length)
  (P:=fun o st=>o=.exit 0∧FlJ f xs h.next sv (h.next+1) h.t.get xs.length st)
  (fun j st hj hI=>.inl (zKn hn hlen (fun h2 k=>by
   rcases hs with w | ⟨s,oo,c,w1,w2,w3⟩
   ·exact .inl w
   ·exact .inr ⟨s,oo,c,w1,w2,w3.to (k s w1)⟩) j hj st hI)) (fun st hI=>zwl st hI) xs.length 1000000 0 _ (by omega) (by omega) hin
 subst e2
 obtain ⟨hd,r5,r17,r18,r19,rN,rnx,rkeep⟩:=e3
 simp only at hd r5 r17 r18 r19 rN rnx rkeep
 subst hd
 unfold foO at e1
 simp only [Tryz.f145,cF,Option.getD,cA,cB,cI,zab] at e1
 subst hk
 subst hsv
 simp only [SSb,Tryz.f145,cF,Option.getD,cA,cB,cI,zab,zac,zao,zak,zau,zal,lim,Nat.reduceLT,Nat.reduceEqDiff,and_true,if_true,if_false,reduceIte,false_and,true_and,Nat.beq,cond_true,cond_false,zad,zae,zaf,zar,zap,zat,Option.bind_some,zam zaA,zaj,List.getElem?_toArray,List.getElem?_cons_succ,List.getElem?_cons_zero,List.drop_succ_cons,List.drop_zero,zah,zas,Bool.and_self,Bool.true_and,hsum,zct,zec,zlg (E:=Eo O) E60,dead,whole,alc,s1,t0,t1,e1,r5] at hr
 subst hr
 refine ⟨_,_,rfl,?_,rN.cg fun j hj=>by rw [List.take_length],rnx,rkeep⟩
 simp [zaa,lim]
theorem zda {p:Nat}:∀ {l:List Nat},zgz p l=true↔p∈l
 | []=>by simp [zgz]
 | q::r=>by
  unfold zgz
  cases e:Nat.beq p q with
  | true=>simp [Nat.eq_of_beq_eq_true e]
  | false=>simp only [cond_false,List.mem_cons,zda]; exact ⟨fun h=>.inr h,fun h=>h.resolve_left fun k=>by rw [k,Nat.beq_refl] at e; cases e⟩
theorem ziY {p:Nat} (hp:p<60) (hp1:1≤p):∀ {l:List Int},p∈zcO l↔(p:Int)∈l
 | []=>by simp [zcO]
 | x::r=>by
  unfold zcO
  cases x with
  | negSucc n=>simp only [ziY hp hp1,List.mem_cons]; exact ⟨fun h=>.inr h,fun h=>h.resolve_left (by omega)⟩
  | ofNat n=>
   simp only
   cases e:(Nat.ble 1 n&&Nat.blt n 60) with
   | true=>simp only [cond_true,List.mem_cons,ziY hp hp1]; exact or_congr ⟨fun h=>by subst h; rfl,fun h=>Int.ofNat.inj h⟩ Iff.rfl
   | false=>simp only [cond_false,List.mem_cons,ziY hp hp1]; exact ⟨fun h=>.inr h,fun h=>h.resolve_left fun k=>by
     have:p=n:=Int.ofNat.inj k
     subst this
     rw [Bool.and_eq_false_iff] at e
     rcases e with e | e
     ·rw [Nat.ble_eq_true_of_le hp1] at e; cases e
     ·rw [zaI hp] at e; cases e⟩
theorem zhO:∀ {l:List Int},¬ 0∈zcO l
 | []=>by simp [zcO]
 | x::r=>by
  unfold zcO
  cases x with
  | negSucc n=>exact zhO
  | ofNat n=>
   simp only
   cases e:(Nat.ble 1 n&&Nat.blt n 60) with
   | true=>
    simp only [cond_true,List.mem_cons]
    rintro (w | w)
    ·subst w; cases e
    ·exact zhO w
   | false=>exact zhO
def foH (xs:List Int) (k:Nat):Prop:=k/60≠k%60∧(k/60∈zcO xs∨k%60∈zcO xs)
theorem zrC {x:Int} {xs:List Int} {p:Nat} (hp:p<60):p∈zcO (x::xs)↔(1≤x∧x<60∧(p:Int)=x)∨p∈zcO xs:=by
 rcases Nat.eq_zero_or_pos p with rfl | h0
 ·exact ⟨fun h=>(zhO h).elim,fun h=>by
   rcases h with ⟨a,b,c⟩ | h
   ·omega
   ·exact (zhO h).elim⟩
 ·rw [ziY hp h0,ziY hp h0,List.mem_cons]
  exact or_congr ⟨fun h=>⟨by omega,by omega,h⟩,fun h=>h.2.2⟩ Iff.rfl
theorem zzH {k:Nat} (hk:k<3600):∀ {xs:List Int} {f:Nat→Int},(foH xs k→foS f xs k=2305843009213693952)∧(¬ foH xs k→foS f xs k=f k)
 | [],f=>⟨fun h=>by rcases h with ⟨_,h | h⟩<;>simp [zcO] at h,fun _=>rfl⟩
 | x::xs,f=>by
  obtain ⟨h1,h2⟩:=zzH hk (xs:=xs) (f:=fo1 f x)
  have hc:foS f (x::xs) k=foS (fo1 f x) xs k:=rfl
  rw [hc]
  have e1:=zrC (x:=x) (xs:=xs) (p:=k/60) (by omega)
  have e2:=zrC (x:=x) (xs:=xs) (p:=k%60) (by omega)
  by_cases q:foH xs k
  ·exact ⟨fun _=>h1 q,fun w=>(w ⟨q.1,q.2.imp (fun a=>e1.2 (.inr a)) (fun a=>e2.2 (.inr a))⟩).elim⟩
  ·rw [h2 q]
   have qq:k/60≠k%60→¬ k/60∈zcO xs∧¬ k%60∈zcO xs:=fun a=>⟨fun b=>q ⟨a,.inl b⟩,fun b=>q ⟨a,.inr b⟩⟩
   refine ⟨fun w => ?_,fun w => ?_⟩
   ·obtain ⟨w0,w1⟩:=w
    rw [e1,e2] at w1
    have w1:(1≤x∧x<60)∧(((k/60:Nat):Int)=x∨((k%60:Nat):Int)=x):=by
     rcases w1 with (⟨a,b,c⟩ | a) | (⟨a,b,c⟩ | a)
     ·exact ⟨⟨a,b⟩,.inl c⟩
     ·exact ((qq w0).1 a).elim
     ·exact ⟨⟨a,b⟩,.inr c⟩
     ·exact ((qq w0).2 a).elim
    rw [fo1,if_pos w1.1]
    show fcF f _ _ x.toNat 60 k=_
    unfold fcF
    rcases w1.2 with c | c
    ·rw [if_pos (by omega)]
    ·rw [if_neg (by omega),if_pos (by omega)]
   ·rw [fo1]
    split
    ·rename_i hx
     show fcF f _ _ x.toNat 60 k=_
     unfold fcF
     have n1:¬ (k/60≠k%60∧(((k/60:Nat):Int)=x∨((k%60:Nat):Int)=x)):=fun a=>w ⟨a.1,a.2.imp (fun c=>e1.2 (.inl ⟨hx.1,hx.2,c⟩)) (fun c=>e2.2 (.inl ⟨hx.1,hx.2,c⟩))⟩
     rw [if_neg (by omega),if_neg (by omega)]
    ·rfl
theorem zlm {xs:List Nat}:∀ {l:List Value} {k i:Nat} {v:Value},l[i]? = some v→(zjI xs k l)[i]? = some (zqt xs (k+i) v)
 | [],_,_,_,h=>by simp at h
 | a::r,k,0,v,h=>by
  simp at h; subst h
  simp only [zjI,zeF,List.getElem?_cons_zero,Nat.add_zero]
 | a::r,k,i+1,v,h=>by
  rw [List.getElem?_cons_succ] at h
  simp only [zjI,zaD,List.getElem?_cons_succ]
  rw [zlm h,show k+1+i=k+(i+1) by omega]
theorem ztK {xs:List Nat}:∀ {l:List Value} {k:Nat},(zjI xs k l).length=l.length
 | [],_=>rfl
 | a::r,k=>by simp only [zjI,zaD,List.length_cons,ztK]
theorem zEE {xs:List Int} {k:Nat} (hk:k<3600) {f:Nat→Int}:zqt (zcO xs) k (.int .i64 (f k))=.int .i64 (foS f xs k):=by
 obtain ⟨h1,h2⟩:=zzH hk (xs:=xs) (f:=f)
 unfold zqt
 by_cases e:k/60=k%60
 ·rw [h2 (fun w=>w.1 e),zfF e,cond_true]
 rw [zfq e,cond_false]
 cases e1:zgz (k/60) (zcO xs) with
 | true=>rw [h1 ⟨e,.inl (zda.1 e1)⟩]; rfl
 | false=>
  cases e2:zgz (k%60) (zcO xs) with
  | true=>rw [h1 ⟨e,.inr (zda.1 e2)⟩]; rfl
  | false=>rw [h2 (fun w=>by
    rcases w.2 with w | w
    ·rw [zda.2 w] at e1; cases e1
    ·rw [zda.2 w] at e2; cases e2)]; rfl
theorem zqU:∀ {l:List Value} {xs:List Int},zit l=some xs→xs.length=l.length∧∀ (j:Nat) (x:Int),xs[j]? = some x→l[j]? = some (Value.int .i64 x)
 | [],xs,h=>by simp [zit] at h; subst h; simp
 | v::r,xs,h=>by
  unfold zit at h
  split at h
  ·split at h
   ·rename_i l hl
    obtain rfl:=(Option.some.inj h).symm
    obtain ⟨a,b⟩:=zqU hl
    refine ⟨by simp [a],fun j x hj => ?_⟩
    cases j with
    | zero=>simp at hj; subst hj; rfl
    | succ j=>rw [List.getElem?_cons_succ] at hj ⊢; exact b j x hj
   ·cases h
  ·cases h
theorem zJZ {sv:Value} {h:SHeap} {xs:List Int} (hl:zhy sv h=some xs) (hlow:∀ b o,h.t.get b=some o→b<h.next):SlN h h.next sv xs∧zlb sv=xs.length:=by
 unfold zhy at hl
 split at hl
 ·rename_i l c
  cases e:Nat.beq l 0 with
  | true=>rw [e,cond_true] at hl; obtain rfl:=(Option.some.inj hl).symm; obtain rfl:=Nat.eq_of_beq_eq_true e; exact ⟨.inl ⟨rfl,_,rfl⟩,rfl⟩
  | false=>rw [e] at hl; cases hl
 ·rename_i s oo l c
  split at hl
  ·rename_i t n e op r hs
   split at hl
   ·rename_i vs hv
    obtain ⟨q1,q2⟩:=zqU hl
    obtain ⟨w1,w2⟩:=zds _ _ _ _ hv
    refine ⟨.inr ⟨s,oo,c,hlow _ _ hs,by rw [q1,w1],t,n,e,op,r,hs,fun j x hj => ?_⟩,by rw [q1,w1]; rfl⟩
    have hj2:j<l:=by
     have:=(List.getElem?_eq_some_iff.1 hj).1
     omega
    rw [← w2 j hj2]; exact q2 j x hj
   ·cases hl
  ·cases hl
 ·cases hl
theorem zrK (KE:EnvOK (Eo O)) (hdraw:zcp (Eo O)) (hOK:∀ f g,(Eo O).O f=some g→zaz (Eo O) f g) (hO:O 145=none):zaz (Eo O) 145 (znI 289):=
 zcJ (zdc KE hdraw hOK 1) fun args h w h' hlow hok=>by
  obtain ⟨l⟩:=args
  unfold znI at hok
  split at hok
  ·rename_i z sv e
   have e:l=[.pointer (some ⟨z,0,none⟩),sv]:=e
   subst e
   split at hok
   ·rename_i c nn e hz
    split at hok
    ·rename_i cs hcs
     split at hok
     ·rename_i xs hxs
      cases e3:(zbu cs&&Nat.beq nn 3601&&Nat.beq e 289&&Nat.ble (h.next+1) lim&&Nat.blt (zlb sv) 1000) with
      | false=>rw [e3] at hok; simp at hok
      | true=>
      rw [e3,cond_true,zav] at hok
      simp only [Bool.and_eq_true] at e3
      obtain ⟨⟨⟨⟨f1,f2⟩,f3⟩,f4⟩,f5⟩:=e3
      obtain rfl:=Nat.eq_of_beq_eq_true f2
      obtain rfl:=Nat.eq_of_beq_eq_true f3
      have f4:=Nat.le_of_ble_eq_true f4
      have f5:=zaB f5
      have hZ:=zkl hz hcs f1
      obtain ⟨hs,hlen⟩:=zJZ hxs hlow
      rw [hlen] at f5
      obtain ⟨r,hr⟩:∃ r,r=Tr.ofL 33 (Value.bool false::zjI (zcO xs) 0 cs):=⟨_,rfl⟩
      rw [← hr] at hok
      obtain ⟨rfl,rfl⟩:=zaq hok
      obtain ⟨h2,k1,⟨c',m1,m2,m3⟩,k3,k4⟩:=zxq (O:=O) (n:=0) hO f5 (hlow _ _ hz) hs hZ f4
      have hcl:cs.length=3600:=by have:=(zcF hcs).1; simpa using this
      refine ⟨h2,k1,k3,fun q x' hq => ?_⟩
      simp only [zaa] at hq
      by_cases eq:q=h.next
      ·rw [if_pos ⟨eq,by omega⟩] at hq
       obtain rfl:=(Option.some.inj hq).symm
       refine ⟨_,by rw [eq]; exact m1,ObjLe.cells fun i y' hy => ?_⟩
       rw [hr] at hy
       have hlt:=zbU hy
       rw [zbv hlt] at hy
       cases i with
       | zero=>simp at hy; subst hy; exact m2
       | succ i=>
        rw [List.getElem?_cons_succ] at hy
        have hi:i<3600:=by
         rcases Nat.lt_or_ge i 3600 with w | w
         ·exact w
         ·rw [List.getElem?_eq_none (by rw [ztK,hcl]; exact w)] at hy; cases hy
        obtain ⟨c2,n1,n2,n3⟩:=hZ
        rw [hz] at n1
        obtain ⟨rfl⟩:c=c2:=by cases n1; rfl
        have hcs2:cs[i]? = some (.int .i64 (fv c (1+i))):=by
         have:=(zcF hcs).2 (1+i) (by omega) (by unfold lim; omega)
         rw [show 1+i=i+1 by omega,List.getElem?_cons_succ] at this
         rw [this,show i+1=1+i by omega]; exact n3 i hi
        rw [zlm hcs2,Nat.zero_add] at hy
        rw [← hy,show i+1=1+i by omega,m3 i hi]
        exact congrArg some (zEE (f:=fun k=>fv c (1+k)) hi).symm
      ·rw [if_neg (fun w=>eq w.1)] at hq
       exact ⟨x',by rw [k4 q (hlow q x' hq)]; exact hq,ObjLe.refl x'⟩
     ·simp at hok
    ·simp at hok
   ·simp at hok
  ·simp at hok
end Go.Proofs.YtghhpeemloeljaaGreat
set_option linter.unusedSimpArgs false
set_option linter.unusedVariables false
namespace Go.Proofs.YtghhpeemloeljaaGreat
open Go Go.Sim
theorem zgS {E:Env} {f:FuncId} {g g':OF} (hg:zaz E f g) (hr:∀ args h v h',(∀ b o,h.t.get b=some o→b<h.next)→(∀ b c n e p q,h.t.get b=some (.cells c n e p q)→∀ i v,c.get i=some v→i<n)→g' args h=.ok (v,h') →
  ∃ h'',g args h=.ok (v,h'')∧h''.next=h'.next∧∀ b o,h'.t.get b=some o→∃ o2,h''.t.get b=some o2∧ObjLe E o2 o):zaz E f g':=by
 intro args h v h' hok ρ w hw hgr rargs ha c cs
 obtain ⟨h'',h1,h2,h3⟩:=hr args.toList h v h' (fun b o hb=>let ⟨r,κ,a,_⟩:=hw.live b o hb; hw.dom b _ a)
  (fun b c n e p q hb=>let ⟨r,κ,_,⟨m,k⟩⟩:=hw.live b _ hb; k.lt) hok
 obtain ⟨ρ',w',u,k1,k2,k3,k4⟩:=hg args h v h'' h1 ρ w hw hgr rargs ha c cs
 have hM:∀ r,zce ρ' h' r→zce ρ' h'' r:=fun r ⟨b,o,κ,a,e⟩=>let ⟨o2,b1,_⟩:=h3 b o a; ⟨b,o2,κ,b1,e⟩
 have hO:∀ r,Own ρ' h' r→Own ρ' h'' r:=fun r ⟨b,o,κ,a,e,n⟩=>let ⟨o2,b1,b2⟩:=h3 b o a; ⟨b,o2,κ,b1,e,b2.ro.1 n⟩
 refine ⟨ρ',w',u,k1,⟨fun b p hb=>by have:=k2.dom b p hb; omega,fun b o hb => ?_,fun b b' o o' r κ κ' hb hb' => ?_,k2.glob⟩,
  ⟨k3.le,k3.size,fun r hr hn=>let ⟨a,e⟩:=k3.keep r hr hn; ⟨a,fun h=>e (hO r h)⟩,k3.os,k3.output,k3.tape,fun r hr hn h=>k3.fresh r hr hn (hM r h),k3.names,by have:=k3.next; omega⟩,k4⟩
 ·obtain ⟨o2,b1,b2⟩:=h3 b o hb
  obtain ⟨r,κ,c1,c2⟩:=k2.live b o2 b1
  exact ⟨r,κ,c1,b2.at_ _ _ _ _ c2⟩
 ·obtain ⟨o2,b1,q⟩:=h3 b o hb
  obtain ⟨o2',b1',_⟩:=h3 b' o' hb'
  exact fun e1 e2 hs=>k2.inj b b' o2 o2' r κ κ' b1 b1' e1 e2 (hs.imp q.sent id)
theorem zlC {x:Value}:∀ {a b:List Value},x∈merge a b→x∈a∨x∈b
 | [],b,h=>.inr h
 | y::a,[],h=>.inl h
 | y::a,z::b,h=>by
  simp only [merge,List.mem_cons] at h
  rcases h with rfl | rfl | h
  ·exact .inl (by simp)
  ·exact .inr (by simp)
  ·rcases zlC h with h | h
   ·exact .inl (by simp [h])
   ·exact .inr (by simp [h])
theorem zjd:∀ (f:Nat) (t:Tr Value) (n:Nat) (c:Bool),zet f t n c=true→∃ l,t.toL f n=some l∧l.length=n∧∀ x∈(bif c then l else l.tail),zhh x=true
 | 0,t,n,c,h=>by simp [cqz,cqn,cqo] at h
 | f+1,t,0,c,h=>⟨[],rfl,rfl,fun x hx=>by cases c<;>simp at hx⟩
 | f+1,.nil,m+1,c,h=>by simp [cqz,cqn,cqo] at h
 | f+1,.node l none r,m+1,c,h=>by simp [cqz,cqn,cqo] at h
 | f+1,.node l (some x) r,0+1,c,h=>by
  refine ⟨[x],rfl,rfl,fun y hy => ?_⟩
  cases c with
  | false=>simp at hy
  | true=>
   simp only [cqs,cond_true,Bool.and_true] at h
   simp only [cond_true,List.mem_singleton] at hy
   rw [hy]; exact h
 | f+1,.node l (some x) r,1+1,c,h=>by
  simp only [cqs,Bool.and_eq_true,Bool.and_true] at h
  obtain ⟨o,o1,o2,o3⟩:=zjd f l (0/2+1) true h.2
  refine ⟨x::o,by simp only [Tr.toL,o1],by simp [o2],fun y hy => ?_⟩
  cases c with
  | false=>exact o3 y hy
  | true=>
   rcases List.mem_cons.1 hy with rfl | hy
   ·exact h.1
   ·exact o3 y hy
 | f+1,.node l (some x) r,j+1+1+1,c,h=>by
  simp only [cqs,Bool.and_eq_true] at h
  obtain ⟨o,o1,o2,o3⟩:=zjd f l ((j+1)/2+1) true h.2.1
  obtain ⟨e,e1,e2,e3⟩:=zjd f r (j/2+2) false h.2.2
  match e,e2 with
  | z::e,e2=>
   have hl:=(zhk (f+1) (.node l (some x) r) (j+1+1+1) (x::merge o e) (by simp only [Tr.toL,o1,e1])).1
   refine ⟨x::merge o e,by simp only [Tr.toL,o1,e1],hl,fun y hy => ?_⟩
   have rest:y∈merge o e→zhh y=true:=fun hy=>by
    rcases zlC hy with hy | hy
    ·exact o3 y hy
    ·exact e3 y hy
   cases c with
   | false=>exact rest hy
   | true=>
    rcases List.mem_cons.1 hy with rfl | hy
    ·exact h.1
    ·exact rest hy
theorem zjo:∀ {l:List Value},(∀ x∈l,zhh x=true)→zbu l=true
 | [],_=>rfl
 | v::r,h=>by
  have h1:=h v (by simp)
  have h2:=zjo (l:=r) fun x hx=>h x (by simp [hx])
  unfold zhh at h1
  split at h1
  ·split at h1
   ·exact h2
   ·cases h1
  ·cases h1
theorem zke {c:Tr Value} (h:zfG c=true):∃ cs,c.toL 32 3601=some (.bool false::cs)∧zbu cs=true:=by
 unfold zfG at h
 split at h
 ·cases h
 ·rename_i l v r
  split at h
  ·obtain ⟨L,h1,h2,h3⟩:=zjd _ _ _ _ h
   obtain ⟨_,g⟩:=zcF h1
   have g0:=g 0 (by omega) (by unfold lim; omega)
   match L,h2 with
   | x::cs,_=>
    refine ⟨cs,?_,zjo h3⟩
    rw [h1]
    have g0:some x=(Tr.node l (some (Value.bool false)) r).get 0:=g0
    have:(Tr.node l (some (Value.bool false)) r).get 0=some (.bool false):=rfl
    rw [this] at g0
    rw [Option.some.inj g0]
  ·cases h
theorem zEe {c:Tr Value} (h:zwH c=true):∃ b cs,c.toL 32 3601=some (.bool b::cs)∧zbu cs=true∧c.get 0=some (.bool b):=by
 unfold zwH at h
 split at h
 ·cases h
 ·rename_i l v r
  split at h
  ·rename_i b
   obtain ⟨L,h1,h2,h3⟩:=zjd _ _ _ _ h
   obtain ⟨_,g⟩:=zcF h1
   have g0:=g 0 (by omega) (by unfold lim; omega)
   match L,h2 with
   | x::cs,_=>
    refine ⟨b,cs,?_,zjo h3,rfl⟩
    rw [h1]
    have g0:some x=(Tr.node l (some (Value.bool b)) r).get 0:=g0
    have:(Tr.node l (some (Value.bool b)) r).get 0=some (.bool b):=rfl
    rw [this] at g0
    rw [Option.some.inj g0]
  ·cases h
theorem zeL {r:Tr Value} {k:Nat} {x:Int} {m:Nat} (hk:k<lim):(zjK r k x).get m=if m=k then some (.int .i64 x) else r.get m:=by
 unfold zjK
 rw [zbF,zaa]
 by_cases e:m=k
 ·rw [if_pos ⟨e,hk⟩,if_pos e]
 ·rw [if_neg (fun w=>e w.1),if_neg e]
theorem zii {c:Tr Value} {cs:List Value} (hcs:c.toL 32 3601=some (.bool false::cs)) (h:zbu cs=true) {k:Nat} (hk:k<3600):c.get (1+k)=some (.int .i64 (fv c (1+k))):=by
 obtain ⟨w1,w2⟩:=zcF hcs
 have hlen:cs.length=3600:=by simpa using w1
 obtain ⟨m,hm⟩:=zdI h k (by omega)
 have:c.get (1+k)=some (.int .i64 m):=by
  rw [← w2 (1+k) (by omega) (by unfold lim; omega),show 1+k=k+1 by omega,List.getElem?_cons_succ,hm]
 rw [zhI this]; exact this
theorem znS {g:Nat→Int} {k:Nat} (hk:k<3600):(Tr.ofL 33 (Value.bool false::zbR g 3600 [])).get (1+k)=some (.int .i64 (g k)):=by
 rw [zbv (by unfold lim; omega),show 1+k=k+1 by omega,List.getElem?_cons_succ,zeh,List.append_nil,zdf hk]
theorem ziw {l:List Value}:(Tr.ofL 33 (Value.bool false::l)).get 0=some (.bool false):=by
 rw [zbv (by unfold lim; omega)]; rfl
structure Tab0 (c r:Tr Value):Prop where
 zero:r.get 0=c.get 0
 far:∀ m,3601≤m→r.get m=c.get m
theorem zmR {E:Env} {h:SHeap} {n:Nat} {c r':Tr Value} {e b:Nat} (hc:∀ i v,r'.get i=some v→c.get i=some v):∀ q o,(h.t.put b (some (.cells r' n e false false))).get q=some o→∃ o2,(h.t.put b (some (.cells c n e false false))).get q=some o2∧ObjLe E o2 o:=by
 intro q o hq
 rw [zaa] at hq
 by_cases w:q=b∧b<lim
 ·rw [if_pos w] at hq
  obtain rfl:=(Option.some.inj hq).symm
  exact ⟨_,by rw [zaa,if_pos w],ObjLe.cells hc⟩
 ·rw [if_neg w] at hq
  exact ⟨o,by rw [zaa,if_neg w]; exact hq,ObjLe.refl o⟩
theorem zvH {c r':Tr Value} {g:Nat→Int} (hb:∀ i v,c.get i=some v→i<3601) (h0:Tab0 c r') (hc0:c.get 0=some (.bool false)) (hg:∀ k,k<3600→r'.get (1+k)=some (.int .i64 (g k))):∀ i v,r'.get i=some v→(Tr.ofL 33 (Value.bool false::zbR g 3600 [])).get i=some v:=by
 intro i v hi
 rcases Nat.lt_or_ge i 3601 with w | w
 ·cases i with
  | zero=>rw [h0.zero,hc0] at hi; rw [ziw]; exact hi
  | succ k=>
   rw [show k+1=1+k by omega] at hi ⊢
   rw [znS (by omega),← hg k (by omega)]; exact hi
 ·rw [h0.far i w] at hi
  exact absurd (hb i v hi) (by omega)
theorem znJ {c:Tr Value} {x y:Nat} {v nv:Int} (hx:x<60):∀ (n:Nat) (r:Tr Value),n≤60→Tab0 r (zkB c x y v nv n r)
 | 0,r,_=>⟨rfl,fun _ _=>rfl⟩
 | n+1,r,hn=>by
  unfold zkB
  cases e:Nat.beq n x with
  | true=>exact znJ hx n r (by omega)
  | false=>
   simp only [cond_false,zav]
   obtain ⟨a,b⟩:=znJ (c:=c) (y:=y) (v:=v) (nv:=nv) hx n (zjK (zjK r (1+(x*60+n)) (zaM (fv c (1+(y*60+n))) v)) (1+(n*60+x)) (zaM (fv c (1+(n*60+y))) nv)) (by omega)
   refine ⟨a.trans ?_,fun m hm=>(b m hm).trans ?_⟩
   ·rw [zeL (by unfold lim; omega),zeL (by unfold lim; omega),if_neg (by omega),if_neg (by omega)]
   ·rw [zeL (by unfold lim; omega),zeL (by unfold lim; omega),if_neg (by omega),if_neg (by omega)]
theorem zom {c:Tr Value} {x y:Nat} {v nv:Int} (hx:x<60) {k:Nat}:∀ (n:Nat) (r:Tr Value),n≤60→(zkB c x y v nv n r).get (1+k) =
  if k/60=x∧k%60≠x∧k%60<n then some (.int .i64 (zaM (fv c (1+(y*60+k%60))) v)) else
  if k%60=x∧k/60≠x∧k/60<n then some (.int .i64 (zaM (fv c (1+(k/60*60+y))) nv)) else r.get (1+k)
 | 0,r,_=>by rw [if_neg (by omega),if_neg (by omega)]; rfl
 | n+1,r,hn=>by
  unfold zkB
  cases e:Nat.beq n x with
  | true=>
   have e:=Nat.eq_of_beq_eq_true e
   rw [cond_true,zom hx n r (by omega)]
   have e1:(k/60=x∧k%60≠x∧k%60<n)↔(k/60=x∧k%60≠x∧k%60<n+1):=by omega
   have e2:(k%60=x∧k/60≠x∧k/60<n)↔(k%60=x∧k/60≠x∧k/60<n+1):=by omega
   simp only [e1,e2]
  | false=>
   have e:n≠x:=Nat.ne_of_beq_eq_false e
   simp only [cond_false,zav]
   rw [zom hx n _ (by omega)]
   by_cases a:k/60=x∧k%60≠x∧k%60<n
   ·rw [if_pos a,if_pos (by omega)]
   rw [if_neg a]
   by_cases b:k%60=x∧k/60≠x∧k/60<n
   ·rw [if_pos b,if_neg (by omega),if_pos (by omega)]
   rw [if_neg b,zeL (by unfold lim; omega),zeL (by unfold lim; omega)]
   by_cases c1:1+k=1+(n*60+x)
   ·have q:k/60=n∧k%60=x:=by omega
    rw [if_pos c1,if_neg (by omega),if_pos (by omega),q.1]
   rw [if_neg c1]
   by_cases c2:1+k=1+(x*60+n)
   ·have q:k/60=x∧k%60=n:=by omega
    rw [if_pos c2,if_pos (by omega),q.2]
   rw [if_neg c2,if_neg (by omega),if_neg (by omega)]
theorem znX {c:Tr Value} {t:Int} {j p:Nat} (hp:p<60):∀ (n:Nat) (r:Tr Value),n≤60→Tab0 r (zjH c t j p n r)
 | 0,r,_=>⟨rfl,fun _ _=>rfl⟩
 | n+1,r,hn=>by
  simp only [zjH,zbF,zav]
  cases decide (zaM t (fv c (1+(j*60+n)))<fv c (1+(p*60+n))) with
  | false=>exact znX hp n r (by omega)
  | true=>
   obtain ⟨a,b⟩:=znX (c:=c) (t:=t) (j:=j) hp n (zjK r (1+(p*60+n)) (zaM t (fv c (1+(j*60+n))))) (by omega)
   refine ⟨a.trans ?_,fun m hm=>(b m hm).trans ?_⟩
   ·rw [zeL (by unfold lim; omega),if_neg (by omega)]
   ·rw [zeL (by unfold lim; omega),if_neg (by omega)]
theorem zhl {c:Tr Value} {t:Int} {j p:Nat} (hp:p<60) {k:Nat}:∀ (n:Nat) (r:Tr Value),n≤60→(zjH c t j p n r).get (1+k) =
  if k/60=p∧k%60<n∧zaM t (fv c (1+(j*60+k%60)))<fv c (1+k) then some (.int .i64 (zaM t (fv c (1+(j*60+k%60))))) else r.get (1+k)
 | 0,r,_=>by rw [if_neg (by omega)]; rfl
 | n+1,r,hn=>by
  simp only [zjH,zbF,zav]
  by_cases c1:k/60=p∧k%60=n
  ·have hk:p*60+n=k:=by omega
   rw [hk]
   by_cases c2:zaM t (fv c (1+(j*60+n)))<fv c (1+k)
   ·rw [decide_eq_true c2,cond_true,zhl hp n _ (by omega),if_neg (by omega),zeL (by unfold lim; omega),if_pos rfl,if_pos ⟨c1.1,by omega,by rw [c1.2]; exact c2⟩,c1.2]
   ·rw [decide_eq_false c2,cond_false,zhl hp n _ (by omega),if_neg (by omega),if_neg (fun w=>c2 (by rw [c1.2] at w; exact w.2.2))]
  ·have e1:(k/60=p∧k%60<n∧zaM t (fv c (1+(j*60+k%60)))<fv c (1+k))↔(k/60=p∧k%60<n+1∧zaM t (fv c (1+(j*60+k%60)))<fv c (1+k)):=by
    constructor
    ·rintro ⟨a,b,d⟩; exact ⟨a,by omega,d⟩
    ·rintro ⟨a,b,d⟩; exact ⟨a,by omega,d⟩
   cases decide (zaM t (fv c (1+(j*60+n)))<fv c (1+(p*60+n))) with
   | false=>rw [cond_false,zhl hp n _ (by omega)]; simp only [e1]
   | true=>
    rw [cond_true,zhl hp n _ (by omega)]; simp only [e1]
    rw [zeL (by unfold lim; omega),if_neg (show ¬ (1+k=1+(p*60+n)) by omega)]
theorem znU {c:Tr Value} {i j:Nat} {v:Int}:∀ (n:Nat) (r:Tr Value),n≤60→Tab0 r (zhr c i j v n r)
 | 0,r,_=>⟨rfl,fun _ _=>rfl⟩
 | n+1,r,hn=>by
  simp only [zhr,zbF,zav]
  cases zbA (zaM (fv c (1+(n*60+i))) v) with
  | true=>exact znU n r (by omega)
  | false=>
   obtain ⟨a,b⟩:=znX (c:=c) (t:=zaM (fv c (1+(n*60+i))) v) (j:=j) (p:=n) (by omega) 60 r (Nat.le_refl _)
   obtain ⟨a2,b2⟩:=znU (c:=c) (i:=i) (j:=j) (v:=v) n (zjH c (zaM (fv c (1+(n*60+i))) v) j n 60 r) (by omega)
   exact ⟨a2.trans a,fun m hm=>(b2 m hm).trans (b m hm)⟩
theorem ziX {c:Tr Value} {i j:Nat} {v:Int} {k:Nat} (hk:k<3600):∀ (n:Nat) (r:Tr Value),n≤60→(zhr c i j v n r).get (1+k) =
  if k/60<n∧zbA (zaM (fv c (1+(k/60*60+i))) v)=false∧zaM (zaM (fv c (1+(k/60*60+i))) v) (fv c (1+(j*60+k%60)))<fv c (1+k) then some (.int .i64 (zaM (zaM (fv c (1+(k/60*60+i))) v) (fv c (1+(j*60+k%60))))) else r.get (1+k)
 | 0,r,_=>by rw [if_neg (by omega)]; rfl
 | n+1,r,hn=>by
  simp only [zhr,zbF,zav]
  by_cases c1:k/60=n
  ·subst c1
   cases e:zbA (zaM (fv c (1+(k/60*60+i))) v) with
   | true=>rw [cond_true,ziX hk _ _ (by omega),if_neg (by omega),if_neg (fun w=>by simp at w)]
   | false=>
    rw [cond_false,ziX hk _ _ (by omega),if_neg (by omega),zhl (by omega) 60 r (Nat.le_refl _)]
    by_cases c2:zaM (zaM (fv c (1+(k/60*60+i))) v) (fv c (1+(j*60+k%60)))<fv c (1+k)
    ·rw [if_pos ⟨rfl,by omega,c2⟩,if_pos ⟨by omega,rfl,c2⟩]
    ·rw [if_neg (fun w=>c2 w.2.2),if_neg (fun w=>c2 w.2.2)]
  ·have e1:∀ (P:Prop),(k/60<n∧P)↔(k/60<n+1∧P):=fun P=>⟨fun w=>⟨by omega,w.2⟩,fun w=>⟨by omega,w.2⟩⟩
   cases zbA (zaM (fv c (1+(n*60+i))) v) with
   | true=>rw [cond_true,ziX hk _ _ (by omega)]; simp only [e1]
   | false=>
    rw [cond_false,ziX hk _ _ (by omega)]; simp only [e1]
    rw [zhl (by omega) 60 r (Nat.le_refl _),if_neg (show ¬ (k/60=n∧_) from fun w=>c1 w.1)]
theorem zoj {F:Int→Int→Int}:∀ (p:List Bool) (a b:Tr Value),(zeH F a b).get' p=zgA F (a.get' p) (b.get' p)
 | p,.nil,b=>by simp only [zeH,zbP]; rfl
 | p,.node l v r,.nil=>by
  simp only [zeH,zbP]
  unfold zgA
  split<;>rfl
 | [],.node l v r,.node l' v' r'=>by
  simp only [zeH,zav]
  show (match zgA F v v' with | some x=>Tr.node (zeH F l l') (some x) (zeH F r r') | none=>.node (zeH F l l') none (zeH F r r')).get' []=zgA F v v'
  cases zgA F v v'<;>rfl
 | b::p,.node l v r,.node l' v' r'=>by
  simp only [zeH,zav]
  have h1:=zoj (F:=F) p l l'
  have h2:=zoj (F:=F) p r r'
  have:(match zgA F v v' with | some x=>Tr.node (zeH F l l') (some x) (zeH F r r') | none=>.node (zeH F l l') none (zeH F r r')).get' (b::p)=bif b then (zeH F l l').get' p else (zeH F r r').get' p:=by cases zgA F v v'<;>exact gqc
  refine this.trans ?_
  rw [h1,h2]
  cases b<;>rfl
theorem zFg {F:Int→Int→Int} {a b:Tr Value} {i:Nat}:(zeH F a b).get i=zgA F (a.get i) (b.get i):=by
 unfold Tr.get
 cases Nat.blt i lim with
 | false=>rfl
 | true=>exact zoj _ a b
theorem zwD {c:Tr Value} {cs:List Value} (hcs:c.toL 32 3601=some (.bool false::cs)):c.get 0=some (.bool false):=by
 obtain ⟨_,w2⟩:=zcF hcs
 rw [← w2 0 (by omega) (by unfold lim; omega)]; rfl
theorem zvg {E:Env} (hg:zaz E 207 (zxt 289)):zaz E 207 (zqe 289):=zgS hg fun args h v h' hlow hcell hok=>by
 unfold zqe at hok
 split at hok
 ·rename_i z x y v
  unfold zBH at hok
  split at hok
  ·rename_i c n e hz
   cases e3:(zfG c&&Nat.beq n 3601&&Nat.beq e 289&&Nat.ble (h.next+1) lim&&Nat.blt x 60&&Nat.blt y 60&&Nat.ble 1 x&&inB v) with
   | false=>rw [e3] at hok; simp at hok
   | true=>
   rw [e3,cond_true,zbF,zav] at hok
   simp only [Bool.and_eq_true] at e3
   obtain ⟨⟨⟨⟨⟨⟨⟨f1,f2⟩,f3⟩,f4⟩,f5⟩,f6⟩,f7⟩,f8⟩:=e3
   obtain ⟨cs,hcs,hall⟩:=zke f1
   obtain rfl:=Nat.eq_of_beq_eq_true f2
   obtain ⟨rfl,rfl⟩:=zaq hok
   refine ⟨⟨h.t.put h.next (some (.cells (Tr.ofL 33 (Value.bool false::zbR (zus c x y v (zaK .i64 (0-v))) 3600 [])) 3601 289 false false)),h.next+1⟩,?_,rfl,?_⟩
   ·unfold zxt zAz
    simp only [hz,hcs]
    rw [show (zbu cs&&Nat.beq 3601 3601&&Nat.beq e 289&&Nat.ble (h.next+1) lim&&Nat.blt x 60&&Nat.blt y 60&&Nat.ble 1 x&&inB v)=true by simp only [hall,f3,f4,f5,f6,f7,f8]; rfl,cond_true,zbF,zav]
   ·have hx:=zaB f5
    refine zmR (zvH (hcell _ _ _ _ _ _ hz) (znJ hx 60 c (Nat.le_refl _)) (zwD hcs) fun k hk => ?_)
    rw [zom hx 60 c (Nat.le_refl _),zvJ hk]
    unfold asF fcF
    by_cases a:k/60=x∧k%60≠x∧k%60<60
    ·rw [if_pos a,if_pos a]
    ·rw [if_neg a,if_neg a]
     by_cases b:k%60=x∧k/60≠x∧k/60<60
     ·rw [if_pos b,if_pos b]
     ·rw [if_neg b,if_neg b]; exact zii hcs hall hk
  ·simp at hok
 ·simp at hok
theorem zok:∀ (t:Tr Value) (g:Nat) (c:Bool) (i s n:Nat),n<2^g→(n=0→c=true)→zcW (t.get' (zcx g n))=true→i+s*n∈zcB c i s t
 | .nil,g,c,i,s,n,_,_,h=>by simp [zbP,zcW] at h
 | .node l v r,g,c,i,s,n,hn,hc,h=>by
  have rest:(0<n→i+s*n∈zcB true (i+s) (2*s) l++zcB false i (2*s) r)→i+s*n∈zcB c i s (.node l v r):=fun k=>by
   rw [nqs]
   simp only [zaD]
   rcases Nat.eq_zero_or_pos n with e | e
   ·subst e
    obtain rfl:=hc rfl
    have h:zcW v=true:=by cases g<;>exact h
    rw [h]
    simp
   ·cases (c&&zcW v) with
    | true=>exact List.mem_cons_of_mem _ (k e)
    | false=>exact k e
  refine rest fun h0 => ?_
  cases g with
  | zero=>simp at hn; omega
  | succ g=>
   cases n with
   | zero=>omega
   | succ n=>
    have hn2:(n+1)/2<2^g:=by rw [Nat.pow_succ] at hn; omega
    have h:zcW (bif Nat.beq ((n+1)%2) 1 then l.get' (zcx g ((n+1)/2)) else r.get' (zcx g ((n+1)/2)))=true:=by rw [show zcx (g+1) (n+1)=Nat.beq ((n+1)%2) 1::zcx g ((n+1)/2) from rfl,gqc] at h; exact h
    rcases (show (n+1)%2=1∨(n+1)%2=0 by omega) with q | q
    ·rw [q] at h
     have:=zok l g true (i+s) (2*s) ((n+1)/2) hn2 (fun _=>rfl) h
     have e:i+s+2*s*((n+1)/2)=i+s*(n+1):=by
      have hd:n+1=2*((n+1)/2)+1:=by omega
      rw [Nat.mul_comm 2 s,Nat.mul_assoc]
      conv=>rhs; rw [hd,Nat.mul_add,Nat.mul_one]
      omega
     rw [e] at this
     exact List.mem_append_left _ this
    ·rw [q] at h
     have:=zok r g false i (2*s) ((n+1)/2) hn2 (fun e=>by omega) h
     have e:i+2*s*((n+1)/2)=i+s*(n+1):=by
      have hd:n+1=2*((n+1)/2):=by omega
      rw [Nat.mul_comm 2 s,Nat.mul_assoc]
      conv=>rhs; rw [hd]
     rw [e] at this
     exact List.mem_append_right _ this
theorem zmH {t:Tr Value} {i:Nat} (hi:i<lim) (h:zcW (t.get i)=true):i∈zcB true 0 1 t:=by
 unfold Tr.get at h
 rw [zaI hi,cond_true] at h
 have:=zok t 32 true 0 1 i hi (fun _=>rfl) h
 simpa using this
theorem zhv {xs:List Nat} {k:Nat}:zmD xs k=true↔k/60≠k%60∧(k/60∈xs∨k%60∈xs):=by
 unfold zmD
 by_cases d:k/60=k%60
 ·rw [zfF d,cond_true]; exact ⟨fun h=>(by cases h),fun h=>(h.1 d).elim⟩
 ·rw [zfq d,cond_false]
  cases e1:zgz (k/60) xs with
  | true=>exact ⟨fun _=>⟨d,.inl (zda.1 e1)⟩,fun _=>rfl⟩
  | false=>exact ⟨fun h=>⟨d,.inr (zda.1 h)⟩,fun h=>by
    rcases h.2 with w | w
    ·rw [zda.2 w] at e1; cases e1
    ·exact zda.2 w⟩
theorem zgF {xs:List Nat}:∀ (l:List Nat) (r:Tr Value),Tab0 r (zhf xs l r)
 | [],r=>⟨rfl,fun _ _=>rfl⟩
 | 0::l,r=>zgF l r
 | (k+1)::l,r=>by
  simp only [zhf,zav]
  cases q:(Nat.blt k 3600&&zmD xs k) with
  | false=>exact zgF l r
  | true=>
   rw [Bool.and_eq_true] at q
   have hk:=zaB q.1
   obtain ⟨a,b⟩:=zgF (xs:=xs) l (r.put (k+1) (some (.int .i64 2305843009213693952)))
   refine ⟨a.trans ?_,fun m hm=>(b m hm).trans ?_⟩
   ·rw [zaa,if_neg (by omega)]
   ·rw [zaa,if_neg (by omega)]
theorem zgy {xs:List Nat} {k:Nat} (hk:k<3600):∀ (l:List Nat) (r:Tr Value),(zhf xs l r).get (1+k)=if (1+k)∈l∧zmD xs k=true then some (.int .i64 2305843009213693952) else r.get (1+k)
 | [],r=>by rw [if_neg (fun w=>by simp at w)]; rfl
 | 0::l,r=>by
  show (zhf xs l r).get (1+k)=_
  rw [zgy hk l r]
  have:(1+k∈l)↔(1+k∈0::l):=by simp
  simp only [this]
 | (j+1)::l,r=>by
  simp only [zhf,zav]
  by_cases e:j=k
  ·subst e
   rw [zaI hk,Bool.true_and]
   cases q:zmD xs j with
   | true=>
    rw [cond_true,zgy hk l _]
    rw [if_pos (c:=_∈(j+1)::l∧_) ⟨by rw [Nat.add_comm]; simp,rfl⟩]
    split
    ·rfl
    ·rw [zaa,if_pos ⟨by omega,by unfold lim; omega⟩]
   | false=>rw [cond_false,zgy hk l r,q,if_neg (fun w=>by simp at w),if_neg (fun w=>by simp at w)]
  ·have hm:(1+k∈l)↔(1+k∈(j+1)::l):=by
    rw [List.mem_cons]
    exact ⟨.inr,fun w=>w.resolve_left (by omega)⟩
   cases (Nat.blt j 3600&&zmD xs j) with
   | true=>
    rw [cond_true,zgy hk l _]; simp only [hm]
    rw [zaa,if_neg (show ¬ (1+k=j+1∧_) from fun w=>by omega)]
   | false=>rw [cond_false,zgy hk l r]; simp only [hm]
theorem zEB {E:Env} (hg:zaz E 145 (znI 289)):zaz E 145 (zCe 289):=zgS hg fun args h v h' hlow hcell hok=>by
 unfold zCe at hok
 split at hok
 ·rename_i z sv
  split at hok
  ·rename_i c n e hz
   split at hok
   ·rename_i xs hxs
    cases e3:(zfG c&&Nat.beq n 3601&&Nat.beq e 289&&Nat.ble (h.next+1) lim&&Nat.blt (zlb sv) 1000) with
    | false=>rw [e3] at hok; simp at hok
    | true=>
    rw [e3,cond_true,zav] at hok
    simp only [Bool.and_eq_true] at e3
    obtain ⟨⟨⟨⟨f1,f2⟩,f3⟩,f4⟩,f5⟩:=e3
    obtain ⟨cs,hcs,hall⟩:=zke f1
    obtain rfl:=Nat.eq_of_beq_eq_true f2
    obtain ⟨rfl,rfl⟩:=zaq hok
    refine ⟨⟨h.t.put h.next (some (.cells (Tr.ofL 33 (Value.bool false::zjI (zcO xs) 0 cs)) 3601 289 false false)),h.next+1⟩,?_,rfl,?_⟩
    ·unfold znI
     simp only [hz,hcs,hxs]
     rw [show (zbu cs&&Nat.beq 3601 3601&&Nat.beq e 289&&Nat.ble (h.next+1) lim&&Nat.blt (zlb sv) 1000)=true by simp only [hall,f3,f4,f5]; rfl,cond_true,zav]
    ·have hlt:∀ m,3601≤m→(zhf (zcO xs) (zcB true 0 1 c) c).get m=c.get m:=fun m hm=>(zgF _ _).far m hm
     have hz0:(zhf (zcO xs) (zcB true 0 1 c) c).get 0=c.get 0:=(zgF _ _).zero
     have hcl:cs.length=3600:=by have:=(zcF hcs).1; simpa using this
     refine zmR fun i v hi => ?_
     rcases Nat.lt_or_ge i 3601 with w | w
     ·cases i with
      | zero=>rw [hz0,zwD hcs] at hi; rw [ziw]; exact hi
      | succ k=>
       have hk:k<3600:=by omega
       rw [show k+1=1+k by omega,zgy hk _ _] at hi
       have hcell2:cs[k]? = some (.int .i64 (fv c (1+k))):=by
        have:=(zcF hcs).2 (1+k) (by omega) (by unfold lim; omega)
        rw [show 1+k=k+1 by omega,List.getElem?_cons_succ] at this
        rw [this,show k+1=1+k by omega]; exact zii hcs hall hk
       rw [zbv (by unfold lim; omega),List.getElem?_cons_succ,zlm hcell2,Nat.zero_add,← hi]
       have inl:¬ (1+k)∈zcB true 0 1 c→c.get (1+k)=some (.int .i64 2305843009213693952):=fun w=>by
        have hn:zcW (c.get (1+k))=false:=by
         cases q:zcW (c.get (1+k)) with
         | false=>rfl
         | true=>exact absurd (zmH (by unfold lim; omega) q) w
        rw [zii hcs hall hk] at hn ⊢
        unfold zcW at hn
        simp only at hn
        cases q:zbA (fv c (1+k)) with
        | false=>rw [q] at hn; cases hn
        | true=>
         unfold zbA at q
         split at q
         ·rename_i m hm
          rw [hm,Nat.eq_of_beq_eq_true q]; rfl
         ·cases q
       unfold zqt
       by_cases a:k/60=k%60
       ·rw [zfF a,cond_true,if_neg (fun w=>(zhv.1 w.2).1 a)]; exact (zii hcs hall hk).symm
       ·rw [zfq a,cond_false]
        have hit:(k/60∈zcO xs∨k%60∈zcO xs)→some (Value.int .i64 2305843009213693952)=(if (1+k)∈zcB true 0 1 c∧zmD (zcO xs) k=true then some (.int .i64 2305843009213693952) else c.get (1+k)):=fun w=>by
         by_cases m:(1+k)∈zcB true 0 1 c
         ·rw [if_pos ⟨m,zhv.2 ⟨a,w⟩⟩]
         ·rw [if_neg (fun w=>m w.1),inl m]
        cases e1:zgz (k/60) (zcO xs) with
        | true=>exact hit (.inl (zda.1 e1))
        | false=>
         cases e2:zgz (k%60) (zcO xs) with
         | true=>exact hit (.inr (zda.1 e2))
         | false=>
          rw [if_neg (fun w=>by
           rcases (zhv.1 w.2).2 with w | w
           ·rw [zda.2 w] at e1; cases e1
           ·rw [zda.2 w] at e2; cases e2)]
          exact (zii hcs hall hk).symm
     ·rw [hlt i w] at hi
      have:=hcell _ _ _ _ _ _ hz i v hi
      omega
   ·simp at hok
  ·simp at hok
 ·simp at hok
theorem zmG {E:Env} {F:Int→Int→Int} {f:FuncId} (hg:zaz E f (zqh F 289)):zaz E f (zoh F 289):=zgS hg fun args h v h' hlow hcell hok=>by
 unfold zoh at hok
 split at hok
 ·rename_i z o
  split at hok
  ·rename_i c n e hz
   split at hok
   ·rename_i c2 n2 e2 ho
    cases e3:(zfG c&&zfG c2&&Nat.beq n 3601&&Nat.beq e 289&&Nat.beq n2 3601&&Nat.beq e2 289&&Nat.ble (h.next+1) lim) with
    | false=>rw [e3] at hok; simp at hok
    | true=>
    rw [e3,cond_true,zav] at hok
    simp only [Bool.and_eq_true] at e3
    obtain ⟨⟨⟨⟨⟨⟨f1,f1'⟩,f2⟩,f3⟩,f4⟩,f5⟩,f6⟩:=e3
    obtain ⟨cs,hcs,hall⟩:=zke f1
    obtain ⟨cs2,hcs2,hall2⟩:=zke f1'
    obtain rfl:=Nat.eq_of_beq_eq_true f2
    obtain rfl:=Nat.eq_of_beq_eq_true f4
    obtain ⟨rfl,rfl⟩:=zaq hok
    refine ⟨⟨h.t.put h.next (some (.cells (Tr.ofL 33 (Value.bool false::zbR (fun k=>F (fv c (1+k)) (fv c2 (1+k))) 3600 [])) 3601 289 false false)),h.next+1⟩,?_,rfl,?_⟩
    ·unfold zqh
     simp only [hz,hcs,ho,hcs2]
     rw [show (zbu cs&&zbu cs2&&Nat.beq 3601 3601&&Nat.beq e 289&&Nat.beq 3601 3601&&Nat.beq e2 289&&Nat.ble (h.next+1) lim)=true by simp only [hall,hall2,f3,f5,f6]; rfl,cond_true,zav]
    ·refine zmR fun i v hi => ?_
     rw [zFg] at hi
     rcases Nat.lt_or_ge i 3601 with w | w
     ·cases i with
      | zero=>rw [zwD hcs] at hi; rw [ziw]; exact hi
      | succ k=>
       have hk:k<3600:=by omega
       rw [show k+1=1+k by omega] at hi ⊢
       rw [zii hcs hall hk,zii hcs2 hall2 hk] at hi
       rw [znS hk]
       unfold zgA at hi
       simp only [zbF] at hi
       exact hi
     ·have hn:c.get i=none:=by
       cases q:c.get i with
       | none=>rfl
       | some v=>have:=hcell _ _ _ _ _ _ hz i v q; omega
      rw [hn] at hi; cases hi
   ·simp at hok
  ·simp at hok
 ·simp at hok
theorem zvp {E:Env} (hg:zaz E 206 (zqB 289)):zaz E 206 (zqa 289):=zgS hg fun args h v h' hlow hcell hok=>by
 unfold zqa at hok
 split at hok
 ·rename_i z i j v
  unfold zAc at hok
  split at hok
  ·rename_i c n e hz
   cases e3:(zfG c&&Nat.beq n 3601&&Nat.beq e 289&&Nat.ble (h.next+4) lim&&Nat.blt i 60&&Nat.blt j 60&&(bif Nat.beq i j then false else true)) with
   | false=>rw [e3] at hok; simp at hok
   | true=>
   rw [e3,cond_true] at hok
   simp only [Bool.and_eq_true] at e3
   obtain ⟨⟨⟨⟨⟨⟨f1,f2⟩,f3⟩,f4⟩,f5⟩,f6⟩,f7⟩:=e3
   obtain ⟨cs,hcs,hall⟩:=zke f1
   obtain rfl:=Nat.eq_of_beq_eq_true f2
   have hi:=zaB f5
   have hj:=zaB f6
   have slow:zqB 289 [.pointer (some ⟨z,0,none⟩),.agg ⟨[.int .i64 (.ofNat i),.int .i64 (.ofNat j),.int .i64 v]⟩] h=zwr 289 h z c i j v:=by
    unfold zqB zBl
    simp only [hz,hcs]
    rw [show (zbu cs&&Nat.beq 3601 3601&&Nat.beq e 289&&Nat.ble (h.next+4) lim&&Nat.blt i 60&&Nat.blt j 60&&(bif Nat.beq i j then false else true))=true by simp only [hall,f3,f4,f5,f6,f7]; rfl,cond_true]
   rw [slow]
   unfold zsa at hok
   unfold zwr
   cases q1:decide (fv c (1+(i*60+j))≤v) with
   | true=>
    rw [q1,cond_true] at hok
    rw [cond_true]
    exact ⟨_,hok,rfl,fun b o hb=>⟨o,hb,ObjLe.refl o⟩⟩
   | false=>
   rw [q1,cond_false] at hok
   rw [cond_false]
   cases q2:decide (zaM (fv c (1+(j*60+i))) v<0) with
   | true=>rw [q2] at hok; simp at hok
   | false=>
   rw [q2,cond_false,zav] at hok
   rw [cond_false]
   unfold zzY
   simp only [zav]
   obtain ⟨u,hu⟩:∃ u,u=Tr.ofL 33 (zbR (fun p=>zaM (fv c (1+(p*60+i))) v) 60 []):=⟨_,rfl⟩
   rw [← hu]
   have hfu:∀ p,p<60→fv u p=zaM (fv c (1+(p*60+i))) v:=fun p hp=>by rw [hu,zho hp (Nat.le_refl _)]
   have hg:∀ k,k<3600→(zhr c i j v 60 c).get (1+k)=some (.int .i64 (zjC c u j k)):=fun k hk=>by
    rw [ziX hk 60 c (Nat.le_refl _)]
    unfold zjC
    rw [zbF,hfu (k/60) (by omega)]
    cases q:zbA (zaM (fv c (1+(k/60*60+i))) v) with
    | true=>rw [if_neg (fun w=>by simp at w),cond_true]; exact zii hcs hall hk
    | false=>
     rw [cond_false]
     unfold zqz
     by_cases q3:zaM (zaM (fv c (1+(k/60*60+i))) v) (fv c (1+(j*60+k%60)))<fv c (1+k)
     ·rw [if_pos ⟨by omega,rfl,q3⟩,decide_eq_true q3,cond_true]
     ·rw [if_neg (fun w=>q3 w.2.2),decide_eq_false q3,cond_false]; exact zii hcs hall hk
   have hfv:∀ k,k<3600→fv (zhr c i j v 60 c) (1+k)=fv (Tr.ofL 33 (Value.bool false::zbR (zjC c u j) 3600 [])) (1+k):=fun k hk=>by
    rw [zhI (hg k hk),zhI (znS hk)]
   have hsign:∀ n,n≤60→zeM (fun x=>decide (0≤fv (zhr c i j v 60 c) (1+(x*60+x)))) n=zeM (fun x=>decide (0≤fv (Tr.ofL 33 (Value.bool false::zbR (zjC c u j) 3600 [])) (1+(x*60+x)))) n:=by
    intro n
    induction n with
    | zero=>exact fun _=>rfl
    | succ n ih=>
     intro hn
     simp only [zeM]
     rw [hfv _ (by omega),ih (by omega)]
   unfold zto at hok ⊢
   rw [← hsign 60 (Nat.le_refl _)]
   cases q4:zeM (fun x=>decide (0≤fv (zhr c i j v 60 c) (1+(x*60+x)))) 60 with
   | false=>rw [q4] at hok; simp at hok
   | true=>
   rw [q4,cond_true] at hok
   rw [cond_true]
   obtain ⟨rfl,rfl⟩:=zaq hok
   exact ⟨_,rfl,rfl,zmR (zvH (hcell _ _ _ _ _ _ hz) (znU 60 c (Nat.le_refl _)) (zwD hcs) hg)⟩
  ·simp at hok
 ·simp at hok
theorem ztJ {k m:Nat}:∀ {l:List Nat},m∈zsP k l↔m=k∨m∈l
 | []=>by simp [zsP]
 | a::l=>by
  unfold zsP
  cases Nat.blt k a with
  | true=>simp
  | false=>
   simp only [cond_false,List.mem_cons,ztJ]
   constructor
   ·rintro (w | w | w)
    ·exact .inr (.inl w)
    ·exact .inl w
    ·exact .inr (.inr w)
   ·rintro (w | w | w)
    ·exact .inr (.inl w)
    ·exact .inl w
    ·exact .inr (.inr w)
theorem zmw {m:Nat}:∀ {l:List Nat},m∈zdT l↔m∈l
 | []=>by simp [zdT]
 | a::l=>by simp only [zdT,ztJ,zmw,List.mem_cons]
theorem zeS:∀ {l:List Nat} {n:Nat},zee n l=true→∀ m∈l,n≤m
 | [],_,_,_,h=>by simp at h
 | k::l,n,h,m,hm=>by
  unfold zee at h
  cases e:Nat.ble n k with
  | false=>rw [e] at h; cases h
  | true=>
   rw [e,cond_true] at h
   have:=Nat.le_of_ble_eq_true e
   rcases List.mem_cons.1 hm with rfl | hm
   ·exact this
   ·have:=zeS h m hm; omega
theorem zrt:∀ {l:List Nat} {n:Nat},zee n l=true→(∀ m∈l,n+1≤m)→zee (n+1) l=true
 | [],_,_,_=>rfl
 | k::l,n,h,h2=>by
  unfold zee at h ⊢
  have:=h2 k (by simp)
  rw [Nat.ble_eq_true_of_le this,cond_true]
  cases e:Nat.ble n k with
  | false=>rw [e] at h; cases h
  | true=>rw [e,cond_true] at h; exact h
theorem zpI {k:Nat} {v:Value} (h:zcW (some v)=false):zfx k v=[]:=by
 unfold zfx
 split
 ·rename_i x
  cases Nat.beq (k/60) (k%60) with
  | true=>rfl
  | false=>
   unfold zcW at h
   simp only at h
   cases q:zbA x with
   | true=>rfl
   | false=>rw [q] at h; cases h
 ·rfl
theorem ztD {c:Tr Value} (hc:∀ i v,c.get i=some v→i<3601):∀ {l:List Nat},(∀ m∈l,3601≤m)→zjg c l=[]
 | [],_=>rfl
 | 0::l,h=>by have:=h 0 (by simp); omega
 | (k+1)::l,h=>by
  have hn:c.get (k+1)=none:=by
   cases q:c.get (k+1) with
   | none=>rfl
   | some v=>have:=hc _ v q; have:=h (k+1) (by simp); omega
  simp only [zjg,hn]
  exact ztD hc fun m hm=>h m (by simp [hm])
theorem zvj {c:Tr Value} (hc:∀ i v,c.get i=some v→i<3601):∀ (cs:List Value) (k:Nat) (l:List Nat),k+cs.length=3600→(∀ i,i<cs.length→c.get (1+(k+i))=cs[i]?)→zee (k+1) l=true →
  (∀ i,k≤i→i<3600→zcW (c.get (1+i))=true→1+i∈l)→zjg c l=zdh k cs
 | [],k,l,hk,_,hl,_=>by
  have hk:k=3600:=by simpa using hk
  exact ztD hc fun m hm=>by have:=zeS hl m hm; omega
 | v::cs,k,l,hk,hcs,hl,hin=>by
  simp only [List.length_cons] at hk
  have h0:c.get (1+k)=some v:=by have:=hcs 0 (by simp); simpa using this
  have hcs':∀ i,i<cs.length→c.get (1+(k+1+i))=cs[i]? := fun i hi=>by
   have:=hcs (i+1) (by simp; omega)
   rw [List.getElem?_cons_succ] at this
   rw [← this,show k+1+i=k+(i+1) by omega]
  have drop:∀ l,zee (k+1+1) l=true→(∀ i,k+1≤i→i<3600→zcW (c.get (1+i))=true→1+i∈l)→zjg c l=zdh (k+1) cs:=fun l a b=>zvj hc cs (k+1) l (by omega) hcs' a b
  simp only [zdh,zaD]
  match l,hl with
  | [],hl=>
   have e:zfx k v=[]:=by
    have hn:zcW (some v)=false:=by
     cases q:zcW (some v) with
     | false=>rfl
     | true=>have:=hin k (Nat.le_refl _) (by omega) (by rw [h0]; exact q); simp at this
    exact zpI hn
   rw [e,List.nil_append]
   exact drop [] rfl fun i a b d=>by have:=hin i (by omega) b d; simp at this
  | m::l,hl=>
   by_cases hm:m=k+1
   ·subst hm
    simp only [zjg]
    rw [show k+1=1+k by omega,h0]
    simp only
    congr 1
    rw [show 1+k=k+1 by omega]
    unfold zee at hl
    rw [Nat.ble_eq_true_of_le (Nat.le_refl _),cond_true] at hl
    refine drop l hl fun i a b d => ?_
    have:=hin i (by omega) b d
    exact (List.mem_cons.1 this).resolve_left (by omega)
   ·have ge:=zeS hl
    have e:zfx k v=[]:=by
     have hn:zcW (some v)=false:=by
      cases q:zcW (some v) with
      | false=>rfl
      | true=>
       have w:=hin k (Nat.le_refl _) (by omega) (by rw [h0]; exact q)
       rcases List.mem_cons.1 w with w | w
       ·omega
       ·unfold zee at hl
        cases e:Nat.ble (k+1) m with
        | false=>rw [e] at hl; cases hl
        | true=>
         rw [e,cond_true] at hl
         have:=zeS hl _ w
         have:=Nat.le_of_ble_eq_true e
         omega
     exact zpI hn
    rw [e,List.nil_append]
    refine drop (m::l) (zrt hl fun q hq => ?_) fun i a b d=>hin i (by omega) b d
    rcases List.mem_cons.1 hq with rfl | hq
    ·have:=ge q (by simp); omega
    ·unfold zee at hl
     cases e:Nat.ble (k+1) m with
     | false=>rw [e] at hl; cases hl
     | true=>
      rw [e,cond_true] at hl
      have:=zeS hl _ hq
      have:=Nat.le_of_ble_eq_true e
      omega
theorem zBZ {E:Env} (hg:zaz E 148 consQ):zaz E 148 consF:=zgS hg fun args h v h' hlow hcell hok=>by
 unfold consF at hok
 split at hok
 ·rename_i b
  unfold zDj at hok
  split at hok
  ·rename_i c n e hz
   cases e3:(zwH c&&Nat.beq n 3601&&Nat.ble (h.next+8000) lim&&Nat.blt b h.next&&zee 0 (zdT (zcB true 0 1 c))) with
   | false=>rw [e3] at hok; simp at hok
   | true=>
   rw [e3,cond_true] at hok
   simp only [Bool.and_eq_true] at e3
   obtain ⟨⟨⟨⟨f1,f2⟩,f3⟩,f4⟩,f5⟩:=e3
   obtain ⟨b0,cs,hcs,hall,hc0⟩:=zEe f1
   obtain rfl:=Nat.eq_of_beq_eq_true f2
   have hcl:cs.length=3600:=by have:=(zcF hcs).1; simpa using this
   have hget:∀ i,i<cs.length→c.get (1+(0+i))=cs[i]? := fun i hi=>by
    have:=(zcF hcs).2 (1+i) (by omega) (by unfold lim; omega)
    rw [show 1+i=i+1 by omega,List.getElem?_cons_succ] at this
    rw [this,Nat.zero_add,show i+1=1+i by omega]
   have hmem:∀ i,i<lim→zcW (c.get i)=true→i∈zdT (zcB true 0 1 c):=fun i hi hn=>zmw.2 (zmH hi hn)
   have h0:0∈zdT (zcB true 0 1 c):=hmem 0 (by unfold lim; omega) (by rw [hc0]; rfl)
   have hO:zjg c (zdT (zcB true 0 1 c))=zdh 0 cs:=by
    generalize zdT (zcB true 0 1 c)=l at f5 h0 hmem
    match l,h0 with
    | m::l,h0=>
     have hm:m=0:=by
      unfold zee at f5
      cases e:Nat.ble 0 m with
      | false=>rw [e] at f5; cases f5
      | true=>
       rw [e,cond_true] at f5
       rcases List.mem_cons.1 h0 with w | w
       ·exact w.symm
       ·have:=zeS f5 0 w; omega
     subst hm
     unfold zee at f5
     rw [Nat.ble_eq_true_of_le (Nat.le_refl _),cond_true] at f5
     refine zvj (hcell _ _ _ _ _ _ hz) cs 0 l (by omega) hget f5 fun i _ hi hn => ?_
     have:=hmem (1+i) (by unfold lim; omega) hn
     exact (List.mem_cons.1 this).resolve_left (by omega)
   refine ⟨h',?_,rfl,fun b o hb=>⟨o,hb,ObjLe.refl o⟩⟩
   unfold consQ zse
   simp only [hz]
   rw [show (Nat.beq 3601 3601&&Nat.ble (h.next+8000) lim&&Nat.blt b h.next)=true by simp only [f3,f4]; rfl,cond_true,hcs]
   unfold zsc
   simp only [hall,cond_true]
   rw [← hO]; exact hok
  ·simp at hok
 ·simp at hok
end Go.Proofs.YtghhpeemloeljaaGreat

/- The simulator on zone.Put, the whole of it. (Written by genput.py.) zone.Put as an oracle. (Written by genput.py.) The simulator on zone.isVar and zone.Bound. (Written by genbq.py.) The simulator on zone.and. (Written by genand.py.) The simulator on zone.Join and zone.Widen. (Written by genjoin.py.) -/
import Derived.Test.YtghhpeemloeljaaGreatPutA
import Derived.Test.YtghhpeemloeljaaGreatQA
import Derived.Test.YtghhpeemloeljaaGreatOrcA
set_option linter.unusedVariables false
set_option linter.unusedSimpArgs false
set_option linter.unusedSimpArgs false
set_option linter.unusedVariables false
namespace Go.Proofs.YtghhpeemloeljaaGreat
open Go Go.Sim
set_option maxRecDepth 100000
set_option maxHeartbeats 1000000
variable {O:OT} {ih:K}
theorem zss {E:Env} {ih:K} {l:List Oper} {nt base i lo:Nat} {heaps:List SHeap} {tm:Tr Value} {h:SHeap} {cur:List Nat} :
  zcc E ih l.toArray nt base ⟨i,.alloc,lo⟩ ⟨heaps,tm,h,cur⟩=(match l[i]? with
   | none=>.error "draw  no operation"
   | some ⟨dst,op,ty,pos,after,g⟩=>match zah l.toArray tm g with
    | none=>.error "draw  guard"
    | some false=>.ok ⟨heaps,zcr tm nt dst (.tuple #[]),h,cur⟩
    | some true=>match zbW E (evT E.G tm) op with
     | some (elem,cs,av)=>.ok ⟨heaps,zcr tm nt dst (zlR av (base+i)),h.set (base+i) (some (zhE elem cs av)),i::cur⟩
     | none=>.error "draw  alloc"):=by
 rcases ho:l[i]? with _ | ⟨dst,op,ty,pos,after,g⟩
 ·simp only [zcc,List.getElem?_toArray,ho]
 ·simp only [zcc,List.getElem?_toArray,ho]
  cases zah l.toArray tm g with
  | none=>rfl
  | some b=>cases b with
   | false=>rfl
   | true=>
    simp only [PKind.isEff,cond_false,zhg]
    cases zbW E (evT E.G tm) op with
    | none=>rfl
    | some p=>rfl
theorem zrl {E:Env} {ih:K} {fx:Fx} {l:List Oper} {G:Tr SObj} {n:Nat} {tm:Tr Value} {ds:List Deferred} {steps:List PStep} {m res:Nat} (hp:zdb E l=some ⟨steps,m,res⟩) (hn:n+res≤lim) :
  ziB E ih fx l.toArray ⟨tm,⟨G,n⟩,ds⟩=(match zdR E ih l.toArray fx.nt n steps ⟨[⟨G,n+res⟩],tm,⟨G,n+res⟩,[]⟩ with
   | .error e=>.error e
   | .ok ph=>zfb (zep E ih fx l.toArray (l.drop m) ⟨ph.tm,ph.h,ds⟩)):=by
 have hn:Nat.ble (n+res) lim=true:=by rw [Nat.ble_eq]; exact hn
 simp only [ziB,hp,hn,cond_true]
 cases zdR E ih l.toArray fx.nt n steps ⟨[⟨G,n+res⟩],tm,⟨G,n+res⟩,[]⟩<;>rfl
theorem zLV {G:Nat} {tm:Tr Value}:zbW (Eo O) (evT G tm) (.makeSlice 43 (.const (.int .i64 60)) (.const (.int .i64 60)))=some (3,List.replicate 60 (.int .i64 0),.slc 60 60):=by kernel_rfl
theorem zFU {b:Nat}:zlR (.slc 60 60) b=.slice (some ⟨b,0,none⟩) 60 60:=(id rfl)
theorem zEf:zhE 3 (List.replicate 60 (.int .i64 0)) (.slc 60 60)=.cells (Tr.ofL 33 (List.replicate 60 (.int .i64 0))) 60 3 false false:=(id rfl)
theorem zOl {v:Int} {h:SHeap}:zfN (Eo O) ((Eo O).T 43) 1 (some [(0,.int .i64 v)]) h=.ok (.value (.slice (some ⟨h.next,0,none⟩) 1 1),zai h 3 [.int .i64 v] false):=by kernel_rfl
theorem zMU:zcY (Eo O) 333:=fun _ _=>by kernel_rfl
theorem zMl:zcY (Eo O) 145:=fun _ _=>by kernel_rfl
theorem zDi:zcY (Eo O) 264:=fun _ _=>by kernel_rfl
theorem zEj:Tryz.f331.body=some (cF Tryz.f331):=rfl
theorem zMY:(Eo O).F 331=some Tryz.f331:=by show Tab.funcs.get 331=_; kernel_rfl
theorem zNt {a b c d:Value}:max Tryz.f331.ntmps (#[a,b,c,d]:Array Value).size=202:=rfl
theorem zHT:Tryz.f331.results.toList=[.tmp 8,.tmp 9]:=rfl
theorem zOC:zdb (Eo O) (zmi 0).toList=some ⟨[⟨0,.alloc,0⟩,⟨1,.alloc,0⟩,⟨2,.pure,0⟩],3,3⟩:=by kernel_rfl
def zqf (f a b:Nat→Int) (x:Nat):Nat→Int:=
 fcF (fmF (foF f x 60) (fun q=>fuC a (foF f x 60) x q 60) (fun q=>fdC b (foF f x 60) x q 60) x) (fun q=>fuC a (foF f x 60) x q 60) (fun q=>fdC b (foF f x 60) x q 60) x 60
theorem zNg {h:SHeap} {n:Nat} (hn:n+2≤lim) (U:Tr Value):((h.set (n+0) (some (.cells U 60 3 false false))).set (n+1) (some (.cells U 60 3 false false))).t.get (n+0)=some (.cells U 60 3 false false) ∧
  ((h.set (n+0) (some (.cells U 60 3 false false))).set (n+1) (some (.cells U 60 3 false false))).t.get (n+1)=some (.cells U 60 3 false false) ∧
  ∀ d,d<n→((h.set (n+0) (some (.cells U 60 3 false false))).set (n+1) (some (.cells U 60 3 false false))).t.get d=h.t.get d:=by
 refine ⟨?_,?_,fun d hd => ?_⟩
 ·simp only [SHeap.set,zaa]
  rw [if_neg (by omega),if_pos ⟨trivial,by omega⟩]
 ·simp only [SHeap.set,zaa]
  rw [if_pos ⟨trivial,by omega⟩]
 ·simp only [SHeap.set,zaa]
  rw [if_neg (by omega),if_neg (by omega)]
theorem zup {h:SHeap} {b:Nat} (e:h.t.get b=some (.cells (Tr.ofL 33 (List.replicate 60 (.int .i64 0))) 60 3 false false)):Row h b (fun _=>0):=by
 refine ⟨_,e,fun k hk => ?_⟩
 rw [zbv (by unfold lim; omega),List.getElem?_replicate,if_pos hk]
theorem zFj {n:Nat} (hOp:O 331=none) (hO:O 333=none) (hO2:O 261=none) (hO3:O 145=none) (hO4:O 264=none) (hsum:∀ (a b:Int) (h:SHeap),run (Eo O) (n+2) (.call 263 #[.int .i64 a,.int .i64 b] .normal) h=.ok (.int .i64 (zaM a b),h))
  {is1 is2:Nat→Bool} {v1 v2 f:Nat→Int} {x z bl bh c1 c2:Nat} {h:SHeap} (hx:x<60) (hx1:1≤x) (hz:z<h.next) (hbl:bl<h.next) (hbh:bh<h.next) (hZ:Zon h z f) (hB1:Bds h bl is1 v1) (hB2:Bds h bh is2 v2) (hn:h.next+129≤lim)
  (hv1:∀ j,j<60→j≠x→is1 j=true → -1152921504606846976≤v1 j∧v1 j≤1152921504606846976) (hv2:∀ j,j<60→j≠x→is2 j=true → -1152921504606846976≤v2 j∧v2 j≤1152921504606846976)
  (hset:∀ i,i<60→0≤zqf f (bdF is1 v1 x) (bdF is2 v2 x) x (i*60+i)) :
  ∃ h',run (Eo O) (n+3) (.call 331 #[.pointer (some ⟨z,0,none⟩),.int .i64 (.ofNat x),.slice (some ⟨bl,0,none⟩) 60 c1,.slice (some ⟨bh,0,none⟩) 60 c2] .normal) h=.ok (.tuple #[.pointer (some ⟨h.next+128,0,none⟩),.int .i64 0],h') ∧
   Zon h' (h.next+128) (zqf f (bdF is1 v1 x) (bdF is2 v2 x) x)∧h'.next=h.next+129∧∀ e,e<h.next→h'.t.get e=h.t.get e:=by
 suffices hcc:∃ tm' h',zab (cF Tryz.f331) (Eo O) (run (Eo O) (n+2)) ⟨331,202,.normal,none⟩ ⟨Tr.ofL 33 [.pointer (some ⟨z,0,none⟩),.int .i64 (.ofNat x),.slice (some ⟨bl,0,none⟩) 60 c1,.slice (some ⟨bh,0,none⟩) 60 c2],h,[]⟩=.ok (.ret,⟨tm',h',[]⟩) ∧
   tm'.get 8=some (.pointer (some ⟨h.next+128,0,none⟩))∧tm'.get 9=some (.int .i64 0)∧Zon h' (h.next+128) (zqf f (bdF is1 v1 x) (bdF is2 v2 x) x)∧h'.next=h.next+129∧∀ e,e<h.next→h'.t.get e=h.t.get e by
  obtain ⟨tm',h',k1,k2,k2',k3⟩:=hcc
  exact ⟨h',(zby (show (Eo O).O 331=none from hOp)).trans (zaY (vs:=[_,_]) zMY zEj zNt rfl zHT k1 (by simp only [zaQ,k2,k2',zcM])),k3⟩
 obtain ⟨n0,hn0⟩:∃ n0,n0=h.next:=⟨_,rfl⟩
 rw [← hn0] at hz hbl hbh hn ⊢
 generalize hr:zab (cF Tryz.f331) (Eo O) (run (Eo O) (n+2)) ⟨331,202,.normal,none⟩ ⟨Tr.ofL 33 [.pointer (some ⟨z,0,none⟩),.int .i64 (.ofNat x),.slice (some ⟨bl,0,none⟩) 60 c1,.slice (some ⟨bh,0,none⟩) 60 c2],h,[]⟩=r
 have t0:(Tr.ofL 33 [Value.pointer (some ⟨z,0,none⟩),.int .i64 (.ofNat x),.slice (some ⟨bl,0,none⟩) 60 c1,.slice (some ⟨bh,0,none⟩) 60 c2]).get 0=some (.pointer (some ⟨z,0,none⟩)):=rfl
 have t1:(Tr.ofL 33 [Value.pointer (some ⟨z,0,none⟩),.int .i64 (.ofNat x),.slice (some ⟨bl,0,none⟩) 60 c1,.slice (some ⟨bh,0,none⟩) 60 c2]).get 1=some (.int .i64 (.ofNat x)):=rfl
 have t2:(Tr.ofL 33 [Value.pointer (some ⟨z,0,none⟩),.int .i64 (.ofNat x),.slice (some ⟨bl,0,none⟩) 60 c1,.slice (some ⟨bh,0,none⟩) 60 c2]).get 2=some (.slice (some ⟨bl,0,none⟩) 60 c1):=rfl
 have t3:(Tr.ofL 33 [Value.pointer (some ⟨z,0,none⟩),.int .i64 (.ofNat x),.slice (some ⟨bl,0,none⟩) 60 c1,.slice (some ⟨bh,0,none⟩) 60 c2]).get 3=some (.slice (some ⟨bh,0,none⟩) 60 c2):=rfl
 generalize Tr.ofL 33 [Value.pointer (some ⟨z,0,none⟩),.int .i64 (.ofNat x),.slice (some ⟨bl,0,none⟩) 60 c1,.slice (some ⟨bh,0,none⟩) 60 c2]=tm at hr t0 t1 t2 t3
 have c1':decide (Int.ofNat x<1)=false:=by simp; omega
 have c2':decide (Int.ofNat x≥60)=false:=by simp; omega
 have c60:(Int.ofNat 60 != 60)=false:=rfl
 obtain ⟨h1,e1,rA,nx1,k1⟩:=zoQ (O:=O) (n:=n+1) hO (fun v h a b=>zjw (n:=n) hO2 v h a b) (x:=x) (cp:=c1) (h:=h) (hn0▸hbl) hB1 (by omega) hv1
 rw [← hn0] at e1 rA nx1 k1
 obtain ⟨h2,e2,rB,nx2,k2⟩:=zoQ (O:=O) (n:=n+1) hO (fun v h a b=>zjw (n:=n) hO2 v h a b) (x:=x) (cp:=c2) (h:=h1) (by omega) (hB2.to (k1 _ (by omega))) (by omega) hv2
 rw [nx1] at e2 rB nx2 k2
 have nx3:(zai h2 3 [.int .i64 (.ofNat x)] false).next=n0+123:=by show h2.next+1=_; omega
 have ka:∀ e,e<n0+122→(zai h2 3 [.int .i64 (.ofNat x)] false).t.get e=h2.t.get e:=fun e he=>zbK (by omega)
 have one:One (zai h2 3 [.int .i64 (.ofNat x)] false) (n0+122) (.ofNat x):=by
  refine ⟨Tr.ofL 33 [.int .i64 (.ofNat x)],1,3,false,false,?_,rfl⟩
  simp only [zai,SHeap.new,zaa]
  rw [if_pos ⟨by omega,by omega⟩]; rfl
 have z3:Zon (zai h2 3 [.int .i64 (.ofNat x)] false) z f:=((hZ.to (k1 _ (by omega))).to (k2 _ (by omega))).to (ka _ (by omega))
 have bsl:zfN (Eo O) ((Eo O).T 43) 1 (some [(0,.int .i64 (.ofNat x))]) h2=.ok (.value (.slice (some ⟨n0+122,0,none⟩) 1 1),zai h2 3 [.int .i64 (.ofNat x)] false):=by rw [zOl,nx2]
 have z2:=((hZ.to (k1 _ (by omega))).to (k2 _ (by omega))).dead (O:=O)
 obtain ⟨h3,hh3⟩:∃ h3,h3=zai h2 3 [.int .i64 (.ofNat x)] false:=⟨_,rfl⟩
 rw [← hh3] at nx3 ka one z3 bsl
 obtain ⟨⟨G4,n4⟩,e4,rN,nx4,k4⟩:=zwp (O:=O) (n:=n+1) hO3 (cp:=1) (h:=h3) hx hx1 (b:=z) (s:=n0+122) (by omega) (by omega) z3 one (by omega)
 rw [nx3] at e4 rN nx4 k4
 simp only at nx4
 subst nx4
 have pl:=zOC (O:=O)
 unfold zmi at pl
 simp only [Tryz.f331,cF,Option.getD,zcb,zev,List.nil_append,List.append_nil,List.cons_append] at pl
 obtain ⟨rU,rD,k5⟩:=zNg (h:=⟨G4,n0+123+1+3⟩) (n:=n0+123+1) (by omega) (Tr.ofL 33 (List.replicate 60 (.int .i64 0)))
 obtain ⟨h5,hh5⟩:∃ h5,h5=(SHeap.set (SHeap.set ⟨G4,n0+123+1+3⟩ (n0+123+1+0) (some (.cells (Tr.ofL 33 (List.replicate 60 (.int .i64 0))) 60 3 false false))) (n0+123+1+1) (some (.cells (Tr.ofL 33 (List.replicate 60 (.int .i64 0))) 60 3 false false))):=⟨_,rfl⟩
 rw [← hh5] at rU rD k5
 have nx5:h5.next=n0+127:=by rw [hh5]; rfl
 have kN:h5.t.get (n0+123)=G4.get (n0+123):=k5 _ (by omega)
 simp only at k4 k5
 have kk:∀ e,e<n0→h5.t.get e=h.t.get e:=fun e he=>(k5 e (by omega)).trans ((k4 e (by omega)).trans ((ka e (by omega)).trans ((k2 e (by omega)).trans (k1 e (by omega)))))
 have kAB:∀ e,e<n0+122→h5.t.get e=h2.t.get e:=fun e he=>(k5 e (by omega)).trans ((k4 e (by omega)).trans (ka e (by omega)))
 obtain ⟨p,hp0⟩:∃ p:Pl,p=⟨x,n0,n0+61,n0+123,n0+123+1+0,n0+123+1+1⟩:=⟨_,rfl⟩
 have hp:p.ok:=by subst hp0; constructor<;>simp only<;>omega
 obtain ⟨a,ha⟩:∃ a,a=bdF is1 v1 x:=⟨_,rfl⟩
 obtain ⟨b,hb⟩:∃ b,b=bdF is2 v2 x:=⟨_,rfl⟩
 obtain ⟨m,hm⟩:∃ m,m=foF f x 60:=⟨_,rfl⟩
 obtain ⟨u,hu⟩:∃ u:Nat→Int,u=fun q=>fuC a m x q 60:=⟨_,rfl⟩
 obtain ⟨d,hd⟩:∃ d:Nat→Int,d=fun q=>fdC b m x q 60:=⟨_,rfl⟩
 have hput:zqf f (bdF is1 v1 x) (bdF is2 v2 x) x=fcF (fmF m u d x) u d x 60:=by subst hu hd hm ha hb; rfl
 rw [hput] at hset ⊢
 obtain ⟨tmA,htA⟩:∃ tmA,tmA=((((((((((((((((((((((((((((((((((((((((((((((((((((tm.put 8 (some (.pointer none))).put 9 (some (.int .i64 0))).put 22 (some (.int .i64 (.ofNat x)))).put 23 (some (.bool false))).put 24 (some (.bool false))).put 25 (some (.int .i64 (.ofNat x)))).put 26 (some (.bool false))).put 27 (some (.bool false))).put 28 (some (.slice (some ⟨bl,0,none⟩) 60 c1))).put 29 (some (.int .i64 (.ofNat 60)))).put 30 (some (.bool false))).put 31 (some (.bool false))).put 32 (some (.slice (some ⟨bh,0,none⟩) 60 c2))).put 33 (some (.int .i64 (.ofNat 60)))).put 34 (some (.bool false))).put 35 (some (.bool false))).put 37 (some (.int .i64 (.ofNat x)))).put 38 (some (.slice (some ⟨bl,0,none⟩) 60 c1))).put 39 (some (.tuple #[.slice (some ⟨n0,0,none⟩) 60 60,.bool true]))).put 36 (some (.tuple #[.slice (some ⟨n0,0,none⟩) 60 60,.bool true]))).put 40 (some (.slice (some ⟨n0,0,none⟩) 60 60))).put 41 (some (.bool true))).put 10 (some (.slice (some ⟨n0,0,none⟩) 60 60))).put 11 (some (.bool true))).put 43 (some (.int .i64 (.ofNat x)))).put 44 (some (.slice (some ⟨bh,0,none⟩) 60 c2))).put 45 (some (.tuple #[.slice (some ⟨n0+61,0,none⟩) 60 60,.bool true]))).put 42 (some (.tuple #[.slice (some ⟨n0+61,0,none⟩) 60 60,.bool true]))).put 46 (some (.slice (some ⟨n0+61,0,none⟩) 60 60))).put 47 (some (.bool true))).put 12 (some (.slice (some ⟨n0+61,0,none⟩) 60 60))).put 13 (some (.bool true))).put 48 (some (.bool true))).put 49 (some (.bool false))).put 50 (some (.bool false))).put 51 (some (.bool true))).put 52 (some (.bool false))).put 53 (some (.bool false))).put 54 (some (.pointer (some ⟨z,0,none⟩)))).put 55 (some (.pointer (some ⟨z,0,none⟩)))).put 56 (some (.pointer (some ⟨z,0+0,none⟩)))).put 57 (some (.bool false))).put 59 (some (.pointer (some ⟨z,0,none⟩)))).put 60 (some (.int .i64 (.ofNat x)))).put 61 (some (.slice (some ⟨n0+122,0,none⟩) 1 1))).put 62 (some (.pointer (some ⟨n0+123,0,none⟩)))).put 14 (some (.pointer (some ⟨n0+123,0,none⟩)))).put 63 (some (.slice (some ⟨n0+123+1+0,0,none⟩) 60 60))).put 64 (some (.slice (some ⟨n0+123+1+1,0,none⟩) 60 60))).put 15 (some (.slice (some ⟨n0+123+1+0,0,none⟩) 60 60))).put 16 (some (.slice (some ⟨n0+123+1+1,0,none⟩) 60 60))).put 65 (some (.int .i64 0))):=⟨_,rfl⟩
 have inA:PuAO p a b m n0 (n0+127) h.t.get 0 ⟨tmA,h5,[]⟩:=by
  subst hp0
  refine ⟨rfl,⟨?_,?_,?_,?_,?_,?_⟩,?_,?_,?_,?_,?_,?_,nx5,kk⟩
  ·show tmA.get 1=_; rw [htA]; simp [zaa,lim,t1]
  ·show tmA.get 10=_; rw [htA]; simp [zaa,lim]
  ·show tmA.get 12=_; rw [htA]; simp [zaa,lim]
  ·show tmA.get 14=_; rw [htA]; simp [zaa,lim]
  ·show tmA.get 15=_; rw [htA]; simp [zaa,lim]
  ·show tmA.get 16=_; rw [htA]; simp [zaa,lim]
  ·show tmA.get 65=_; rw [htA]; simp [zaa,lim]
  ·rw [ha]; exact (rA.to (k2 _ (by omega))).to (kAB _ (by omega))
  ·rw [hb]; exact rB.to (kAB _ (by omega))
  ·rw [hm]; exact Zon.to (h:=⟨G4,n0+123+1⟩) rN kN
  ·exact (zup rU).cg fun j _=>by simp [uO]
  ·exact (zup rD).cg fun j _=>by simp [uO]
 obtain ⟨oA,⟨tmA',h6,ddA⟩,_,runA,oA2,outA⟩:=zcS (f:=zab puA (Eo O) (run (Eo O) (n+2)) ⟨331,202,.normal,none⟩) (I:=fun j st=>PuAO p a b m n0 (n0+127) h.t.get j st) (N:=60)
  (P:=fun o st=>o=.exit 0∧PuAO p a b m n0 (n0+127) h.t.get 60 st)
  (fun j st hj hI=>.inl (zQm hsum hp (by subst hp0; simp only; omega) (by omega) j hj st hI)) (fun st hI=>zCn st hI) 60 1000000 0 _ (by omega) (by omega) inA
 subst oA2
 obtain ⟨hdA,⟨a1,a10,a12,a14,a15,a16⟩,a65,aA,aB,aN,aU,aD,aNx,aK⟩:=outA
 simp only at hdA a1 a10 a12 a14 a15 a16 a65 aA aB aN aU aD aNx aK
 subst hdA
 have inB:PuBO p u d m n0 (n0+127) h.t.get 0 ⟨tmA'.put 129 (some (.int .i64 0)),h6,[]⟩:=by
  refine ⟨rfl,⟨?_,?_,?_,?_,?_,?_⟩,?_,aU.cg fun j hj => ?_,aD.cg fun j hj => ?_,aN.cg fun j hj => ?_,aNx,aK⟩
  ·simp [zaa,lim,a1]
  ·simp [zaa,lim,a10]
  ·simp [zaa,lim,a12]
  ·simp [zaa,lim,a14]
  ·simp [zaa,lim,a15]
  ·simp [zaa,lim,a16]
  ·simp [zaa,lim]
  ·subst hu hp0; simp [uO,hj]
  ·subst hd hp0; simp [uO,hj]
  ·simp [upF]
 obtain ⟨oB,⟨tmB',h7,ddB⟩,_,runB,oB2,outB⟩:=zcS (f:=zab puB (Eo O) (run (Eo O) (n+2)) ⟨331,202,.normal,none⟩) (I:=fun j st=>PuBO p u d m n0 (n0+127) h.t.get j st) (N:=60)
  (P:=fun o st=>o=.exit 4∧PuBO p u d m n0 (n0+127) h.t.get 60 st)
  (fun j st hj hI=>.inl (zXo hsum hp (by subst hp0; simp only; omega) (by omega) j hj st hI)) (fun st hI=>zAH st hI) 60 1000000 0 _ (by omega) (by omega) inB
 subst oB2
 obtain ⟨hdB,⟨b1,b10,b12,b14,b15,b16⟩,b129,bU,bD,bN,bNx,bK⟩:=outB
 simp only at hdB b1 b10 b12 b14 b15 b16 b129 bU bD bN bNx bK
 subst hdB
 have inC:PuCO p u d (fmF m u d x) n0 (n0+127) h.t.get 0 ⟨tmB'.put 168 (some (.int .i64 0)),h7,[]⟩:=by
  refine ⟨rfl,⟨?_,?_,?_,?_,?_,?_⟩,?_,bU,bD,bN.cg fun j hj => ?_,bNx,bK⟩
  ·simp [zaa,lim,b1]
  ·simp [zaa,lim,b10]
  ·simp [zaa,lim,b12]
  ·simp [zaa,lim,b14]
  ·simp [zaa,lim,b15]
  ·simp [zaa,lim,b16]
  ·simp [zaa,lim]
  ·subst hp0; simp [upF,fcF,hj]
 obtain ⟨oC,⟨tmC',h8,ddC⟩,_,runC,oC2,outC⟩:=zcS (f:=zab puC (Eo O) (run (Eo O) (n+2)) ⟨331,202,.normal,none⟩) (I:=fun j st=>PuCO p u d (fmF m u d x) n0 (n0+127) h.t.get j st) (N:=60)
  (P:=fun o st=>o=.exit 8∧PuCO p u d (fmF m u d x) n0 (n0+127) h.t.get 60 st)
  (fun j st hj hI=>.inl (zUl hp (by subst hp0; simp only; omega) (by omega) j hj st hI)) (fun st hI=>zBN st hI) 60 1000000 0 _ (by omega) (by omega) inC
 subst oC2
 obtain ⟨hdC,⟨d1,d10,d12,d14,d15,d16⟩,d168,dU,dD,dN,dNx,dK⟩:=outC
 simp only at hdC d1 d10 d12 d14 d15 d16 d168 dU dD dN dNx dK
 subst hdC
 have d14':tmC'.get 14=some (.pointer (some ⟨n0+123,0,none⟩)):=by rw [d14,hp0]
 have dN':Zon h8 (n0+123) (fcF (fmF m u d x) u d x 60):=by subst hp0; exact dN
 have all:=dN'.all (O:=O)
 obtain ⟨h9,e9,z9,nx9,k9⟩:=zno (O:=O) (n:=n+1) hO4 hset (h:=h8) (by omega)
 rw [dNx] at e9 z9 nx9 k9
 obtain ⟨big,hbig⟩:∃ big,big=Value.agg (zbc (fcF (fmF m u d x) u d x 60) 3600).toArray:=⟨_,rfl⟩
 rw [← hbig] at all e9
 unfold puA pu9 at runA
 unfold puB pu9 at runB
 unfold puC pu9 at runC
 simp only [Tryz.f331,cF,Option.getD,cA,cB,cI,zab] at runA runB runC
 rw [htA] at runA
 clear htA inA
 simp only [SSb,Tryz.f331,cF,Option.getD,cA,cB,cI,zab,zac,zao,zak,zau,zal,lim,Nat.reduceLT,Nat.reduceEqDiff,and_true,if_true,if_false,reduceIte,false_and,true_and,Nat.beq,cond_true,cond_false,zad,zae,zaf,zar,zap,zat,Option.bind_some,zam zaA,zaj,List.getElem?_toArray,List.getElem?_cons_succ,List.getElem?_cons_zero,List.drop_succ_cons,List.drop_zero,zah,zas,Bool.and_self,Bool.true_and,hsum,zcG,zeJ,zhP,dUn,zdQ,zaN,zbn,zam zMU,zam zMl,zam zDi,zec,zlg (E:=Eo O) zCh,t0,t1,t2,t3,c1',c2',c60,e1,e2,bsl,z2,e4,zrl pl (show n0+123+1+3≤lim by omega),zss,zLV,zFU,zEf,← hh5,runA,runB,runC,d14',all,e9] at hr
 subst hr
 refine ⟨_,_,rfl,?_,?_,z9,by omega,fun e he=>(k9 e (by omega)).trans (dK e he)⟩
 ·simp [zaa,lim]
 ·simp [zaa,lim]
end Go.Proofs.YtghhpeemloeljaaGreat
set_option linter.unusedSimpArgs false
set_option linter.unusedVariables false
namespace Go.Proofs.YtghhpeemloeljaaGreat
open Go Go.Sim
set_option maxRecDepth 100000
set_option maxHeartbeats 1000000
variable {O:OT} {ih:K}
theorem zfF {a b:Nat} (h:a=b):Nat.beq a b=true:=by rw [h]; exact Nat.beq_refl b
theorem zfq {a b:Nat} (h:a≠b):Nat.beq a b=false:=by
 cases e:Nat.beq a b with
 | false=>rfl
 | true=>exact absurd (Nat.eq_of_beq_eq_true e) h
theorem zeh (g:Nat→Int):∀ (n:Nat) (acc:List Value),zbR g n acc=zbc g n++acc
 | 0,acc=>by simp [zbR,zbc]
 | n+1,acc=>by
  rw [zbR,zbF,zeh g n]
  simp [zbc,List.range_succ]
theorem zkt {p:Nat→Bool}:∀ {n:Nat},zeM p n=true→∀ j,j<n→p j=true
 | 0,_,j,hj=>by omega
 | n+1,h,j,hj=>by
  rw [zeM] at h
  cases e:p n with
  | false=>rw [e] at h; simp at h
  | true=>
   rw [e,cond_true] at h
   by_cases q:j=n
   ·rw [q]; exact e
   ·exact zkt h j (by omega)
theorem zmJ (a b:Int):zqz a b=zjG a b:=rfl
theorem zta {a c:Tr Value} {a' m:Nat→Int} {x q:Nat} (hq:q≠x):∀ (n k:Nat) (acc:Int),acc=fuC a' m x q k→(∀ j,j<k+n→fv a j=a' j)→(∀ j,j<k+n→j≠x→fv c (1+(j*60+q))=m (j*60+q))→fuJ a c x q n k acc=fuC a' m x q (k+n)
 | 0,k,acc,h,_,_=>h
 | n+1,k,acc,h,ha,hm=>by
  rw [fuJ]
  by_cases e:k=x
  ·rw [zfF e,cond_true,zaD,zta hq n (k+1) acc (by rw [h,fuC,if_neg (fun w=>w.1 e)]) (fun j hj=>ha j (by omega)) (fun j hj=>hm j (by omega))]
   rw [show k+1+n=k+(n+1) by omega]
  ·rw [zfq e,cond_false,zbF,zbF,zaD,zta hq n (k+1) _ (by rw [fuC,if_pos ⟨e,hq⟩,zmJ,h,ha k (by omega),hm k (by omega) e]) (fun j hj=>ha j (by omega)) (fun j hj=>hm j (by omega))]
   rw [show k+1+n=k+(n+1) by omega]
theorem zsC {b c:Tr Value} {b' m:Nat→Int} {x q:Nat} (hq:q≠x):∀ (n k:Nat) (acc:Int),acc=fdC b' m x q k→(∀ j,j<k+n→fv b j=b' j)→(∀ j,j<k+n→j≠x→fv c (1+(q*60+j))=m (q*60+j))→fdJ b c x q n k acc=fdC b' m x q (k+n)
 | 0,k,acc,h,_,_=>h
 | n+1,k,acc,h,ha,hm=>by
  rw [fdJ]
  by_cases e:k=x
  ·rw [zfF e,cond_true,zaD,zsC hq n (k+1) acc (by rw [h,fdC,if_neg (fun w=>w.1 e)]) (fun j hj=>ha j (by omega)) (fun j hj=>hm j (by omega))]
   rw [show k+1+n=k+(n+1) by omega]
  ·rw [zfq e,cond_false,zbF,zbF,zaD,zsC hq n (k+1) _ (by rw [fdC,if_pos ⟨e,hq⟩,zmJ,h,ha k (by omega),hm k (by omega) e]) (fun j hj=>ha j (by omega)) (fun j hj=>hm j (by omega))]
   rw [show k+1+n=k+(n+1) by omega]
theorem zhI {c:Tr Value} {i:Nat} {k:IntKind} {v:Int} (h:c.get i=some (.int k v)):fv c i=v:=by unfold fv; rw [h]
theorem zEv {v:Option Value} (h:isI v=true):∃ n,v=some (.int .i64 n):=by
 unfold isI at h
 split at h
 ·split at h
  ·exact ⟨_,rfl⟩
  ·simp at h
 ·simp at h
theorem zzV {v:Option Value} (h:zAE v=true):v=some (.bool (isT v)):=by
 unfold zAE at h
 split at h
 ·rfl
 ·simp at h
theorem zIs {c u d:Tr Value} {f a b:Nat→Int} {x:Nat} (hx:x<60) (hf:∀ i,i<3600→fv c (1+i)=f i) (hu:∀ q,q<60→q≠x→fv u q=fuC a (foF f x 60) x q 60) (hd:∀ q,q<60→q≠x→fv d q=fdC b (foF f x 60) x q 60) (i:Nat) (hi:i<3600) :
  zpG c u d x i=zqf f a b x i:=by
 have h1:i/60<60:=by omega
 have h2:i%60<60:=by omega
 unfold zpG zqf
 by_cases e:i/60=x
 ·by_cases e':i%60=x
  ·rw [zfF e,cond_true,zfF e',cond_true,hf i hi]
   simp [fcF,fmF,foF,e,e']
  ·rw [zfF e,cond_true,zfq e',cond_false,hu _ h2 e']
   simp only [fcF]
   rw [if_pos ⟨e,e',h2⟩]
 ·by_cases e':i%60=x
  ·rw [zfq e,cond_false,zfF e',cond_true,hd _ h1 e]
   simp only [fcF]
   rw [if_neg (fun w=>e w.1),if_pos ⟨e',e,h1⟩]
  ·rw [zfq e,cond_false,zfq e',cond_false,hu _ h2 e',hd _ h1 e,hf i hi,zmJ]
   simp only [fcF]
   rw [if_neg (fun w=>e w.1),if_neg (fun w=>e' w.1)]
   unfold fmF
   rw [if_pos ⟨e,e'⟩]
   congr 1
   simp [foF,fcF,e,e']
theorem zdI:∀ {l:List Value},zbu l=true→∀ i,i<l.length→∃ n,l[i]? = some (.int .i64 n)
 | [],_,i,hi=>by simp at hi
 | v::r,h,i,hi=>by
  cases v with
  | int k n=>
   cases k with
   | i64=>
    have h:zbu r=true:=h
    cases i with
    | zero=>exact ⟨_,rfl⟩
    | succ i=>rw [List.getElem?_cons_succ]; exact zdI h i (by simpa using hi)
   | _=>exact absurd h (by simp [zbu])
  | _=>exact absurd h (by simp [zbu])
theorem zyX (t:Tr Value) (x j:Nat):bdJ t x j=bdF (fun j=>isT (t.get (j*2))) (fun j=>fv t (j*2+1)) x j:=by
 unfold bdJ bdF
 by_cases e:j=x
 ·rw [zfF e,cond_true,if_neg (fun w=>w.1 e)]
 ·rw [zfq e,cond_false]
  cases q:isT (t.get (j*2)) with
  | false=>simp [e,q]
  | true=>simp [e,q]
theorem zyb {t:Tr Value} {x:Nat} (h:zeM (zlG t x) 60=true):(∀ j,j<60→t.get (j*2)=some (.bool (isT (t.get (j*2))))∧t.get (j*2+1)=some (.int .i64 (fv t (j*2+1)))) ∧
  ∀ j,j<60→j≠x→isT (t.get (j*2))=true → -1152921504606846976≤fv t (j*2+1)∧fv t (j*2+1)≤1152921504606846976:=by
 have k:∀ j,j<60→zlG t x j=true:=zkt h
 refine ⟨fun j hj => ?_,fun j hj hx ht => ?_⟩
 ·have:=k j hj
  unfold zlG at this
  rw [Bool.and_eq_true,Bool.and_eq_true] at this
  obtain ⟨⟨h1,h2⟩,_⟩:=this
  refine ⟨zzV h1,?_⟩
  obtain ⟨n,hn⟩:=zEv h2
  rw [zhI hn]; exact hn
 ·have:=k j hj
  unfold zlG at this
  rw [Bool.and_eq_true] at this
  obtain ⟨_,h3⟩:=this
  rw [zfq hx,cond_false,ht,cond_true] at h3
  unfold inB at h3
  rw [Bool.and_eq_true] at h3
  exact ⟨of_decide_eq_true h3.1,of_decide_eq_true h3.2⟩
theorem zho {g:Nat→Int} {n q:Nat} (hq:q<n) (hn:n≤60):fv (Tr.ofL 33 (zbR g n [])) q=g q:=by
 refine zhI (k:=.i64) ?_
 rw [zeh,List.append_nil,zbv (by unfold lim; omega),zdf hq]
theorem zEX {n:Nat} (hOp:O 331=none) (hO:O 333=none) (hO2:O 261=none) (hO3:O 145=none) (hO4:O 264=none) (hsum:∀ (a b:Int) (h:SHeap),run (Eo O) (n+2) (.call 263 #[.int .i64 a,.int .i64 b] .normal) h=.ok (.int .i64 (zaM a b),h))
  {args:List Value} {h h':SHeap} {v:Value} (hlow:∀ b o,h.t.get b=some o→b<h.next) (hok:zpQ 289 args h=.ok (v,h')) :
  ∃ h'',run (Eo O) (n+3) (.call 331 args.toArray .normal) h=.ok (v,h'')∧h''.next=h'.next∧∀ b o,h'.t.get b=some o→∃ o2,h''.t.get b=some o2∧ObjLe (Eo O) o2 o:=by
 unfold zpQ at hok
 split at hok
 ·rename_i z x bl l1 c1 bh l2 c2
  cases e0:Nat.beq l1 60&&Nat.beq l2 60 with
  | false=>rw [e0] at hok; simp at hok
  | true=>
  rw [e0,cond_true] at hok
  rw [Bool.and_eq_true] at e0
  obtain rfl:=Nat.eq_of_beq_eq_true e0.1
  obtain rfl:=Nat.eq_of_beq_eq_true e0.2
  unfold zpA at hok
  split at hok
  ·rename_i c nn e hz
   split at hok
   ·rename_i tl n1 e1 o1 r1 hl
    split at hok
    ·rename_i th n2 e2 o2 r2 hh
     split at hok
     ·rename_i cs hcs
      cases e3:(zbu cs&&Nat.beq nn 3601&&Nat.beq e 289&&Nat.ble (h.next+129) lim&&Nat.blt x 60&&Nat.ble 1 x) with
      | false=>rw [e3] at hok; simp at hok
      | true=>
      rw [e3,cond_true] at hok
      simp only [Bool.and_eq_true] at e3
      obtain ⟨⟨⟨⟨⟨f1,f2⟩,f3⟩,f4⟩,f5⟩,f6⟩:=e3
      obtain rfl:=Nat.eq_of_beq_eq_true f2
      obtain rfl:=Nat.eq_of_beq_eq_true f3
      have f4:=Nat.le_of_ble_eq_true f4
      have f6:=Nat.le_of_ble_eq_true f6
      have f5:x<60:=by
       have:=f5
       unfold Nat.blt at this
       exact Nat.le_of_ble_eq_true this
      unfold zpB at hok
      cases e4:(zeM (zlG tl x) 60&&zeM (zlG th x) 60) with
      | false=>rw [e4] at hok; simp at hok
      | true=>
      rw [e4,cond_true] at hok
      rw [Bool.and_eq_true] at e4
      obtain ⟨g1,g1'⟩:=zyb e4.1
      obtain ⟨g2,g2'⟩:=zyb e4.2
      obtain ⟨w1,w2⟩:=zcF hcs
      have hlen:cs.length=3600:=by simpa using w1
      have hc0:c.get 0=some (.bool false):=by rw [← w2 0 (by omega) (by unfold lim; omega)]; rfl
      have hck:∀ k,k<3600→c.get (1+k)=some (.int .i64 (fv c (1+k))):=by
       intro k hk
       obtain ⟨m,hm⟩:=zdI f1 k (by omega)
       have:c.get (1+k)=some (.int .i64 m):=by
        rw [← w2 (1+k) (by omega) (by unfold lim; omega),show 1+k=k+1 by omega,List.getElem?_cons_succ,hm]
       rw [zhI this]; exact this
      have hZ:Zon h z (fun k=>fv c (1+k)):=⟨c,hz,hc0,hck⟩
      have hB1:Bds h bl (fun j=>isT (tl.get (j*2))) (fun j=>fv tl (j*2+1)):=⟨tl,n1,e1,o1,r1,hl,g1⟩
      have hB2:Bds h bh (fun j=>isT (th.get (j*2))) (fun j=>fv th (j*2+1)):=⟨th,n2,e2,o2,r2,hh,g2⟩
      rw [zav,zav] at hok
      unfold zpC at hok
      rw [zav,zav] at hok
      unfold zpK at hok
      rw [zav] at hok
      obtain ⟨a,ha⟩:∃ a,a=Tr.ofL 33 (zbR (bdJ tl x) 60 []):=⟨_,rfl⟩
      obtain ⟨b,hb⟩:∃ b,b=Tr.ofL 33 (zbR (bdJ th x) 60 []):=⟨_,rfl⟩
      rw [← ha,← hb] at hok
      have fa:∀ j,j<60→fv a j=bdF (fun j=>isT (tl.get (j*2))) (fun j=>fv tl (j*2+1)) x j:=fun j hj=>by rw [ha,zho hj (by omega),zyX]
      have fb:∀ j,j<60→fv b j=bdF (fun j=>isT (th.get (j*2))) (fun j=>fv th (j*2+1)) x j:=fun j hj=>by rw [hb,zho hj (by omega),zyX]
      have fm:∀ k q,k<60→q<60→k≠x→q≠x→foF (fun k=>fv c (1+k)) x 60 (k*60+q)=fv c (1+(k*60+q)):=by
       intro k q hk hq k1 k2
       unfold foF fcF
       rw [if_neg (by omega),if_neg (by omega)]
      have fu:∀ q,q<60→q≠x→fv (Tr.ofL 33 (zbR (fun q=>fuJ a c x q 60 0 2305843009213693952) 60 [])) q=fuC (bdF (fun j=>isT (tl.get (j*2))) (fun j=>fv tl (j*2+1)) x) (foF (fun k=>fv c (1+k)) x 60) x q 60:=by
       intro q hq hqx
       rw [zho hq (by omega),zta hqx 60 0 2305843009213693952 rfl (fun j hj=>fa j (by omega)) (fun j hj hjx=>(fm j q (by omega) hq hjx hqx).symm)]
      have fd:∀ q,q<60→q≠x→fv (Tr.ofL 33 (zbR (fun q=>fdJ b c x q 60 0 2305843009213693952) 60 [])) q=fdC (bdF (fun j=>isT (th.get (j*2))) (fun j=>fv th (j*2+1)) x) (foF (fun k=>fv c (1+k)) x 60) x q 60:=by
       intro q hq hqx
       rw [zho hq (by omega),zsC hqx 60 0 2305843009213693952 rfl (fun j hj=>fb j (by omega)) (fun j hj hjx=>(fm q j hq (by omega) hqx hjx).symm)]
      obtain ⟨u,hu⟩:∃ u,u=Tr.ofL 33 (zbR (fun q=>fuJ a c x q 60 0 2305843009213693952) 60 []):=⟨_,rfl⟩
      obtain ⟨d,hd⟩:∃ d,d=Tr.ofL 33 (zbR (fun q=>fdJ b c x q 60 0 2305843009213693952) 60 []):=⟨_,rfl⟩
      rw [← hu] at fu hok
      rw [← hd] at fd hok
      have fp:=zIs (c:=c) (u:=u) (d:=d) (f:=fun k=>fv c (1+k)) f5 (fun i _=>rfl) fu fd
      unfold zpE at hok
      have hrg:∀ k,k<3600→(Tr.ofL 33 (Value.bool false::zbR (zpG c u d x) 3600 [])).get (1+k)=some (.int .i64 (zpG c u d x k)):=by
       intro k hk
       rw [zbv (by unfold lim; omega),show 1+k=k+1 by omega,List.getElem?_cons_succ,zeh,List.append_nil,zdf hk]
      have hr0:(Tr.ofL 33 (Value.bool false::zbR (zpG c u d x) 3600 [])).get 0=some (.bool false):=by
       rw [zbv (by unfold lim; omega)]; rfl
      have hrn:∀ i v,(Tr.ofL 33 (Value.bool false::zbR (zpG c u d x) 3600 [])).get i=some v→i<3601:=by
       intro i v hv
       have:=zcX hv
       rcases Nat.lt_or_ge i 3601 with q | q
       ·exact q
       ·rw [List.getElem?_eq_none (by rw [List.length_cons,zeh,List.append_nil,zdd]; exact q)] at this
        simp at this
      obtain ⟨r,hr⟩:∃ r,r=Tr.ofL 33 (Value.bool false::zbR (zpG c u d x) 3600 []):=⟨_,rfl⟩
      rw [← hr] at hok hrg hr0 hrn
      cases e5:zeM (fun i=>decide (0≤fv r (1+(i*60+i)))) 60 with
      | false=>rw [e5] at hok; simp at hok
      | true=>
      rw [e5,cond_true] at hok
      obtain ⟨rfl,rfl⟩:=zaq hok
      have hset:=zkt e5
      obtain ⟨h2,k1,k2,k3,k4⟩:=zFj (O:=O) (n:=n) hOp hO hO2 hO3 hO4 hsum (c1:=c1) (c2:=c2) f5 f6 (hlow _ _ hz) (hlow _ _ hl) (hlow _ _ hh) hZ hB1 hB2 f4 g1' g2' (fun i hi=>by
       have:=of_decide_eq_true (hset i hi)
       rw [zhI (hrg _ (by omega)),fp _ (by omega)] at this
       exact this)
      refine ⟨h2,k1,k3,fun q o hq => ?_⟩
      simp only [zaa] at hq
      by_cases eq:q=h.next+128
      ·rw [if_pos ⟨eq,by omega⟩] at hq
       obtain rfl:=(Option.some.inj hq).symm
       obtain ⟨c',m1,m2,m3⟩:=k2
       refine ⟨_,by rw [eq]; exact m1,ObjLe.cells fun i v hv => ?_⟩
       have hi:=hrn i v hv
       cases i with
       | zero=>rw [hr0] at hv; rw [← hv]; exact m2
       | succ i=>
        rw [show i+1=1+i by omega] at hv ⊢
        rw [hrg i (by omega)] at hv
        rw [← hv,m3 i (by omega),fp i (by omega)]
      ·rw [if_neg (fun w=>eq w.1)] at hq
       exact ⟨o,by rw [k4 q (hlow q o hq)]; exact hq,ObjLe.refl o⟩
     ·simp at hok
    ·simp at hok
   ·simp at hok
  ·simp at hok
 ·simp at hok
theorem zGx (KE:EnvOK (Eo O)) (hdraw:zcp (Eo O)) (hOK:∀ f g,(Eo O).O f=some g→zaz (Eo O) f g) (hOp:O 331=none) (hO:O 333=none) (hO1:O 263=none) (hO2:O 261=none) (hO3:O 145=none) (hO4:O 264=none):zaz (Eo O) 331 (zpQ 289):=
 zcJ (zdc KE hdraw hOK 3) fun args h v h' hlow hok=>by
  have:=zEX (O:=O) (n:=0) hOp hO hO2 hO3 hO4 (fun a b h=>zni (n:=1) hO1) hlow hok
  simpa using this
end Go.Proofs.YtghhpeemloeljaaGreat
set_option linter.unusedSimpArgs false
set_option linter.unusedVariables false
namespace Go.Proofs.YtghhpeemloeljaaGreat
open Go Go.Sim
set_option maxRecDepth 100000
set_option maxHeartbeats 1000000
variable {O:OT} {ih:K}
theorem zFe:Tryz.f165.body=some (cF Tryz.f165):=rfl
theorem zLZ:(Eo O).F 165=some Tryz.f165:=by show Tab.funcs.get 165=_; kernel_rfl
theorem zLC {a:Value}:max Tryz.f165.ntmps (#[a]:Array Value).size=9:=rfl
theorem zHH:Tryz.f165.results.toList=[.tmp 2]:=rfl
theorem zqR {n:Nat} (hO:O 165=none) (x:Nat) (hx:x<60) (h:SHeap):run (Eo O) (n+1) (.call 165 #[.int .i64 (.ofNat x)] .normal) h=.ok (.bool true,h):=by
 suffices hcc:∃ tm',zab (cF Tryz.f165) (Eo O) (run (Eo O) n) ⟨165,9,.normal,none⟩ ⟨Tr.ofL 33 [.int .i64 (.ofNat x)],h,[]⟩=.ok (.ret,⟨tm',h,[]⟩)∧tm'.get 2=some (.bool true) by
  obtain ⟨tm',k1,k2⟩:=hcc
  exact (zby (show (Eo O).O 165=none from hO)).trans (zaY (vs:=[_]) zLZ zFe zLC rfl zHH k1 (by simp only [zaQ,k2,zcM]))
 generalize hr:zab (cF Tryz.f165) (Eo O) (run (Eo O) n) ⟨165,9,.normal,none⟩ ⟨Tr.ofL 33 [.int .i64 (.ofNat x)],h,[]⟩=r
 have t0:(Tr.ofL 33 [Value.int .i64 (.ofNat x)]).get 0=some (.int .i64 (.ofNat x)):=rfl
 generalize Tr.ofL 33 [Value.int .i64 (.ofNat x)]=tm at hr t0
 have e1:decide (Int.ofNat x≥0)=true:=by simp
 have e2:decide (Int.ofNat x<60)=true:=by simp; omega
 simp only [SSb,Tryz.f165,cF,Option.getD,cA,cB,cI,zab,zac,zao,zak,zau,zal,lim,Nat.reduceLT,Nat.reduceEqDiff,and_true,if_true,if_false,reduceIte,false_and,true_and,Nat.beq,cond_true,cond_false,zad,zae,zaf,zar,zap,zat,Option.bind_some,zaj,List.getElem?_toArray,List.getElem?_cons_succ,List.getElem?_cons_zero,List.drop_succ_cons,List.drop_zero,zah,zas,Bool.and_self,Bool.true_and,t0,e1,e2] at hr
 subst hr
 exact ⟨_,rfl,by simp [zaa,lim]⟩
theorem zGe:Tryz.f97.body=some (cF Tryz.f97):=rfl
theorem zNT:(Eo O).F 97=some Tryz.f97:=by show Tab.funcs.get 97=_; kernel_rfl
theorem zYD {a b c:Value}:max Tryz.f97.ntmps (#[a,b,c]:Array Value).size=42:=rfl
theorem zLX:Tryz.f97.results.toList=[.cell 6 215]:=rfl
theorem zwd:zcY (Eo O) 165:=fun _ _=>by kernel_rfl
theorem zji {h:SHeap}:zfw (Eo O) ((Eo O).T 215) (some []) h=.ok (.value (.agg #[.bool false,.int .i64 0]),h):=by kernel_rfl
theorem zja {v:Int} {h:SHeap}:zfw (Eo O) ((Eo O).T 215) (some [(0,.bool true),(1,.int .i64 v)]) h=.ok (.value (.agg #[.bool true,.int .i64 v]),h):=by kernel_rfl
theorem zrf {v:Int}:zbA v=(v==2305843009213693952):=by
 unfold zbA
 cases v with
 | ofNat m=>
  simp only
  cases e:Nat.beq m 2305843009213693952 with
  | true=>rw [Nat.eq_of_beq_eq_true e]; rfl
  | false=>
   have:m≠2305843009213693952:=fun q=>by rw [q] at e; simp at e
   symm
   rw [beq_eq_false_iff_ne]
   intro q
   exact this (by simpa using Int.ofNat.inj (q.trans (show (2305843009213693952:Int)=Int.ofNat 2305843009213693952 from rfl)))
 | negSucc m=>rfl
theorem zdL {n:Nat} (hO:O 97=none) (hO2:O 165=none) {b x y c1 e:Nat} {o r:Bool} {c:Tr Value} {v:Int} {h:SHeap} (hz:h.t.get b=some (.cells c c1 e o r)) (hb:b<h.next) (hn:h.next<lim) (hx:x<60) (hy:y<60)
  (z0:c.get 0=some (.bool false)) (zk:c.get (1+(x*60+y))=some (.int .i64 v)) :
  ∃ h2,run (Eo O) (n+2) (.call 97 #[.pointer (some ⟨b,0,none⟩),.int .i64 (.ofNat x),.int .i64 (.ofNat y)] .normal) h=.ok (znT v,h2)∧h2.next=h.next+1∧∀ d,d≠h.next→h2.t.get d=h.t.get d:=by
 suffices hcc:∃ tm' h2,zab (cF Tryz.f97) (Eo O) (run (Eo O) (n+1)) ⟨97,42,.normal,none⟩ ⟨Tr.ofL 33 [.pointer (some ⟨b,0,none⟩),.int .i64 (.ofNat x),.int .i64 (.ofNat y)],h,[]⟩=.ok (.ret,⟨tm',h2,[]⟩)∧tm'.get 6=some (.pointer (some ⟨h.next,0,none⟩)) ∧
   loadAt (Eo O) h2 215 ⟨h.next,0,none⟩=.ok (znT v)∧h2.next=h.next+1∧∀ d,d≠h.next→h2.t.get d=h.t.get d by
  obtain ⟨tm',h2,k1,k2,k3,k4,k5⟩:=hcc
  exact ⟨h2,(zby (show (Eo O).O 97=none from hO)).trans (zaY (vs:=[znT v]) zNT zGe zYD rfl zLX k1 (by simp only [zaQ,k2,k3])),k4,k5⟩
 have hv:∀ (i:Nat) (h:SHeap),i<60→run (Eo O) (n+1) (.call 165 #[.int .i64 (.ofNat i)] .normal) h=.ok (.bool true,h):=fun i h hi=>zqR hO2 i hi h
 have v1:=fun h=>hv x h hx
 have v2:=fun h=>hv y h hy
 generalize run (Eo O) (n+1)=ih at v1 v2 ⊢
 generalize hr:zab (cF Tryz.f97) (Eo O) ih ⟨97,42,.normal,none⟩ ⟨Tr.ofL 33 [.pointer (some ⟨b,0,none⟩),.int .i64 (.ofNat x),.int .i64 (.ofNat y)],h,[]⟩=q
 have t0:(Tr.ofL 33 [Value.pointer (some ⟨b,0,none⟩),.int .i64 (.ofNat x),.int .i64 (.ofNat y)]).get 0=some (.pointer (some ⟨b,0,none⟩)):=rfl
 have t1:(Tr.ofL 33 [Value.pointer (some ⟨b,0,none⟩),.int .i64 (.ofNat x),.int .i64 (.ofNat y)]).get 1=some (.int .i64 (.ofNat x)):=rfl
 have t2:(Tr.ofL 33 [Value.pointer (some ⟨b,0,none⟩),.int .i64 (.ofNat x),.int .i64 (.ofNat y)]).get 2=some (.int .i64 (.ofNat y)):=rfl
 generalize Tr.ofL 33 [Value.pointer (some ⟨b,0,none⟩),.int .i64 (.ofNat x),.int .i64 (.ofNat y)]=tm at hr t0 t1 t2
 have hz':(zai h 215 [.bool false,.int .i64 0] false).t.get b=some (.cells c c1 e o r):=(zbK (by omega)).trans hz
 have l0:=zbD (E:=Eo O) (k:=0+0) E4 rfl hz' z0
 have lk:=zbD (E:=Eo O) (k:=0+1+x*60+y) E3 rfl hz' (by rw [show 0+1+x*60+y=1+(x*60+y) by omega]; exact zk)
 have ld:∀ (h2:SHeap) (is:Bool) (w:Int),(∃ t,h2.t.get h.next=some (.cells t 2 215 false false)∧t.get 0=some (.bool is)∧t.get 1=some (.int .i64 w))→loadAt (Eo O) h2 215 ⟨h.next,0,none⟩=.ok (.agg #[.bool is,.int .i64 w]):=by
  intro h2 is w ⟨t,a0,a1,a2⟩
  unfold loadAt
  simp only [zqL,a0]
  rw [if_pos zsl]
  have:range t 2 0 2=some [.bool is,.int .i64 w]:=by
   unfold range
   rw [show Nat.ble 2 12=true from rfl,cond_true]
   simp only [Tr.toListFrom,a1,a2,zaD]
  simp only [this]
 cases hc:(v==2305843009213693952) with
 | true=>
  obtain ⟨h1,s1,a,nx1,o1⟩:=zxB (O:=O) (h:=h) hn false 0
  simp only [SSb,Tryz.f97,cF,Option.getD,cA,cB,cI,zab,zac,zao,zak,zau,zal,lim,Nat.reduceLT,Nat.reduceEqDiff,and_true,if_true,if_false,reduceIte,false_and,true_and,Nat.beq,cond_true,cond_false,zad,zae,zaf,zar,zap,zat,Option.bind_some,zaj,List.getElem?_toArray,List.getElem?_cons_succ,List.getElem?_cons_zero,List.drop_succ_cons,List.drop_zero,zah,zas,Bool.and_self,Bool.true_and,zct,dUn,zdQ,zbC,zaN,zji,zbn,zam zwd,zcV hx,zde hy,v1,v2,zeZ,s1,l0,lk,hc,t0,t1,t2] at hr
  subst hr
  refine ⟨_,h1,rfl,?_,?_,nx1,o1⟩
  ·simp [zaa,lim]
  ·rw [ld h1 _ _ a]
   unfold znT
   rw [zrf,hc]
   rfl
 | false=>
  obtain ⟨h1,s1,a,nx1,o1⟩:=zxB (O:=O) (h:=h) hn true v
  simp only [SSb,Tryz.f97,cF,Option.getD,cA,cB,cI,zab,zac,zao,zak,zau,zal,lim,Nat.reduceLT,Nat.reduceEqDiff,and_true,if_true,if_false,reduceIte,false_and,true_and,Nat.beq,cond_true,cond_false,zad,zae,zaf,zar,zap,zat,Option.bind_some,zaj,List.getElem?_toArray,List.getElem?_cons_succ,List.getElem?_cons_zero,List.drop_succ_cons,List.drop_zero,zah,zas,Bool.and_self,Bool.true_and,zct,dUn,zdQ,zbC,zaN,zja,zbn,zam zwd,zcV hx,zde hy,v1,v2,zeZ,s1,l0,lk,hc,t0,t1,t2] at hr
  subst hr
  refine ⟨_,h1,rfl,?_,?_,nx1,o1⟩
  ·simp [zaa,lim]
  ·rw [ld h1 _ _ a]
   unfold znT
   rw [zrf,hc]
   rfl
theorem zsu (KE:EnvOK (Eo O)) (hdraw:zcp (Eo O)) (hOK:∀ f g,(Eo O).O f=some g→zaz (Eo O) f g) (hO:O 97=none) (hO2:O 165=none):zaz (Eo O) 97 boundQ:=
 zcJ (zdc KE hdraw hOK 2) fun args h v h' hlow hok=>by
  obtain ⟨l⟩:=args
  unfold boundQ at hok
  split at hok
  ·rename_i b x y e
   have e:l=[.pointer (some ⟨b,0,none⟩),.int .i64 (.ofNat x),.int .i64 (.ofNat y)]:=e
   subst e
   unfold zxM at hok
   split at hok
   ·rename_i c n e o r hz
    cases hc:Nat.beq n 3601&&Nat.blt x 60&&Nat.blt y 60&&Nat.blt h.next lim with
    | false=>rw [hc] at hok; simp at hok
    | true=>
     rw [hc,cond_true] at hok
     simp only [Bool.and_eq_true] at hc
     obtain ⟨⟨⟨_,f1⟩,f2⟩,f3⟩:=hc
     have f1:=zaB f1
     have f2:=zaB f2
     have f3:=zaB f3
     split at hok
     ·rename_i z0
      split at hok
      ·rename_i u zk
       obtain ⟨rfl,rfl⟩:=zaq hok
       obtain ⟨h2,k1,k2,k3⟩:=zdL (O:=O) (n:=0) hO hO2 hz (hlow _ _ hz) f3 f1 f2 z0 zk
       refine ⟨h2,k1,k2,fun d o hd=>⟨o,?_,ObjLe.refl o⟩⟩
       have:=hlow d o hd
       rw [k3 d (by omega)]
       exact hd
      ·simp at hok
     ·simp at hok
   ·simp at hok
  ·simp at hok
/-! ## plus,lesser -/
def Bd (h:SHeap) (b:Nat) (is:Bool) (v:Int):Prop:=∃ t,h.t.get b=some (.cells t 2 215 false false)∧t.get 0=some (.bool is)∧t.get 1=some (.int .i64 v)
theorem zoY {h:SHeap} {is:Bool} {v:Int} (hn:h.next<lim):Bd (zai h 215 [.bool is,.int .i64 v] false) h.next is v:=by
 refine ⟨Tr.ofL 33 [.bool is,.int .i64 v],?_,rfl,rfl⟩
 simp only [zai,SHeap.new,zaa]
 rw [if_pos ⟨trivial,hn⟩]
 rfl
theorem Bd.keep {h:SHeap} {b:Nat} {is:Bool} {v:Int} {l:List Value} (k:Bd h b is v) (hb:b≠h.next):Bd (zai h 215 l false) b is v:=let ⟨t,a,c,d⟩:=k; ⟨t,(zbK hb).trans a,c,d⟩
theorem Bd.l0 {h:SHeap} {b:Nat} {is:Bool} {v:Int} (k:Bd h b is v):zba (Eo O) 4 (some (.pointer (some ⟨b,0+0,none⟩))) h=.ok (.value (.bool is),h):=let ⟨_,a,c,d⟩:=k; (zmT a c d).1
theorem Bd.l1 {h:SHeap} {b:Nat} {is:Bool} {v:Int} (k:Bd h b is v):zba (Eo O) 3 (some (.pointer (some ⟨b,0+1,none⟩))) h=.ok (.value (.int .i64 v),h):=let ⟨_,a,c,d⟩:=k; (zmT a c d).2
theorem Bd.at_ {h:SHeap} {b:Nat} {is:Bool} {v:Int} (k:Bd h b is v):loadAt (Eo O) h 215 ⟨b,0,none⟩=.ok (.agg #[.bool is,.int .i64 v]):=by
 obtain ⟨t,a0,a1,a2⟩:=k
 unfold loadAt
 simp only [zqL,a0]
 rw [if_pos zsl]
 have:range t 2 0 2=some [.bool is,.int .i64 v]:=by
  unfold range
  rw [show Nat.ble 2 12=true from rfl,cond_true]
  simp only [Tr.toListFrom,a1,a2,zaD]
 simp only [this]
theorem Bd.ld {h:SHeap} {b:Nat} {is:Bool} {v:Int} (k:Bd h b is v):zba (Eo O) 215 (some (.pointer (some ⟨b,0,none⟩))) h=.ok (.value (.agg #[.bool is,.int .i64 v]),h):=by
 unfold zba
 simp only [k.at_]
 rfl
theorem zhS {h:SHeap} {is:Bool} {v:Int}:zfD 215 (some (.agg #[.bool is,.int .i64 v])) h=.ok (.value (.pointer (some ⟨h.next,0,none⟩)),zai h 215 [.bool is,.int .i64 v] false):=(id rfl)
theorem zdg {h:SHeap} {l:List Value}:(zai h 215 l false).next=h.next+1:=(id rfl)
theorem ziL {E:Env} {G:Nat} {tm:Tr Value} {o:Oper} {a b:Operand} {ats:Array TypeId} {h:SHeap}:zbY E (evT G tm) o ⟨.builtin .max,#[a,b],ats⟩ h=(match evT G tm a,evT G tm b with
  | some (.int .i64 x),some (.int .i64 y)=>.ok (.value (.int .i64 (bif decide (y>x) then y else x)),h)
  | _,_=>zbY E (evT G tm) o ⟨.builtin .max,#[a,b],ats⟩ h):=by
 split
 ·rename_i x y h1 h2
  simp only [zbY,zaj,h1,h2]
  rfl
 ·rfl
theorem zEy:Tryz.f328.body=some (cF Tryz.f328):=rfl
theorem zLp:(Eo O).F 328=some Tryz.f328:=by show Tab.funcs.get 328=_; kernel_rfl
theorem zMO {a b:Value}:max Tryz.f328.ntmps (#[a,b]:Array Value).size=27:=rfl
theorem zFo:Tryz.f328.results.toList=[.cell 4 215]:=rfl
theorem zDx:Tryz.f327.body=some (cF Tryz.f327):=rfl
theorem zMd:(Eo O).F 327=some Tryz.f327:=by show Tab.funcs.get 327=_; kernel_rfl
theorem zMx {a b:Value}:max Tryz.f327.ntmps (#[a,b]:Array Value).size=21:=rfl
theorem zKO:Tryz.f327.results.toList=[.cell 4 215]:=rfl
theorem zub {h:SHeap} (hn:h.next<lim) (is:Bool) (v:Int):∃ h',zcI (Eo O) 215 (some (.pointer (some ⟨h.next,0,none⟩))) (some (.agg #[.bool is,.int .i64 v])) (zai h 215 [.bool false,.int .i64 0] false)=.ok (.value (.tuple #[]),h') ∧
  Bd h' h.next is v∧h'.next=h.next+1∧∀ d,d≠h.next→h'.t.get d=h.t.get d:=zxB hn is v
theorem zBk {n:Nat} (hO:O 328=none) {a b:Bool} {x y:Int} {h:SHeap} (hn:h.next+2<lim) :
  ∃ h2,run (Eo O) (n+1) (.call 328 #[.agg #[.bool a,.int .i64 x],.agg #[.bool b,.int .i64 y]] .normal) h=.ok (zix a x b y,h2)∧h2.next=h.next+3∧∀ d,d<h.next→h2.t.get d=h.t.get d:=by
 suffices hcc:∃ tm' h2 is v,zab (cF Tryz.f328) (Eo O) (run (Eo O) n) ⟨328,27,.normal,none⟩ ⟨Tr.ofL 33 [.agg #[.bool a,.int .i64 x],.agg #[.bool b,.int .i64 y]],h,[]⟩=.ok (.ret,⟨tm',h2,[]⟩)∧tm'.get 4=some (.pointer (some ⟨h.next+1+1,0,none⟩)) ∧
   Bd h2 (h.next+1+1) is v∧zix a x b y=.agg #[.bool is,.int .i64 v]∧h2.next=h.next+1+1+1∧∀ d,d<h.next→h2.t.get d=h.t.get d by
  obtain ⟨tm',h2,is,v,k1,k2,k3,k4,k5,k6⟩:=hcc
  rw [k4]
  exact ⟨h2,(zby (show (Eo O).O 328=none from hO)).trans (zaY (vs:=[.agg #[.bool is,.int .i64 v]]) zLp zEy zMO rfl zFo k1 (by simp only [zaQ,k2,k3.at_])),k5,k6⟩
 generalize run (Eo O) n=ih
 generalize hr:zab (cF Tryz.f328) (Eo O) ih ⟨328,27,.normal,none⟩ ⟨Tr.ofL 33 [.agg #[.bool a,.int .i64 x],.agg #[.bool b,.int .i64 y]],h,[]⟩=q
 have t0:(Tr.ofL 33 [Value.agg #[.bool a,.int .i64 x],.agg #[.bool b,.int .i64 y]]).get 0=some (.agg #[.bool a,.int .i64 x]):=rfl
 have t1:(Tr.ofL 33 [Value.agg #[.bool a,.int .i64 x],.agg #[.bool b,.int .i64 y]]).get 1=some (.agg #[.bool b,.int .i64 y]):=rfl
 generalize Tr.ofL 33 [Value.agg #[.bool a,.int .i64 x],.agg #[.bool b,.int .i64 y]]=tm at hr t0 t1
 have A1:=zoY (h:=h) (is:=a) (v:=x) (by omega)
 have A2:=A1.keep (l:=[.bool b,.int .i64 y]) (by rw [zdg]; omega)
 have A3:=A2.keep (l:=[.bool false,.int .i64 0]) (by simp only [zdg]; omega)
 have B2:=zoY (h:=zai h 215 [.bool a,.int .i64 x] false) (is:=b) (v:=y) (by rw [zdg]; omega)
 have B3:=B2.keep (l:=[.bool false,.int .i64 0]) (by simp only [zdg]; omega)
 have hst:=fun is v=>zub (O:=O) (h:=zai (zai h 215 [.bool a,.int .i64 x] false) 215 [.bool b,.int .i64 y] false) (by simp only [zdg]; omega) is v
 have hkp:∀ d,d<h.next→(zai (zai h 215 [.bool a,.int .i64 x] false) 215 [.bool b,.int .i64 y] false).t.get d=h.t.get d:=fun d hd=>(zbK (by rw [zdg]; omega)).trans (zbK (by omega))
 have a0:=A3.l0 (O:=O)
 have a1:=A3.l1 (O:=O)
 have b0:=B3.l0 (O:=O)
 have b1:=B3.l1 (O:=O)
 have a2:=A3.ld (O:=O)
 have b2:=B3.ld (O:=O)
 simp only [zdg] at b0 b1 b2 hst
 generalize hs:zaK .i64 (x+y)=s at hr
 have fin:∀ is v h2,Bd h2 (h.next+1+1) is v∧h2.next=h.next+1+1+1∧(∀ d,d≠h.next+1+1→h2.t.get d=(zai (zai h 215 [.bool a,.int .i64 x] false) 215 [.bool b,.int .i64 y] false).t.get d) →
   Bd h2 (h.next+1+1) is v∧h2.next=h.next+1+1+1∧∀ d,d<h.next→h2.t.get d=h.t.get d:=fun is v h2 ⟨p1,p2,p3⟩=>⟨p1,p2,fun d hd=>(p3 d (by omega)).trans (hkp d hd)⟩
 have go:∀ is v,zix a x b y=.agg #[.bool is,.int .i64 v]→(∀ h2,zcI (Eo O) 215 (some (.pointer (some ⟨h.next+1+1,0,none⟩))) (some (.agg #[.bool is,.int .i64 v])) (zai (zai (zai h 215 [.bool a,.int .i64 x] false) 215 [.bool b,.int .i64 y] false) 215 [.bool false,.int .i64 0] false)=.ok (.value (.tuple #[]),h2)→∃ tm',q=.ok (.ret,⟨tm',h2,[]⟩)∧tm'.get 4=some (.pointer (some ⟨h.next+1+1,0,none⟩))) →
   ∃ tm' h2 is v,q=.ok (.ret,⟨tm',h2,[]⟩)∧tm'.get 4=some (.pointer (some ⟨h.next+1+1,0,none⟩))∧Bd h2 (h.next+1+1) is v∧zix a x b y=.agg #[.bool is,.int .i64 v]∧h2.next=h.next+1+1+1∧∀ d,d<h.next→h2.t.get d=h.t.get d:=by
  intro is v hv hq
  obtain ⟨h2,s1,s2⟩:=hst is v
  obtain ⟨tm',e1,e2⟩:=hq h2 s1
  obtain ⟨f1,f2,f3⟩:=fin is v h2 s2
  exact ⟨tm',h2,is,v,e1,e2,f1,hv,f2,f3⟩
 cases a with
 | false=>
  refine go false 0 (by simp [zix]) fun h2 s1 => ?_
  simp only [SSb,Tryz.f328,cF,Option.getD,cA,cB,cI,zab,zac,zao,zak,zau,zal,lim,Nat.reduceLT,Nat.reduceEqDiff,and_true,if_true,if_false,reduceIte,false_and,true_and,Nat.beq,cond_true,cond_false,zad,zae,zaf,zar,zap,zat,Option.bind_some,zaj,List.getElem?_toArray,List.getElem?_cons_succ,List.getElem?_cons_zero,List.drop_succ_cons,List.drop_zero,zah,zas,Bool.and_self,Bool.true_and,zct,zco,dUn,zdQ,zbC,zaN,zji,zja,zeO,zeV,zhS,zeZ,zdg,ziL,a0,a1,b0,b1,hs,s1,t0,t1] at hr
  subst hr
  exact ⟨_,rfl,by simp [zaa,lim]⟩
 | true=>
  cases b with
  | false=>
   refine go false 0 (by simp [zix]) fun h2 s1 => ?_
   simp only [SSb,Tryz.f328,cF,Option.getD,cA,cB,cI,zab,zac,zao,zak,zau,zal,lim,Nat.reduceLT,Nat.reduceEqDiff,and_true,if_true,if_false,reduceIte,false_and,true_and,Nat.beq,cond_true,cond_false,zad,zae,zaf,zar,zap,zat,Option.bind_some,zaj,List.getElem?_toArray,List.getElem?_cons_succ,List.getElem?_cons_zero,List.drop_succ_cons,List.drop_zero,zah,zas,Bool.and_self,Bool.true_and,zct,zco,dUn,zdQ,zbC,zaN,zji,zja,zeO,zeV,zhS,zeZ,zdg,ziL,a0,a1,b0,b1,hs,s1,t0,t1] at hr
   subst hr
   exact ⟨_,rfl,by simp [zaa,lim]⟩
  | true=>
   cases c:decide (s>1152921504606846976) with
   | true=>
    refine go false 0 (by simp only [zix,zbF,hs,c,Bool.and_self,cond_true]) fun h2 s1 => ?_
    simp only [SSb,Tryz.f328,cF,Option.getD,cA,cB,cI,zab,zac,zao,zak,zau,zal,lim,Nat.reduceLT,Nat.reduceEqDiff,and_true,if_true,if_false,reduceIte,false_and,true_and,Nat.beq,cond_true,cond_false,zad,zae,zaf,zar,zap,zat,Option.bind_some,zaj,List.getElem?_toArray,List.getElem?_cons_succ,List.getElem?_cons_zero,List.drop_succ_cons,List.drop_zero,zah,zas,Bool.and_self,Bool.true_and,zct,zco,dUn,zdQ,zbC,zaN,zji,zja,zeO,zeV,zhS,zeZ,zdg,ziL,a0,a1,b0,b1,hs,c,s1,t0,t1] at hr
    subst hr
    exact ⟨_,rfl,by simp [zaa,lim]⟩
   | false=>
    refine go true (bif decide (-1152921504606846976>s) then -1152921504606846976 else s) (by simp only [zix,zbF,hs,c,Bool.and_self,cond_true,cond_false]) fun h2 s1 => ?_
    simp only [SSb,Tryz.f328,cF,Option.getD,cA,cB,cI,zab,zac,zao,zak,zau,zal,lim,Nat.reduceLT,Nat.reduceEqDiff,and_true,if_true,if_false,reduceIte,false_and,true_and,Nat.beq,cond_true,cond_false,zad,zae,zaf,zar,zap,zat,Option.bind_some,zaj,List.getElem?_toArray,List.getElem?_cons_succ,List.getElem?_cons_zero,List.drop_succ_cons,List.drop_zero,zah,zas,Bool.and_self,Bool.true_and,zct,zco,dUn,zdQ,zbC,zaN,zji,zja,zeO,zeV,zhS,zeZ,zdg,ziL,a0,a1,b0,b1,hs,c,s1,t0,t1] at hr
    subst hr
    exact ⟨_,rfl,by simp [zaa,lim]⟩
theorem zEP (KE:EnvOK (Eo O)) (hdraw:zcp (Eo O)) (hOK:∀ f g,(Eo O).O f=some g→zaz (Eo O) f g) (hO:O 328=none):zaz (Eo O) 328 plusQ:=
 zcJ (zdc KE hdraw hOK 1) fun args h v h' hlow hok=>by
  obtain ⟨l⟩:=args
  unfold plusQ at hok
  split at hok
  ·rename_i a x b y e
   have e:l=[.agg #[.bool a,.int .i64 x],.agg #[.bool b,.int .i64 y]]:=e
   subst e
   cases hc:Nat.blt (h.next+2) lim with
   | false=>rw [hc] at hok; simp at hok
   | true=>
    rw [hc,cond_true] at hok
    obtain ⟨rfl,rfl⟩:=zaq hok
    obtain ⟨h2,k1,k2,k3⟩:=zBk (O:=O) (n:=0) hO (a:=a) (b:=b) (x:=x) (y:=y) (h:=h) (zaB hc)
    refine ⟨h2,k1,k2,fun d o hd=>⟨o,?_,ObjLe.refl o⟩⟩
    rw [k3 d (hlow d o hd)]
    exact hd
  ·simp at hok
theorem zxb {n:Nat} (hO:O 327=none) {a b:Bool} {x y:Int} {h:SHeap} (hn:h.next+2<lim) :
  ∃ h2,run (Eo O) (n+1) (.call 327 #[.agg #[.bool a,.int .i64 x],.agg #[.bool b,.int .i64 y]] .normal) h=.ok (zim a x b y,h2)∧h2.next=h.next+3∧∀ d,d<h.next→h2.t.get d=h.t.get d:=by
 suffices hcc:∃ tm' h2 is v,zab (cF Tryz.f327) (Eo O) (run (Eo O) n) ⟨327,21,.normal,none⟩ ⟨Tr.ofL 33 [.agg #[.bool a,.int .i64 x],.agg #[.bool b,.int .i64 y]],h,[]⟩=.ok (.ret,⟨tm',h2,[]⟩)∧tm'.get 4=some (.pointer (some ⟨h.next+1+1,0,none⟩)) ∧
   Bd h2 (h.next+1+1) is v∧zim a x b y=.agg #[.bool is,.int .i64 v]∧h2.next=h.next+1+1+1∧∀ d,d<h.next→h2.t.get d=h.t.get d by
  obtain ⟨tm',h2,is,v,k1,k2,k3,k4,k5,k6⟩:=hcc
  rw [k4]
  exact ⟨h2,(zby (show (Eo O).O 327=none from hO)).trans (zaY (vs:=[.agg #[.bool is,.int .i64 v]]) zMd zDx zMx rfl zKO k1 (by simp only [zaQ,k2,k3.at_])),k5,k6⟩
 generalize run (Eo O) n=ih
 generalize hr:zab (cF Tryz.f327) (Eo O) ih ⟨327,21,.normal,none⟩ ⟨Tr.ofL 33 [.agg #[.bool a,.int .i64 x],.agg #[.bool b,.int .i64 y]],h,[]⟩=q
 have t0:(Tr.ofL 33 [Value.agg #[.bool a,.int .i64 x],.agg #[.bool b,.int .i64 y]]).get 0=some (.agg #[.bool a,.int .i64 x]):=rfl
 have t1:(Tr.ofL 33 [Value.agg #[.bool a,.int .i64 x],.agg #[.bool b,.int .i64 y]]).get 1=some (.agg #[.bool b,.int .i64 y]):=rfl
 generalize Tr.ofL 33 [Value.agg #[.bool a,.int .i64 x],.agg #[.bool b,.int .i64 y]]=tm at hr t0 t1
 have A1:=zoY (h:=h) (is:=a) (v:=x) (by omega)
 have A2:=A1.keep (l:=[.bool b,.int .i64 y]) (by rw [zdg]; omega)
 have A3:=A2.keep (l:=[.bool false,.int .i64 0]) (by simp only [zdg]; omega)
 have B2:=zoY (h:=zai h 215 [.bool a,.int .i64 x] false) (is:=b) (v:=y) (by rw [zdg]; omega)
 have B3:=B2.keep (l:=[.bool false,.int .i64 0]) (by simp only [zdg]; omega)
 have hst:=fun is v=>zub (O:=O) (h:=zai (zai h 215 [.bool a,.int .i64 x] false) 215 [.bool b,.int .i64 y] false) (by simp only [zdg]; omega) is v
 have hkp:∀ d,d<h.next→(zai (zai h 215 [.bool a,.int .i64 x] false) 215 [.bool b,.int .i64 y] false).t.get d=h.t.get d:=fun d hd=>(zbK (by rw [zdg]; omega)).trans (zbK (by omega))
 have a0:=A3.l0 (O:=O)
 have a1:=A3.l1 (O:=O)
 have b0:=B3.l0 (O:=O)
 have b1:=B3.l1 (O:=O)
 have a2:=A3.ld (O:=O)
 have b2:=B3.ld (O:=O)
 simp only [zdg] at b0 b1 b2 hst
 have fin:∀ is v h2,Bd h2 (h.next+1+1) is v∧h2.next=h.next+1+1+1∧(∀ d,d≠h.next+1+1→h2.t.get d=(zai (zai h 215 [.bool a,.int .i64 x] false) 215 [.bool b,.int .i64 y] false).t.get d) →
   Bd h2 (h.next+1+1) is v∧h2.next=h.next+1+1+1∧∀ d,d<h.next→h2.t.get d=h.t.get d:=fun is v h2 ⟨p1,p2,p3⟩=>⟨p1,p2,fun d hd=>(p3 d (by omega)).trans (hkp d hd)⟩
 have go:∀ is v,zim a x b y=.agg #[.bool is,.int .i64 v]→(∀ h2,zcI (Eo O) 215 (some (.pointer (some ⟨h.next+1+1,0,none⟩))) (some (.agg #[.bool is,.int .i64 v])) (zai (zai (zai h 215 [.bool a,.int .i64 x] false) 215 [.bool b,.int .i64 y] false) 215 [.bool false,.int .i64 0] false)=.ok (.value (.tuple #[]),h2)→∃ tm',q=.ok (.ret,⟨tm',h2,[]⟩)∧tm'.get 4=some (.pointer (some ⟨h.next+1+1,0,none⟩))) →
   ∃ tm' h2 is v,q=.ok (.ret,⟨tm',h2,[]⟩)∧tm'.get 4=some (.pointer (some ⟨h.next+1+1,0,none⟩))∧Bd h2 (h.next+1+1) is v∧zim a x b y=.agg #[.bool is,.int .i64 v]∧h2.next=h.next+1+1+1∧∀ d,d<h.next→h2.t.get d=h.t.get d:=by
  intro is v hv hq
  obtain ⟨h2,s1,s2⟩:=hst is v
  obtain ⟨tm',e1,e2⟩:=hq h2 s1
  obtain ⟨f1,f2,f3⟩:=fin is v h2 s2
  exact ⟨tm',h2,is,v,e1,e2,f1,hv,f2,f3⟩
 cases a with
 | false=>
  refine go b y (by simp [zim]) fun h2 s1 => ?_
  simp only [SSb,Tryz.f327,cF,Option.getD,cA,cB,cI,zab,zac,zao,zak,zau,zal,lim,Nat.reduceLT,Nat.reduceEqDiff,and_true,if_true,if_false,reduceIte,false_and,true_and,Nat.beq,cond_true,cond_false,zad,zae,zaf,zar,zap,zat,Option.bind_some,zaj,List.getElem?_toArray,List.getElem?_cons_succ,List.getElem?_cons_zero,List.drop_succ_cons,List.drop_zero,zah,zas,Bool.and_self,Bool.true_and,zct,zco,dUn,zdQ,zeO,zeV,zhS,zeZ,zdg,a0,a1,b0,b1,a2,b2,s1,t0,t1] at hr
  subst hr
  exact ⟨_,rfl,by simp [zaa,lim]⟩
 | true=>
  cases b with
  | false=>
   refine go true x (by simp [zim]) fun h2 s1 => ?_
   simp only [SSb,Tryz.f327,cF,Option.getD,cA,cB,cI,zab,zac,zao,zak,zau,zal,lim,Nat.reduceLT,Nat.reduceEqDiff,and_true,if_true,if_false,reduceIte,false_and,true_and,Nat.beq,cond_true,cond_false,zad,zae,zaf,zar,zap,zat,Option.bind_some,zaj,List.getElem?_toArray,List.getElem?_cons_succ,List.getElem?_cons_zero,List.drop_succ_cons,List.drop_zero,zah,zas,Bool.and_self,Bool.true_and,zct,zco,dUn,zdQ,zeO,zeV,zhS,zeZ,zdg,a0,a1,b0,b1,a2,b2,s1,t0,t1] at hr
   subst hr
   exact ⟨_,rfl,by simp [zaa,lim]⟩
  | true=>
   cases c:decide (y<x) with
   | true=>
    refine go true y (by simp only [zim,c,cond_true]) fun h2 s1 => ?_
    simp only [SSb,Tryz.f327,cF,Option.getD,cA,cB,cI,zab,zac,zao,zak,zau,zal,lim,Nat.reduceLT,Nat.reduceEqDiff,and_true,if_true,if_false,reduceIte,false_and,true_and,Nat.beq,cond_true,cond_false,zad,zae,zaf,zar,zap,zat,Option.bind_some,zaj,List.getElem?_toArray,List.getElem?_cons_succ,List.getElem?_cons_zero,List.drop_succ_cons,List.drop_zero,zah,zas,Bool.and_self,Bool.true_and,zct,zco,dUn,zdQ,zeO,zeV,zhS,zeZ,zdg,a0,a1,b0,b1,a2,b2,c,s1,t0,t1] at hr
    subst hr
    exact ⟨_,rfl,by simp [zaa,lim]⟩
   | false=>
    refine go true x (by simp only [zim,c,cond_true,cond_false]) fun h2 s1 => ?_
    simp only [SSb,Tryz.f327,cF,Option.getD,cA,cB,cI,zab,zac,zao,zak,zau,zal,lim,Nat.reduceLT,Nat.reduceEqDiff,and_true,if_true,if_false,reduceIte,false_and,true_and,Nat.beq,cond_true,cond_false,zad,zae,zaf,zar,zap,zat,Option.bind_some,zaj,List.getElem?_toArray,List.getElem?_cons_succ,List.getElem?_cons_zero,List.drop_succ_cons,List.drop_zero,zah,zas,Bool.and_self,Bool.true_and,zct,zco,dUn,zdQ,zeO,zeV,zhS,zeZ,zdg,a0,a1,b0,b1,a2,b2,c,s1,t0,t1] at hr
    subst hr
    exact ⟨_,rfl,by simp [zaa,lim]⟩
theorem zyN (KE:EnvOK (Eo O)) (hdraw:zcp (Eo O)) (hOK:∀ f g,(Eo O).O f=some g→zaz (Eo O) f g) (hO:O 327=none):zaz (Eo O) 327 lessQ:=
 zcJ (zdc KE hdraw hOK 1) fun args h v h' hlow hok=>by
  obtain ⟨l⟩:=args
  unfold lessQ at hok
  split at hok
  ·rename_i a x b y e
   have e:l=[.agg #[.bool a,.int .i64 x],.agg #[.bool b,.int .i64 y]]:=e
   subst e
   cases hc:Nat.blt (h.next+2) lim with
   | false=>rw [hc] at hok; simp at hok
   | true=>
    rw [hc,cond_true] at hok
    obtain ⟨rfl,rfl⟩:=zaq hok
    obtain ⟨h2,k1,k2,k3⟩:=zxb (O:=O) (n:=0) hO (a:=a) (b:=b) (x:=x) (y:=y) (h:=h) (zaB hc)
    refine ⟨h2,k1,k2,fun d o hd=>⟨o,?_,ObjLe.refl o⟩⟩
    rw [k3 d (hlow d o hd)]
    exact hd
  ·simp at hok
end Go.Proofs.YtghhpeemloeljaaGreat
set_option linter.unusedSimpArgs false
set_option linter.unusedVariables false
namespace Go.Sim
theorem zaX {E:Env} {f:FuncId} {a b:OF} (ha:zaz E f a) (hb:zaz E f b):zaz E f (orQ a b):=by
 intro args h v h' hok
 unfold orQ at hok
 split at hok
 ·rename_i r hr
  rw [hok] at hr
  exact ha args h v h' hr
 ·exact hb args h v h' hok
end Go.Sim
namespace Go.Proofs.YtghhpeemloeljaaGreat
open Go Go.Sim
set_option maxRecDepth 100000
set_option maxHeartbeats 1000000
variable {O:OT} {ih:K}
noncomputable def an4:Code:=cB (cB (cB (cF Tryz.f206)))
noncomputable def anO:Code:=cI (cI (cB (cA an4)))
noncomputable def anI:Code:=cI (cI (cB (cB (cB (cB (cI (cA (cB (cB anO)))))))))
noncomputable def zlB (n:Nat):Array Oper:=zev (zcb (cF Tryz.f206)) n
theorem zFJ:zdb (Eo O) (zlB 0).toList=some ⟨[⟨0,.pure,0⟩,⟨1,.pure,0⟩,⟨2,.read,0⟩,⟨3,.pure,0⟩,⟨4,.read,0⟩,⟨5,.pure,0⟩,⟨6,.pure,0⟩,⟨7,.pure,0⟩,⟨8,.pure,0⟩,⟨9,.read,0⟩,⟨10,.pure,0⟩,⟨11,.read,0⟩],12,0⟩:=by kernel_rfl
theorem zRN:zdb (Eo O) (zlB 1).toList=some ⟨[⟨0,.pure,0⟩,⟨1,.pure,0⟩,⟨2,.read,0⟩,⟨3,.pure,0⟩,⟨4,.read,0⟩,⟨5,.pure,0⟩,⟨6,.pure,0⟩,⟨7,.pure,0⟩,⟨8,.pure,0⟩,⟨9,.read,0⟩,⟨10,.pure,0⟩,⟨11,.read,0⟩],12,0⟩:=by kernel_rfl
theorem zQR:zdb (Eo O) (zlB 2).toList=some ⟨[⟨0,.pure,0⟩,⟨1,.pure,0⟩,⟨2,.pure,0⟩,⟨3,.read,0⟩,⟨4,.pure,0⟩,⟨5,.pure,0⟩,⟨6,.pure,0⟩,⟨7,.pure,0⟩,⟨8,.read,0⟩,⟨9,.pure,0⟩,⟨10,.read,0⟩],11,0⟩:=by kernel_rfl
theorem zYz:zdb (Eo O) (zlB 3).toList=some ⟨[⟨10,.pure,0⟩,⟨11,.pure,0⟩,⟨12,.pure,0⟩,⟨13,.read,0⟩,⟨14,.pure,0⟩,⟨15,.pure,0⟩,⟨16,.pure,0⟩,⟨17,.pure,0⟩,⟨18,.pure,0⟩,⟨19,.read,0⟩,⟨20,.eff,0⟩,⟨0,.pure,0⟩,⟨1,.pure,0⟩,⟨2,.pure,0⟩,⟨3,.pure,0⟩,⟨4,.pure,0⟩,⟨5,.pure,0⟩,⟨6,.pure,0⟩,⟨7,.pure,0⟩,⟨8,.pure,0⟩,⟨9,.read,0⟩,⟨21,.pure,1⟩,⟨22,.pure,0⟩,⟨23,.pure,0⟩],24,0⟩:=by kernel_rfl
theorem zvU:Tryz.f206.body=some (cF Tryz.f206):=rfl
theorem zDd:(Eo O).F 206=some Tryz.f206:=by show Tab.funcs.get 206=_; kernel_rfl
theorem zDf {a b:Value}:max Tryz.f206.ntmps (#[a,b]:Array Value).size=116:=rfl
theorem zzB:Tryz.f206.results.toList=[.tmp 4]:=rfl
theorem zkk {a:Addr} {h:SHeap}:zbz (Eo O) ((Eo O).T 230) (some (.pointer (some a))) 0 h=.ok (.value (.pointer (some (zbe a 0))),h):=by kernel_rfl
theorem zjY {a:Addr} {h:SHeap}:zbz (Eo O) ((Eo O).T 230) (some (.pointer (some a))) 1 h=.ok (.value (.pointer (some (zbe a 1))),h):=by kernel_rfl
theorem zjZ {a:Addr} {h:SHeap}:zbz (Eo O) ((Eo O).T 230) (some (.pointer (some a))) 2 h=.ok (.value (.pointer (some (zbe a 2))),h):=by kernel_rfl
def Cn (h:SHeap) (b:Nat) (i j:Nat) (v:Int):Prop:=∃ t,h.t.get b=some (.cells t 3 230 false false)∧t.get 0=some (.int .i64 (.ofNat i))∧t.get 1=some (.int .i64 (.ofNat j))∧t.get 2=some (.int .i64 v)
theorem Cn.to {h h':SHeap} {b i j:Nat} {v:Int} (k:Cn h b i j v) (e:h'.t.get b=h.t.get b):Cn h' b i j v:=let ⟨t,h1,h2⟩:=k; ⟨t,e.trans h1,h2⟩
theorem Cn.l0 {h:SHeap} {b i j:Nat} {v:Int} (k:Cn h b i j v):zba (Eo O) 3 (some (.pointer (some ⟨b,0+0,none⟩))) h=.ok (.value (.int .i64 (.ofNat i)),h):=let ⟨_,h1,h2,_⟩:=k; zbD (E:=Eo O) E3 rfl h1 h2
theorem Cn.l1 {h:SHeap} {b i j:Nat} {v:Int} (k:Cn h b i j v):zba (Eo O) 3 (some (.pointer (some ⟨b,0+1,none⟩))) h=.ok (.value (.int .i64 (.ofNat j)),h):=let ⟨_,h1,_,h2,_⟩:=k; zbD (E:=Eo O) E3 rfl h1 h2
theorem Cn.l2 {h:SHeap} {b i j:Nat} {v:Int} (k:Cn h b i j v):zba (Eo O) 3 (some (.pointer (some ⟨b,0+2,none⟩))) h=.ok (.value (.int .i64 v),h):=let ⟨_,h1,_,_,h2⟩:=k; zbD (E:=Eo O) E3 rfl h1 h2
theorem zGL {h:SHeap} {i j:Nat} {v:Int}:zfD 230 (some (.agg #[.int .i64 (.ofNat i),.int .i64 (.ofNat j),.int .i64 v])) h=.ok (.value (.pointer (some ⟨h.next,0,none⟩)),zai h 230 [.int .i64 (.ofNat i),.int .i64 (.ofNat j),.int .i64 v] false):=(id rfl)
theorem zze {h:SHeap} {i j:Nat} {v:Int} (hn:h.next<lim):Cn (zai h 230 [.int .i64 (.ofNat i),.int .i64 (.ofNat j),.int .i64 v] false) h.next i j v:=by
 refine ⟨Tr.ofL 33 [.int .i64 (.ofNat i),.int .i64 (.ofNat j),.int .i64 v],?_,rfl,rfl,rfl⟩
 simp only [zai,SHeap.new,zaa]
 rw [if_pos ⟨trivial,hn⟩]
 rfl
theorem zcQ {E:Env} {ev:Ev} {o:Oper} {t:TypeId} {x y:Int} {h:SHeap}:zcZ E ev o .leq t (some (.int .i64 x)) (some (.int .i64 y)) h=.ok (.value (.bool (decide (x≤y))),h):=zel (id rfl)
def zea (m:Nat→Int) (i:Nat) (v:Int) (p:Nat):Int:=zaM (m (p*60+i)) v
def anV (m:Nat→Int) (i j:Nat) (v:Int) (k:Nat):Int:=if zea m i v (k/60)=2305843009213693952 then m k else zjG (m k) (zaM (zea m i v (k/60)) (m (j*60+k%60)))
def anF (m:Nat→Int) (i j:Nat) (v:Int) (n:Nat):Nat→Int:=fun k=>if k<n then anV m i j v k else m k
structure AnT (z b nn i j:Nat) (v:Int) (m:Nat→Int) (n0:Nat) (g:Nat→Option SObj) (st:St):Prop where
 ds:st.defers=[]
 t0:st.tm.get 0=some (.pointer (some ⟨z,0,none⟩))
 t3:st.tm.get 3=some (.pointer (some ⟨b,0,none⟩))
 t5:st.tm.get 5=some (.pointer (some ⟨nn,0,none⟩))
 Z:Zon st.h z m
 C:Cn st.h b i j v
 next:st.h.next=n0
 keep:∀ e,e<b→st.h.t.get e=g e
structure AnI (z b nn i j:Nat) (v:Int) (m:Nat→Int) (n0:Nat) (g:Nat→Option SObj) (p q:Nat) (st:St):Prop where
 T:AnT z b nn i j v m n0 g st
 t6:st.tm.get 6=some (.int .i64 (.ofNat p))
 t7:st.tm.get 7=some (.int .i64 (zea m i v p))
 t66:st.tm.get 66=some (.int .i64 (.ofNat p))
 t83:st.tm.get 83=some (.int .i64 (.ofNat q))
 N:Zon st.h nn (anF m i j v (p*60+q))
structure AnO (z b nn i j:Nat) (v:Int) (m:Nat→Int) (n0:Nat) (g:Nat→Option SObj) (p:Nat) (st:St):Prop where
 T:AnT z b nn i j v m n0 g st
 t66:st.tm.get 66=some (.int .i64 (.ofNat p))
 N:Zon st.h nn (anF m i j v (p*60))
theorem zWh (hsum:∀ (a b:Int) (h:SHeap),ih (.call 263 #[.int .i64 a,.int .i64 b] .normal) h=.ok (.int .i64 (zaM a b),h)) {z b nn i j:Nat} {v:Int} {m:Nat→Int} {n0:Nat} {g:Nat→Option SObj} (hzn:z≠nn) (hbn:b≠nn) (hlt:b≤nn) (hn0:n0≤lim) (hj:j<60)
  {p:Nat} (hp:p<60) (ht:zea m i v p≠2305843009213693952) (q:Nat) (hq:q<60) (st:St) (hI:AnI z b nn i j v m n0 g p q st) :
  ∃ st',zab anI (Eo O) ih ⟨206,116,.normal,none⟩ st=.ok (.normal,st')∧AnI z b nn i j v m n0 g p (q+1) st':=by
 obtain ⟨tm,h,dd⟩:=st
 obtain ⟨⟨hd,t0,t3,t5,hZ,hC,hnx,keep⟩,t6,t7,t66,t83,hN⟩:=hI
 simp only at hd t0 t3 t5 t6 t7 t66 t83 hZ hC hN hnx keep
 subst hd
 have hk':decide (Int.ofNat q<60)=true:=by simp; omega
 have hk2:zaK .i64 (Int.ofNat q+1)=.ofNat (q+1):=zbb (m:=q+1) (by omega)
 have d1:(p*60+q)/60=p:=by omega
 have d2:(p*60+q)%60=q:=by omega
 generalize hr:zab anI (Eo O) ih ⟨206,116,.normal,none⟩ ⟨tm,h,[]⟩=r
 unfold anI anO an4 at hr
 have pl:=zYz (O:=O)
 unfold zlB at pl
 simp only [Tryz.f206,cF,Option.getD,zcb,zev,List.nil_append,List.append_nil,List.cons_append] at pl
 have hnl':h.next≤lim:=by rw [hnx]; exact hn0
 have hnl0:Nat.ble h.next 4294967296=true:=by rw [Nat.ble_eq]; exact hnl'
 obtain ⟨h1,s1,N1,nx1,o1⟩:=hN.st (O:=O) hp hq (zjG (m (p*60+q)) (zaM (zea m i v p) (m (j*60+q))))
 simp only [SSb,Tryz.f206,cF,Option.getD,cA,cB,cI,zab,zac,zao,zak,zau,zal,lim,Nat.reduceLT,Nat.reduceEqDiff,and_true,if_true,if_false,reduceIte,false_and,true_and,Nat.beq,cond_true,cond_false,zad,zae,zaf,zar,zap,zat,Option.bind_some,zam zaA,zaj,List.getElem?_toArray,List.getElem?_cons_succ,List.getElem?_cons_zero,List.drop_succ_cons,List.drop_zero,zah,zas,Bool.and_self,Bool.true_and,hsum,zct,dUn,zdQ,zbn,zkk,zjY,zjZ,t0,t3,t5,t6,t7,t66,t83,hk',hk2,zcV hp,zde hq,zcV hj,hZ.ld hp hq,hZ.ld hj hq,hC.l0,hC.l1,hC.l2,s1,zbX pl hnl',hnl0] at hr
 subst hr
 refine ⟨_,rfl,⟨rfl,?_,?_,?_,hZ.to (o1 _ hzn),hC.to (o1 _ hbn),nx1.trans hnx,fun e he=>(o1 _ (by omega)).trans (keep e he)⟩,?_,?_,?_,?_,N1.cg fun k _ => ?_⟩
 ·simp [zaa,lim,t0]
 ·simp [zaa,lim,t3]
 ·simp [zaa,lim,t5]
 ·simp [zaa,lim,t6]
 ·simp [zaa,lim,t7]
 ·simp [zaa,lim,t66]
 ·simp [zaa,lim]
 ·simp only [zes,anF]
  by_cases e:k=p*60+q
  ·rw [if_pos e,if_pos (by omega),anV,e,d1,d2,if_neg ht]
  ·rw [if_neg e]
   by_cases f:k<p*60+q
   ·rw [if_pos f,if_pos (by omega)]
   ·rw [if_neg f,if_neg (by omega)]
theorem zBu {z b nn i j:Nat} {v:Int} {m:Nat→Int} {n0:Nat} {g:Nat→Option SObj} {p:Nat} (st:St) (hI:AnI z b nn i j v m n0 g p 60 st) :
  ∃ o st',o ≠ .normal∧zab anI (Eo O) ih ⟨206,116,.normal,none⟩ st=.ok (o,st')∧(o=.exit 3∧AnI z b nn i j v m n0 g p 60 st'):=by
 obtain ⟨tm,h,dd⟩:=st
 obtain ⟨⟨hd,t0,t3,t5,hZ,hC,hnx,keep⟩,t6,t7,t66,t83,hN⟩:=hI
 simp only at hd t0 t3 t5 t6 t7 t66 t83 hZ hC hN hnx keep
 subst hd
 have hk':decide (Int.ofNat 60<60)=false:=rfl
 have hsum:=trivial
 generalize hr:zab anI (Eo O) ih ⟨206,116,.normal,none⟩ ⟨tm,h,[]⟩=r
 unfold anI anO an4 at hr
 simp only [SSb,Tryz.f206,cF,Option.getD,cA,cB,cI,zab,zac,zao,zak,zau,zal,lim,Nat.reduceLT,Nat.reduceEqDiff,and_true,if_true,if_false,reduceIte,false_and,true_and,Nat.beq,cond_true,cond_false,zad,zae,zaf,zar,zap,zat,Option.bind_some,zam zaA,zaj,List.getElem?_toArray,List.getElem?_cons_succ,List.getElem?_cons_zero,List.drop_succ_cons,List.drop_zero,zah,zas,Bool.and_self,Bool.true_and,hsum,t83,hk'] at hr
 subst hr
 refine ⟨_,_,by simp,rfl,rfl,⟨rfl,?_,?_,?_,hZ,hC,hnx,keep⟩,?_,?_,?_,?_,hN⟩<;>simp [zaa,lim,t0,t3,t5,t6,t7,t66,t83]
theorem zRB (hsum:∀ (a b:Int) (h:SHeap),ih (.call 263 #[.int .i64 a,.int .i64 b] .normal) h=.ok (.int .i64 (zaM a b),h)) {z b nn i j:Nat} {v:Int} {m:Nat→Int} {n0:Nat} {g:Nat→Option SObj} (hzn:z≠nn) (hbn:b≠nn) (hlt:b≤nn) (hn0:n0≤lim) (hi:i<60) (hj:j<60)
  (p:Nat) (hp:p<60) (st:St) (hI:AnO z b nn i j v m n0 g p st) :
  ∃ st',zab anO (Eo O) ih ⟨206,116,.normal,none⟩ st=.ok (.normal,st')∧AnO z b nn i j v m n0 g (p+1) st':=by
 obtain ⟨tm,h,dd⟩:=st
 obtain ⟨⟨hd,t0,t3,t5,hZ,hC,hnx,keep⟩,t66,hN⟩:=hI
 simp only at hd t0 t3 t5 t66 hZ hC hN hnx keep
 subst hd
 have hk':decide (Int.ofNat p<60)=true:=by simp; omega
 have hk2:zaK .i64 (Int.ofNat p+1)=.ofNat (p+1):=zbb (m:=p+1) (by omega)
 have hnl':h.next≤lim:=by rw [hnx]; exact hn0
 have hnl0:Nat.ble h.next 4294967296=true:=by rw [Nat.ble_eq]; exact hnl'
 have pl:=zQR (O:=O)
 unfold zlB at pl
 simp only [Tryz.f206,cF,Option.getD,zcb,zev,List.nil_append,List.append_nil,List.cons_append] at pl
 generalize hr:zab anO (Eo O) ih ⟨206,116,.normal,none⟩ ⟨tm,h,[]⟩=r
 by_cases ht:zea m i v p=2305843009213693952
 ·have c1:(zea m i v p==2305843009213693952)=true:=by simp [ht]
  unfold zea at c1
  unfold anO an4 at hr
  simp only [SSb,Tryz.f206,cF,Option.getD,cA,cB,cI,zab,zac,zao,zak,zau,zal,lim,Nat.reduceLT,Nat.reduceEqDiff,and_true,if_true,if_false,reduceIte,false_and,true_and,Nat.beq,cond_true,cond_false,zad,zae,zaf,zar,zap,zat,Option.bind_some,zam zaA,zaj,List.getElem?_toArray,List.getElem?_cons_succ,List.getElem?_cons_zero,List.drop_succ_cons,List.drop_zero,zah,zas,Bool.and_self,Bool.true_and,hsum,zct,dUn,zdQ,zbn,zkk,zjY,zjZ,t0,t3,t5,t66,hk',hk2,c1,zcV hp,zde hi,hZ.ld hp hi,hC.l0,hC.l1,hC.l2,zbX pl hnl',hnl0] at hr
  subst hr
  refine ⟨⟨_,h,[]⟩,rfl,⟨rfl,?_,?_,?_,hZ,hC,hnx,keep⟩,?_,?_⟩
  ·simp [zaa,lim,t0]
  ·simp [zaa,lim,t3]
  ·simp [zaa,lim,t5]
  ·simp [zaa,lim]
  ·refine hN.cg fun k _ => ?_
   simp only [anF]
   by_cases f:k<p*60
   ·rw [if_pos f,if_pos (by omega)]
   ·rw [if_neg f]
    by_cases e:k<(p+1)*60
    ·rw [if_pos e,anV,show k/60=p by omega,if_pos ht]
    ·rw [if_neg e]
 ·have c1:(zea m i v p==2305843009213693952)=false:=by simp [ht]
  unfold zea at c1
  generalize htm:((((((((((((((((((((tm.put 67 (some (.bool true))).put 68 (some (.int .i64 (.ofNat p)))).put 6 (some (.int .i64 (.ofNat p)))).put 69 (some (.pointer (some ⟨z,0,none⟩)))).put 70 (some (.int .i64 (.ofNat p)))).put 71 (some (.pointer (some ⟨b,0+0,none⟩)))).put 72 (some (.int .i64 (.ofNat i)))).put 73 (some (.pointer (some ⟨z,0,none⟩)))).put 74 (some (.pointer (some ⟨z,0+1,none⟩)))).put 75 (some (.pointer (some ⟨z,0+1+p*60,none⟩)))).put 76 (some (.pointer (some ⟨z,0+1+p*60+i,none⟩)))).put 77 (some (.int .i64 (m (p*60+i))))).put 78 (some (.pointer (some ⟨b,0+2,none⟩)))).put 79 (some (.int .i64 v))).put 80 (some (.int .i64 (zaM (m (p*60+i)) v)))).put 7 (some (.int .i64 (zaM (m (p*60+i)) v)))).put 81 (some (.int .i64 (zaM (m (p*60+i)) v)))).put 82 (some (.bool false))).put 83 (some (.int .i64 0))))=tmk
  have hin:AnI z b nn i j v m n0 g p 0 ⟨tmk,h,[]⟩:=by
   rw [← htm]
   refine ⟨⟨rfl,?_,?_,?_,hZ,hC,hnx,keep⟩,?_,?_,?_,?_,hN⟩<;>simp [zaa,lim,t0,t3,t5,t66,zea]
  obtain ⟨o,⟨tm',h',dd'⟩,e0,e1,e2,e3⟩:=zcS (f:=zab anI (Eo O) ih ⟨206,116,.normal,none⟩) (I:=fun q st=>AnI z b nn i j v m n0 g p q st) (N:=60)
   (P:=fun o st=>o=.exit 3∧AnI z b nn i j v m n0 g p 60 st)
   (fun q st hq hI=>.inl (zWh hsum hzn hbn hlt hn0 hj hp ht q hq st hI)) (fun st hI=>zBu st hI) 60 1000000 0 _ (by omega) (by omega) hin
  subst e2
  obtain ⟨⟨rd,r0,r3,r5,rZ,rC,rnx,rkeep⟩,r6,r7,r66,r83,rN⟩:=e3
  simp only at rd r0 r3 r5 r6 r7 r66 r83 rZ rC rN rnx rkeep
  subst rd
  unfold anI anO an4 at e1
  simp only [Tryz.f206,cF,Option.getD,cA,cB,cI,zab] at e1
  unfold anO an4 at hr
  simp only [SSb,Tryz.f206,cF,Option.getD,cA,cB,cI,zab,zac,zao,zak,zau,zal,lim,Nat.reduceLT,Nat.reduceEqDiff,and_true,if_true,if_false,reduceIte,false_and,true_and,Nat.beq,cond_true,cond_false,zad,zae,zaf,zar,zap,zat,Option.bind_some,zam zaA,zaj,List.getElem?_toArray,List.getElem?_cons_succ,List.getElem?_cons_zero,List.drop_succ_cons,List.drop_zero,zah,zas,Bool.and_self,Bool.true_and,hsum,zct,dUn,zdQ,zbn,zkk,zjY,zjZ,t0,t3,t5,t66,hk',hk2,c1,zcV hp,zde hi,hZ.ld hp hi,hC.l0,hC.l1,hC.l2,zbX pl hnl',hnl0,htm,e1,r66] at hr
  subst hr
  refine ⟨⟨_,h',[]⟩,rfl,⟨rfl,?_,?_,?_,rZ,rC,rnx,rkeep⟩,?_,?_⟩
  ·simp [zaa,lim,r0]
  ·simp [zaa,lim,r3]
  ·simp [zaa,lim,r5]
  ·simp [zaa,lim]
  ·refine rN.cg fun k _ => ?_
   rw [show p*60+60=(p+1)*60 by omega]
theorem zCd {z b nn i j:Nat} {v:Int} {m:Nat→Int} {n0:Nat} {g:Nat→Option SObj} (st:St) (hI:AnO z b nn i j v m n0 g 60 st) :
  ∃ o st',o ≠ .normal∧zab anO (Eo O) ih ⟨206,116,.normal,none⟩ st=.ok (o,st')∧(o=.exit 1∧AnO z b nn i j v m n0 g 60 st'):=by
 obtain ⟨tm,h,dd⟩:=st
 obtain ⟨⟨hd,t0,t3,t5,hZ,hC,hnx,keep⟩,t66,hN⟩:=hI
 simp only at hd t0 t3 t5 t66 hZ hC hN hnx keep
 subst hd
 have hk':decide (Int.ofNat 60<60)=false:=rfl
 have hsum:=trivial
 generalize hr:zab anO (Eo O) ih ⟨206,116,.normal,none⟩ ⟨tm,h,[]⟩=r
 unfold anO an4 at hr
 simp only [SSb,Tryz.f206,cF,Option.getD,cA,cB,cI,zab,zac,zao,zak,zau,zal,lim,Nat.reduceLT,Nat.reduceEqDiff,and_true,if_true,if_false,reduceIte,false_and,true_and,Nat.beq,cond_true,cond_false,zad,zae,zaf,zar,zap,zat,Option.bind_some,zam zaA,zaj,List.getElem?_toArray,List.getElem?_cons_succ,List.getElem?_cons_zero,List.drop_succ_cons,List.drop_zero,zah,zas,Bool.and_self,Bool.true_and,hsum,t66,hk'] at hr
 subst hr
 refine ⟨_,_,by simp,rfl,rfl,⟨rfl,?_,?_,?_,hZ,hC,hnx,keep⟩,?_,hN⟩<;>simp [zaa,lim,t0,t3,t5,t66]
/-! ## the whole of it,piece by piece -/
theorem zjv {E:Env} {ih:K} {fx:Fx} {a b:Code} {st:St}:zab (.seq a b) E ih fx st=zkF (zab a E ih fx st) (zab b E ih fx):=(id rfl)
theorem zyz {h:SHeap} {e:TypeId} {l:List Value} {o:Bool}:(zai h e l o).next=h.next+1:=(id rfl)
theorem ztP:cF Tryz.f206=.seq (cA (cF Tryz.f206)) (.seq (cA (cB (cF Tryz.f206))) (.seq (cA (cB (cB (cF Tryz.f206)))) (.seq (cA an4) (cB an4)))):=rfl
theorem zFv {tm:Tr Value} {h:SHeap} {z i j:Nat} {v:Int} (t0:tm.get 0=some (.pointer (some ⟨z,0,none⟩))) (t1:tm.get 1=some (.agg #[.int .i64 (.ofNat i),.int .i64 (.ofNat j),.int .i64 v])) :
  ∃ tm',zab (cA (cF Tryz.f206)) (Eo O) ih ⟨206,116,.normal,none⟩ ⟨tm,h,[]⟩=.ok (.normal,⟨tm',zai h 230 [.int .i64 (.ofNat i),.int .i64 (.ofNat j),.int .i64 v] false,[]⟩) ∧
   tm'.get 0=some (.pointer (some ⟨z,0,none⟩))∧tm'.get 3=some (.pointer (some ⟨h.next,0,none⟩)):=by
 generalize hr:zab (cA (cF Tryz.f206)) (Eo O) ih ⟨206,116,.normal,none⟩ ⟨tm,h,[]⟩=r
 have hsum:=trivial
 simp only [SSb,Tryz.f206,cF,Option.getD,cA,cB,cI,zab,zac,zao,zak,zau,zal,lim,Nat.reduceLT,Nat.reduceEqDiff,and_true,if_true,if_false,reduceIte,false_and,true_and,Nat.beq,cond_true,cond_false,zad,zae,zaf,zar,zap,zat,Option.bind_some,zam zaA,zaj,List.getElem?_toArray,List.getElem?_cons_succ,List.getElem?_cons_zero,List.drop_succ_cons,List.drop_zero,zah,zas,Bool.and_self,Bool.true_and,hsum,zco,zGL,zec,t0,t1] at hr
 subst hr
 exact ⟨_,rfl,by simp [zaa,lim,t0],by simp [zaa,lim]⟩
theorem zTl (hsum:∀ (a b:Int) (h:SHeap),ih (.call 263 #[.int .i64 a,.int .i64 b] .normal) h=.ok (.int .i64 (zaM a b),h)) {tm:Tr Value} {h:SHeap} {z b i j:Nat} {v:Int} {m:Nat→Int} (t0:tm.get 0=some (.pointer (some ⟨z,0,none⟩))) (t3:tm.get 3=some (.pointer (some ⟨b,0,none⟩)))
  (hZ:Zon h z m) (hC:Cn h b i j v) (hi:i<60) (hj:j<60) (hij:i≠j) (hn:h.next≤lim) (hgt:¬ m (i*60+j)≤v) (hs:¬ zaM (m (j*60+i)) v<0) :
  ∃ tm',zab (cA (cB (cF Tryz.f206))) (Eo O) ih ⟨206,116,.normal,none⟩ ⟨tm,h,[]⟩=.ok (.normal,⟨tm',h,[]⟩) ∧
   tm'.get 0=some (.pointer (some ⟨z,0,none⟩))∧tm'.get 3=some (.pointer (some ⟨b,0,none⟩)):=by
 have c1:(Int.ofNat i==Int.ofNat j)=false:=by simp; omega
 have c2:decide (m (i*60+j)≤v)=false:=by simpa using hgt
 have c3:decide (zaM (m (j*60+i)) v<0)=false:=by simpa using hs
 have hnl0:Nat.ble h.next 4294967296=true:=by rw [Nat.ble_eq]; exact hn
 have pl:=zFJ (O:=O)
 have pm:=zRN (O:=O)
 unfold zlB at pl pm
 simp only [Tryz.f206,cF,Option.getD,zcb,zev,List.nil_append,List.append_nil,List.cons_append] at pl pm
 generalize hr:zab (cA (cB (cF Tryz.f206))) (Eo O) ih ⟨206,116,.normal,none⟩ ⟨tm,h,[]⟩=r
 simp only [SSb,Tryz.f206,cF,Option.getD,cA,cB,cI,zab,zac,zao,zak,zau,zal,lim,Nat.reduceLT,Nat.reduceEqDiff,and_true,if_true,if_false,reduceIte,false_and,true_and,Nat.beq,cond_true,cond_false,zad,zae,zaf,zar,zap,zat,Option.bind_some,zam zaA,zaj,List.getElem?_toArray,List.getElem?_cons_succ,List.getElem?_cons_zero,List.drop_succ_cons,List.drop_zero,zah,zas,Bool.and_self,Bool.true_and,hsum,zbn,dUn,zdQ,zcQ,zkk,zjY,zjZ,t0,t3,c1,c2,c3,zcV hi,zde hj,zcV hj,zde hi,hZ.dead,hZ.ld hi hj,hZ.ld hj hi,hC.l0,hC.l1,hC.l2,zbX pl hn,zbX pm hn,hnl0] at hr
 subst hr
 exact ⟨_,rfl,by simp [zaa,lim,t0],by simp [zaa,lim,t3]⟩
theorem zLR {tm:Tr Value} {h:SHeap} {z b i j:Nat} {v:Int} {m:Nat→Int} (t0:tm.get 0=some (.pointer (some ⟨z,0,none⟩))) (t3:tm.get 3=some (.pointer (some ⟨b,0,none⟩)))
  (hZ:Zon h z m) (hC:Cn h b i j v) (hi:i<60) (hj:j<60) (hij:i≠j) (hn:h.next≤lim) (hgt:m (i*60+j)≤v) :
  ∃ tm',zab (cA (cB (cF Tryz.f206))) (Eo O) ih ⟨206,116,.normal,none⟩ ⟨tm,h,[]⟩=.ok (.ret,⟨tm',h,[]⟩)∧tm'.get 4=some (.pointer (some ⟨z,0,none⟩)):=by
 have c1:(Int.ofNat i==Int.ofNat j)=false:=by simp; omega
 have c2:decide (m (i*60+j)≤v)=true:=by simpa using hgt
 have hnl0:Nat.ble h.next 4294967296=true:=by rw [Nat.ble_eq]; exact hn
 have hsum:=trivial
 have pl:=zFJ (O:=O)
 unfold zlB at pl
 simp only [Tryz.f206,cF,Option.getD,zcb,zev,List.nil_append,List.append_nil,List.cons_append] at pl
 generalize hr:zab (cA (cB (cF Tryz.f206))) (Eo O) ih ⟨206,116,.normal,none⟩ ⟨tm,h,[]⟩=r
 simp only [SSb,Tryz.f206,cF,Option.getD,cA,cB,cI,zab,zac,zao,zak,zau,zal,lim,Nat.reduceLT,Nat.reduceEqDiff,and_true,if_true,if_false,reduceIte,false_and,true_and,Nat.beq,cond_true,cond_false,zad,zae,zaf,zar,zap,zat,Option.bind_some,zam zaA,zaj,List.getElem?_toArray,List.getElem?_cons_succ,List.getElem?_cons_zero,List.drop_succ_cons,List.drop_zero,zah,zas,Bool.and_self,Bool.true_and,hsum,zbn,dUn,zdQ,zcQ,zkk,zjY,zjZ,t0,t3,c1,c2,zcV hi,zde hj,zcV hj,zde hi,hZ.dead,hZ.ld hi hj,hZ.ld hj hi,hC.l0,hC.l1,hC.l2,zbX pl hn,hnl0] at hr
 subst hr
 exact ⟨_,rfl,by simp [zaa,lim]⟩
theorem zTn {tm:Tr Value} {h:SHeap} {z b:Nat} {m:Nat→Int} (t0:tm.get 0=some (.pointer (some ⟨z,0,none⟩))) (t3:tm.get 3=some (.pointer (some ⟨b,0,none⟩)))
  (hZ:Zon h z m) (hn:h.next<lim) :
  ∃ tm' h',zab (cA (cB (cB (cF Tryz.f206)))) (Eo O) ih ⟨206,116,.normal,none⟩ ⟨tm,h,[]⟩=.ok (.normal,⟨tm',h',[]⟩) ∧
   tm'.get 0=some (.pointer (some ⟨z,0,none⟩))∧tm'.get 3=some (.pointer (some ⟨b,0,none⟩))∧tm'.get 5=some (.pointer (some ⟨h.next,0,none⟩))∧Zon h' h.next m∧h'.next=h.next+1∧∀ d,d≠h.next→h'.t.get d=h.t.get d:=by
 obtain ⟨h1,s1,z1,nx1,o1⟩:=zst (O:=O) hn m
 generalize hr:zab (cA (cB (cB (cF Tryz.f206)))) (Eo O) ih ⟨206,116,.normal,none⟩ ⟨tm,h,[]⟩=r
 have hsum:=trivial
 obtain ⟨big,hbig⟩:∃ big,big=Value.agg (.bool false::zbc m 3600).toArray:=⟨_,rfl⟩
 have hw:=hZ.whole (O:=O)
 rw [← hbig] at hw s1
 simp only [SSb,Tryz.f206,cF,Option.getD,cA,cB,cI,zab,zac,zao,zak,zau,zal,lim,Nat.reduceLT,Nat.reduceEqDiff,and_true,if_true,if_false,reduceIte,false_and,true_and,Nat.beq,cond_true,cond_false,zad,zae,zaf,zar,zap,zat,Option.bind_some,zam zaA,zaj,List.getElem?_toArray,List.getElem?_cons_succ,List.getElem?_cons_zero,List.drop_succ_cons,List.drop_zero,zah,zas,Bool.and_self,Bool.true_and,hsum,zct,zmv,hw,s1,t0,t3] at hr
 subst hr
 exact ⟨_,h1,rfl,by simp [zaa,lim,t0],by simp [zaa,lim,t3],by simp [zaa,lim],z1,nx1,o1⟩
theorem zYg (hsum:∀ (a b:Int) (h:SHeap),ih (.call 263 #[.int .i64 a,.int .i64 b] .normal) h=.ok (.int .i64 (zaM a b),h)) {tm:Tr Value} {h:SHeap} {z b nn i j:Nat} {v:Int} {m:Nat→Int}
  (t0:tm.get 0=some (.pointer (some ⟨z,0,none⟩))) (t3:tm.get 3=some (.pointer (some ⟨b,0,none⟩))) (t5:tm.get 5=some (.pointer (some ⟨nn,0,none⟩)))
  (hZ:Zon h z m) (hC:Cn h b i j v) (hN:Zon h nn m) (hzn:z≠nn) (hbn:b<nn) (hn:h.next≤lim) (hi:i<60) (hj:j<60) :
  ∃ tm' h',zab (cA an4) (Eo O) ih ⟨206,116,.normal,none⟩ ⟨tm,h,[]⟩=.ok (.normal,⟨tm',h',[]⟩)∧tm'.get 5=some (.pointer (some ⟨nn,0,none⟩))∧Zon h' nn (anF m i j v 3600)∧h'.next=h.next∧∀ e,e<b→h'.t.get e=h.t.get e:=by
 have hin:AnO z b nn i j v m h.next h.t.get 0 ⟨tm.put 66 (some (.int .i64 0)),h,[]⟩:=by
  refine ⟨⟨rfl,?_,?_,?_,hZ,hC,rfl,fun _ _=>rfl⟩,?_,hN.cg fun k _=>by simp [anF]⟩<;>simp [zaa,lim,t0,t3,t5]
 obtain ⟨o,⟨tm',h',dd'⟩,e0,e1,e2,e3⟩:=zcS (f:=zab anO (Eo O) ih ⟨206,116,.normal,none⟩) (I:=fun p st=>AnO z b nn i j v m h.next h.t.get p st) (N:=60)
  (P:=fun o st=>o=.exit 1∧AnO z b nn i j v m h.next h.t.get 60 st)
  (fun p st hp hI=>.inl (zRB hsum hzn (by omega) (by omega) hn hi hj p hp st hI)) (fun st hI=>zCd st hI) 60 1000000 0 _ (by omega) (by omega) hin
 subst e2
 obtain ⟨⟨rd,r0,r3,r5,rZ,rC,rnx,rkeep⟩,r66,rN⟩:=e3
 simp only at rd r0 r3 r5 r66 rZ rC rN rnx rkeep
 subst rd
 unfold anO an4 at e1
 simp only [Tryz.f206,cF,Option.getD,cA,cB,cI,zab] at e1
 generalize hr:zab (cA an4) (Eo O) ih ⟨206,116,.normal,none⟩ ⟨tm,h,[]⟩=r
 unfold an4 at hr
 simp only [SSb,Tryz.f206,cF,Option.getD,cA,cB,cI,zab,zac,zao,zak,zau,zal,lim,Nat.reduceLT,Nat.reduceEqDiff,and_true,if_true,if_false,reduceIte,false_and,true_and,Nat.beq,cond_true,cond_false,zad,zae,zaf,zar,zap,zat,Option.bind_some,zam zaA,zaj,List.getElem?_toArray,List.getElem?_cons_succ,List.getElem?_cons_zero,List.drop_succ_cons,List.drop_zero,zah,zas,Bool.and_self,Bool.true_and,hsum,e1] at hr
 subst hr
 exact ⟨tm',h',rfl,r5,rN,rnx,rkeep⟩
theorem zRM {n:Nat} (hO4:O 264=none) {tm:Tr Value} {h:SHeap} {nn:Nat} {f:Nat→Int} (t5:tm.get 5=some (.pointer (some ⟨nn,0,none⟩))) (hN:Zon h nn f) (hset:∀ k,k<60→0≤f (k*60+k)) (hn:h.next+2≤lim) :
  ∃ tm' h',zab (cB an4) (Eo O) (run (Eo O) (n+1)) ⟨206,116,.normal,none⟩ ⟨tm,h,[]⟩=.ok (.ret,⟨tm',h',[]⟩)∧tm'.get 4=some (.pointer (some ⟨h.next+1,0,none⟩))∧Zon h' (h.next+1) f∧h'.next=h.next+2∧∀ e,e<h.next→h'.t.get e=h.t.get e:=by
 obtain ⟨h1,e1,z1,nx1,k1⟩:=zno (O:=O) (n:=n) hO4 hset (h:=h) hn
 generalize run (Eo O) (n+1)=ih at e1 ⊢
 obtain ⟨big,hbig⟩:∃ big,big=Value.agg (zbc f 3600).toArray:=⟨_,rfl⟩
 have hw:=hN.all (O:=O)
 rw [← hbig] at hw e1
 generalize hr:zab (cB an4) (Eo O) ih ⟨206,116,.normal,none⟩ ⟨tm,h,[]⟩=r
 have hsum:=trivial
 unfold an4 at hr
 simp only [SSb,Tryz.f206,cF,Option.getD,cA,cB,cI,zab,zac,zao,zak,zau,zal,lim,Nat.reduceLT,Nat.reduceEqDiff,and_true,if_true,if_false,reduceIte,false_and,true_and,Nat.beq,cond_true,cond_false,zad,zae,zaf,zar,zap,zat,Option.bind_some,zam zaA,zaj,List.getElem?_toArray,List.getElem?_cons_succ,List.getElem?_cons_zero,List.drop_succ_cons,List.drop_zero,zah,zas,Bool.and_self,Bool.true_and,hsum,zbn,zam zDi,hw,e1,t5] at hr
 subst hr
 exact ⟨_,h1,rfl,by simp [zaa,lim],z1,nx1,k1⟩
theorem zDX {n:Nat} (hOa:O 206=none) (hO4:O 264=none) (hsum:∀ (a b:Int) (h:SHeap),run (Eo O) (n+1) (.call 263 #[.int .i64 a,.int .i64 b] .normal) h=.ok (.int .i64 (zaM a b),h)) {z i j:Nat} {v:Int} {m:Nat→Int} {h:SHeap}
  (hZ:Zon h z m) (hzl:z<h.next) (hn:h.next+4≤lim) (hi:i<60) (hj:j<60) (hij:i≠j) (hgt:¬ m (i*60+j)≤v) (hs:¬ zaM (m (j*60+i)) v<0) (hset:∀ k,k<60→0≤anF m i j v 3600 (k*60+k)) :
  ∃ h2,run (Eo O) (n+2) (.call 206 #[.pointer (some ⟨z,0,none⟩),.agg #[.int .i64 (.ofNat i),.int .i64 (.ofNat j),.int .i64 v]] .normal) h=.ok (.pointer (some ⟨h.next+3,0,none⟩),h2)∧Zon h2 (h.next+3) (anF m i j v 3600)∧h2.next=h.next+4∧∀ e,e<h.next→h2.t.get e=h.t.get e:=by
 suffices hc:∃ tm' h',zab (cF Tryz.f206) (Eo O) (run (Eo O) (n+1)) ⟨206,116,.normal,none⟩ ⟨Tr.ofL 33 [.pointer (some ⟨z,0,none⟩),.agg #[.int .i64 (.ofNat i),.int .i64 (.ofNat j),.int .i64 v]],h,[]⟩=.ok (.ret,⟨tm',h',[]⟩) ∧
   tm'.get 4=some (.pointer (some ⟨h.next+3,0,none⟩))∧Zon h' (h.next+3) (anF m i j v 3600)∧h'.next=h.next+4∧∀ e,e<h.next→h'.t.get e=h.t.get e by
  obtain ⟨tm',h',k1,k2,k3⟩:=hc
  exact ⟨h',(zby (show (Eo O).O 206=none from hOa)).trans (zaY (vs:=[_]) zDd zvU zDf rfl zzB k1 (by simp only [zaQ,k2,zcM])),k3⟩
 obtain ⟨tm1,a1,a2,a3⟩:=zFv (O:=O) (ih:=run (Eo O) (n+1)) (tm:=Tr.ofL 33 [.pointer (some ⟨z,0,none⟩),.agg #[.int .i64 (.ofNat i),.int .i64 (.ofNat j),.int .i64 v]]) (h:=h) (z:=z) (i:=i) (j:=j) (v:=v) rfl rfl
 have hC1:=zze (h:=h) (i:=i) (j:=j) (v:=v) (by omega)
 have hZ1:=hZ.to (zbK (h:=h) (e:=230) (l:=[.int .i64 (.ofNat i),.int .i64 (.ofNat j),.int .i64 v]) (o:=false) (d:=z) (by omega))
 have kp1:∀ e,e<h.next→(zai h 230 [.int .i64 (.ofNat i),.int .i64 (.ofNat j),.int .i64 v] false).t.get e=h.t.get e:=fun e he=>zbK (by omega)
 have nx1:(zai h 230 [.int .i64 (.ofNat i),.int .i64 (.ofNat j),.int .i64 v] false).next=h.next+1:=zyz
 generalize zai h 230 [.int .i64 (.ofNat i),.int .i64 (.ofNat j),.int .i64 v] false=H1 at a1 hC1 hZ1 kp1 nx1
 obtain ⟨tm2,b1,b2,b3⟩:=zTl (O:=O) hsum a2 a3 hZ1 hC1 hi hj hij (by omega) hgt hs
 obtain ⟨tm3,H3,c1,c2,c3,c4,c5,nx3,kp3⟩:=zTn (O:=O) (ih:=run (Eo O) (n+1)) b2 b3 hZ1 (by omega)
 obtain ⟨tm4,H4,d1,d2,d3,nx4,kp4⟩:=zYg (O:=O) hsum c2 c3 c4 (hZ1.to (kp3 z (by omega))) (hC1.to (kp3 _ (by omega))) c5 (by omega) (by omega) (by omega) hi hj
 obtain ⟨tm5,H5,e1,e2,e3,nx5,kp5⟩:=zRM (O:=O) (n:=n) hO4 d2 d3 hset (by omega)
 refine ⟨tm5,H5,?_,?_,?_,by omega,fun e he=>(kp5 e (by omega)).trans ((kp4 e he).trans ((kp3 e (by omega)).trans (kp1 e he)))⟩
 ·rw [ztP]
  simp only [zjv,a1,b1,c1,d1,e1,zaC]
 ·rw [e2,show H4.next+1=h.next+3 by omega]
 ·rw [show h.next+3=H4.next+1 by omega]; exact e3
theorem zAd {n:Nat} (hOa:O 206=none) {z i j:Nat} {v:Int} {m:Nat→Int} {h:SHeap}
  (hZ:Zon h z m) (hzl:z<h.next) (hn:h.next+1≤lim) (hi:i<60) (hj:j<60) (hij:i≠j) (hgt:m (i*60+j)≤v) :
  ∃ h2,run (Eo O) (n+1) (.call 206 #[.pointer (some ⟨z,0,none⟩),.agg #[.int .i64 (.ofNat i),.int .i64 (.ofNat j),.int .i64 v]] .normal) h=.ok (.pointer (some ⟨z,0,none⟩),h2)∧h2.next=h.next+1∧∀ e,e<h.next→h2.t.get e=h.t.get e:=by
 suffices hc:∃ tm' h',zab (cF Tryz.f206) (Eo O) (run (Eo O) n) ⟨206,116,.normal,none⟩ ⟨Tr.ofL 33 [.pointer (some ⟨z,0,none⟩),.agg #[.int .i64 (.ofNat i),.int .i64 (.ofNat j),.int .i64 v]],h,[]⟩=.ok (.ret,⟨tm',h',[]⟩) ∧
   tm'.get 4=some (.pointer (some ⟨z,0,none⟩))∧h'.next=h.next+1∧∀ e,e<h.next→h'.t.get e=h.t.get e by
  obtain ⟨tm',h',k1,k2,k3⟩:=hc
  exact ⟨h',(zby (show (Eo O).O 206=none from hOa)).trans (zaY (vs:=[_]) zDd zvU zDf rfl zzB k1 (by simp only [zaQ,k2,zcM])),k3⟩
 obtain ⟨tm1,a1,a2,a3⟩:=zFv (O:=O) (ih:=run (Eo O) n) (tm:=Tr.ofL 33 [.pointer (some ⟨z,0,none⟩),.agg #[.int .i64 (.ofNat i),.int .i64 (.ofNat j),.int .i64 v]]) (h:=h) (z:=z) (i:=i) (j:=j) (v:=v) rfl rfl
 have hC1:=zze (h:=h) (i:=i) (j:=j) (v:=v) (by omega)
 have hZ1:=hZ.to (zbK (h:=h) (e:=230) (l:=[.int .i64 (.ofNat i),.int .i64 (.ofNat j),.int .i64 v]) (o:=false) (d:=z) (by omega))
 have kp1:∀ e,e<h.next→(zai h 230 [.int .i64 (.ofNat i),.int .i64 (.ofNat j),.int .i64 v] false).t.get e=h.t.get e:=fun e he=>zbK (by omega)
 have nx1:(zai h 230 [.int .i64 (.ofNat i),.int .i64 (.ofNat j),.int .i64 v] false).next=h.next+1:=zyz
 generalize zai h 230 [.int .i64 (.ofNat i),.int .i64 (.ofNat j),.int .i64 v] false=H1 at a1 hC1 hZ1 kp1 nx1
 obtain ⟨tm2,b1,b2⟩:=zLR (O:=O) (ih:=run (Eo O) n) a2 a3 hZ1 hC1 hi hj hij (by omega) hgt
 refine ⟨tm2,H1,?_,b2,nx1,kp1⟩
 rw [ztP]
 simp only [zjv,a1,b1,zaC,zbB]
theorem zEi {c u:Tr Value} {i j:Nat} {v:Int} {k:Nat} (hk:k<3600) (hu:fv u (k/60)=zea (fun k=>fv c (1+k)) i v (k/60)):zjC c u j k=anF (fun k=>fv c (1+k)) i j v 3600 k:=by
 unfold zjC anF anV
 rw [zbF,hu,if_pos hk]
 by_cases e:zea (fun k=>fv c (1+k)) i v (k/60)=2305843009213693952
 ·rw [if_pos e,e]; rfl
 ·rw [if_neg e,zmJ]
  have:zbA (zea (fun k=>fv c (1+k)) i v (k/60))=false:=by
   cases h:zea (fun k=>fv c (1+k)) i v (k/60) with
   | ofNat n=>
    simp only [zbA]
    rw [h] at e
    cases q:Nat.beq n 2305843009213693952 with
    | true=>exact absurd (by rw [Nat.eq_of_beq_eq_true q]; rfl) e
    | false=>rfl
   | negSucc n=>rfl
  rw [this,cond_false]
theorem zDN {n:Nat} (hOa:O 206=none) (hO4:O 264=none) (hsum:∀ (a b:Int) (h:SHeap),run (Eo O) (n+1) (.call 263 #[.int .i64 a,.int .i64 b] .normal) h=.ok (.int .i64 (zaM a b),h))
  {args:List Value} {h h':SHeap} {w:Value} (hlow:∀ b o,h.t.get b=some o→b<h.next) (hok:zqB 289 args h=.ok (w,h')) :
  ∃ h'',run (Eo O) (n+2) (.call 206 args.toArray .normal) h=.ok (w,h'')∧h''.next=h'.next∧∀ b o,h'.t.get b=some o→∃ o2,h''.t.get b=some o2∧ObjLe (Eo O) o2 o:=by
 unfold zqB at hok
 split at hok
 ·rename_i z i j v
  unfold zBl at hok
  split at hok
  ·rename_i c nn e hz
   split at hok
   ·rename_i cs hcs
    cases e3:(zbu cs&&Nat.beq nn 3601&&Nat.beq e 289&&Nat.ble (h.next+4) lim&&Nat.blt i 60&&Nat.blt j 60&&(bif Nat.beq i j then false else true)) with
    | false=>rw [e3] at hok; simp at hok
    | true=>
    rw [e3,cond_true] at hok
    simp only [Bool.and_eq_true] at e3
    obtain ⟨⟨⟨⟨⟨⟨f1,f2⟩,f3⟩,f4⟩,f5⟩,f6⟩,f7⟩:=e3
    obtain rfl:=Nat.eq_of_beq_eq_true f2
    obtain rfl:=Nat.eq_of_beq_eq_true f3
    have f4:=Nat.le_of_ble_eq_true f4
    have f5:=zaB f5
    have f6:=zaB f6
    have f7:i≠j:=fun q=>by rw [q,Nat.beq_refl] at f7; simp at f7
    obtain ⟨w1,w2⟩:=zcF hcs
    have hlen:cs.length=3600:=by simpa using w1
    have hc0:c.get 0=some (.bool false):=by rw [← w2 0 (by omega) (by unfold lim; omega)]; rfl
    have hck:∀ k,k<3600→c.get (1+k)=some (.int .i64 (fv c (1+k))):=by
     intro k hk
     obtain ⟨m,hm⟩:=zdI f1 k (by omega)
     have:c.get (1+k)=some (.int .i64 m):=by
      rw [← w2 (1+k) (by omega) (by unfold lim; omega),show 1+k=k+1 by omega,List.getElem?_cons_succ,hm]
     rw [zhI this]; exact this
    have hZ:Zon h z (fun k=>fv c (1+k)):=⟨c,hz,hc0,hck⟩
    have hzl:=hlow _ _ hz
    unfold zwr at hok
    cases g1:decide (fv c (1+(i*60+j))≤v) with
    | true=>
     rw [g1,cond_true] at hok
     obtain ⟨rfl,rfl⟩:=zaq hok
     obtain ⟨h2,k1,k2,k3⟩:=zAd (O:=O) (n:=n+1) hOa hZ hzl (by omega) f5 f6 f7 (of_decide_eq_true g1)
     exact ⟨h2,k1,k2,fun b o hb=>⟨o,by rw [k3 b (hlow b o hb)]; exact hb,ObjLe.refl o⟩⟩
    | false=>
     rw [g1,cond_false] at hok
     cases g2:decide (zaM (fv c (1+(j*60+i))) v<0) with
     | true=>rw [g2] at hok; simp at hok
     | false=>
     rw [g2,cond_false] at hok
     unfold zzY at hok
     rw [zav,zav] at hok
     obtain ⟨u,hu⟩:∃ u,u=Tr.ofL 33 (zbR (fun p=>zaM (fv c (1+(p*60+i))) v) 60 []):=⟨_,rfl⟩
     rw [← hu] at hok
     have fu:∀ p,p<60→fv u p=zea (fun k=>fv c (1+k)) i v p:=fun p hp=>by rw [hu,zho hp (by omega)]; rfl
     obtain ⟨r,hr⟩:∃ r,r=Tr.ofL 33 (Value.bool false::zbR (zjC c u j) 3600 []):=⟨_,rfl⟩
     have hrg:∀ k,k<3600→r.get (1+k)=some (.int .i64 (zjC c u j k)):=by
      intro k hk
      rw [hr,zbv (by unfold lim; omega),show 1+k=k+1 by omega,List.getElem?_cons_succ,zeh,List.append_nil,zdf hk]
     have hr0:r.get 0=some (.bool false):=by
      rw [hr,zbv (by unfold lim; omega)]; rfl
     have hrn:∀ i x,r.get i=some x→i<3601:=by
      intro i x hx
      rw [hr] at hx
      have:=zcX hx
      rcases Nat.lt_or_ge i 3601 with q | q
      ·exact q
      ·rw [List.getElem?_eq_none (by rw [List.length_cons,zeh,List.append_nil,zdd]; exact q)] at this
       simp at this
     rw [← hr] at hok
     have fG:∀ k,k<3600→zjC c u j k=anF (fun k=>fv c (1+k)) i j v 3600 k:=fun k hk=>zEi hk (fu _ (by omega))
     unfold zto at hok
     cases e5:zeM (fun i=>decide (0≤fv r (1+(i*60+i)))) 60 with
     | false=>rw [e5] at hok; simp at hok
     | true=>
     rw [e5,cond_true] at hok
     obtain ⟨rfl,rfl⟩:=zaq hok
     have hset:=zkt e5
     obtain ⟨h2,k1,⟨c',m1,m2,m3⟩,k3,k4⟩:=zDX (O:=O) (n:=n) hOa hO4 hsum hZ hzl f4 f5 f6 f7 (of_decide_eq_false g1) (of_decide_eq_false g2) (fun k hk=>by
      have:=of_decide_eq_true (hset k hk)
      rw [zhI (hrg _ (by omega)),fG _ (by omega)] at this
      exact this)
     refine ⟨h2,k1,k3,fun q o hq => ?_⟩
     simp only [zaa] at hq
     by_cases eq:q=h.next+3
     ·rw [if_pos ⟨eq,by omega⟩] at hq
      obtain rfl:=(Option.some.inj hq).symm
      refine ⟨_,by rw [eq]; exact m1,ObjLe.cells fun i x hx => ?_⟩
      have hi:=hrn i x hx
      cases i with
      | zero=>rw [hr0] at hx; rw [← hx]; exact m2
      | succ i=>
       rw [show i+1=1+i by omega] at hx ⊢
       rw [hrg i (by omega)] at hx
       rw [← hx,m3 i (by omega),fG i (by omega)]
     ·rw [if_neg (fun w=>eq w.1)] at hq
      exact ⟨o,by rw [k4 q (hlow q o hq)]; exact hq,ObjLe.refl o⟩
   ·simp at hok
  ·simp at hok
 ·simp at hok
theorem zyo (KE:EnvOK (Eo O)) (hdraw:zcp (Eo O)) (hOK:∀ f g,(Eo O).O f=some g→zaz (Eo O) f g) (hOa:O 206=none) (hO1:O 263=none) (hO4:O 264=none):zaz (Eo O) 206 (zqB 289):=
 zcJ (zdc KE hdraw hOK 2) fun args h v h' hlow hok=>by
  have:=zDN (O:=O) (n:=0) hOa hO4 (fun a b h=>zni (n:=0) hO1) hlow hok
  simpa using this
end Go.Proofs.YtghhpeemloeljaaGreat
set_option linter.unusedSimpArgs false
set_option linter.unusedVariables false
namespace Go.Proofs.YtghhpeemloeljaaGreat
open Go Go.Sim
set_option maxRecDepth 100000
set_option maxHeartbeats 1000000
variable {O:OT} {ih:K}
theorem zCk {E:Env} {G:Nat} {tm:Tr Value} {o:Oper} {x:Operand} {f:FuncId} {args:Array Operand} {ats:Array TypeId} {h:SHeap} (he:zcY E f) (hx:evT G tm x=some (.func (.func f) #[] #[])):zbY E (evT G tm) o ⟨.value x,args,ats⟩ h=(match zaj (evT G tm) args.toList with
  | none=>.error "call  args"
  | some l=>.ok (.enter f l.toArray,h)):=by
 simp only [zbY,zen,hx]
 cases zaj (evT G tm) args.toList with
 | none=>rfl
 | some l=>simp only [zej,Array.append_empty,Array.empty_append,he _ _]
theorem zEu:Tryz.f233.body=some (cF Tryz.f233):=rfl
theorem zMF:(Eo O).F 233=some Tryz.f233:=by show Tab.funcs.get 233=_; kernel_rfl
theorem zMv {a b:Value}:max Tryz.f233.ntmps (#[a,b]:Array Value).size=8:=rfl
theorem zKx:Tryz.f233.results.toList=[.tmp 4]:=rfl
theorem zDY:Tryz.f282.body=some (cF Tryz.f282):=rfl
theorem zMX:(Eo O).F 282=some Tryz.f282:=by show Tab.funcs.get 282=_; kernel_rfl
theorem zMk {a b:Value}:max Tryz.f282.ntmps (#[a,b]:Array Value).size=9:=rfl
theorem zKv:Tryz.f282.results.toList=[.tmp 4]:=rfl
theorem zMR:zcY (Eo O) 233:=fun _ _=>by kernel_rfl
theorem zLU:zcY (Eo O) 282:=fun _ _=>by kernel_rfl
theorem zDk:zcY (Eo O) 232:=fun _ _=>by kernel_rfl
theorem zFi {n:Nat} (hO:O 233=none) {a b:Int} {h:SHeap}:run (Eo O) (n+1) (.call 233 #[.int .i64 a,.int .i64 b] .normal) h=.ok (.int .i64 (zie a b),h):=by
 suffices hc:∃ tm',zab (cF Tryz.f233) (Eo O) (run (Eo O) n) ⟨233,8,.normal,none⟩ ⟨Tr.ofL 33 [.int .i64 a,.int .i64 b],h,[]⟩=.ok (.ret,⟨tm',h,[]⟩)∧tm'.get 4=some (.int .i64 (zie a b)) by
  obtain ⟨tm',k1,k2⟩:=hc
  exact (zby (show (Eo O).O 233=none from hO)).trans (zaY (vs:=[.int .i64 (zie a b)]) zMF zEu zMv rfl zKx k1 (by simp only [zaQ,k2,zcM]))
 generalize hr:zab (cF Tryz.f233) (Eo O) (run (Eo O) n) ⟨233,8,.normal,none⟩ ⟨Tr.ofL 33 [.int .i64 a,.int .i64 b],h,[]⟩=r
 have t0:(Tr.ofL 33 [Value.int .i64 a,.int .i64 b]).get 0=some (.int .i64 a):=rfl
 have t1:(Tr.ofL 33 [Value.int .i64 a,.int .i64 b]).get 1=some (.int .i64 b):=rfl
 generalize Tr.ofL 33 [Value.int .i64 a,.int .i64 b]=tm at hr t0 t1
 have hsum:=trivial
 simp only [SSb,Tryz.f233,cF,Option.getD,cA,cB,cI,zab,zac,zao,zak,zau,zal,lim,Nat.reduceLT,Nat.reduceEqDiff,and_true,if_true,if_false,reduceIte,false_and,true_and,Nat.beq,cond_true,cond_false,zad,zae,zaf,zar,zap,zat,Option.bind_some,zam zaA,zaj,List.getElem?_toArray,List.getElem?_cons_succ,List.getElem?_cons_zero,List.drop_succ_cons,List.drop_zero,zah,zas,Bool.and_self,Bool.true_and,hsum,ziL,t0,t1] at hr
 subst hr
 exact ⟨_,rfl,by simp [zaa,lim,zie]⟩
theorem zFc {n:Nat} (hO:O 282=none) {a b:Int} {h:SHeap}:run (Eo O) (n+1) (.call 282 #[.int .i64 a,.int .i64 b] .normal) h=.ok (.int .i64 (zid a b),h):=by
 suffices hc:∃ tm',zab (cF Tryz.f282) (Eo O) (run (Eo O) n) ⟨282,9,.normal,none⟩ ⟨Tr.ofL 33 [.int .i64 a,.int .i64 b],h,[]⟩=.ok (.ret,⟨tm',h,[]⟩)∧tm'.get 4=some (.int .i64 (zid a b)) by
  obtain ⟨tm',k1,k2⟩:=hc
  exact (zby (show (Eo O).O 282=none from hO)).trans (zaY (vs:=[.int .i64 (zid a b)]) zMX zDY zMk rfl zKv k1 (by simp only [zaQ,k2,zcM]))
 generalize hr:zab (cF Tryz.f282) (Eo O) (run (Eo O) n) ⟨282,9,.normal,none⟩ ⟨Tr.ofL 33 [.int .i64 a,.int .i64 b],h,[]⟩=r
 have t0:(Tr.ofL 33 [Value.int .i64 a,.int .i64 b]).get 0=some (.int .i64 a):=rfl
 have t1:(Tr.ofL 33 [Value.int .i64 a,.int .i64 b]).get 1=some (.int .i64 b):=rfl
 generalize Tr.ofL 33 [Value.int .i64 a,.int .i64 b]=tm at hr t0 t1
 have hsum:=trivial
 unfold zid
 cases c1:decide (b>a) with
 | true=>
  simp only [SSb,Tryz.f282,cF,Option.getD,cA,cB,cI,zab,zac,zao,zak,zau,zal,lim,Nat.reduceLT,Nat.reduceEqDiff,and_true,if_true,if_false,reduceIte,false_and,true_and,Nat.beq,cond_true,cond_false,zad,zae,zaf,zar,zap,zat,Option.bind_some,zam zaA,zaj,List.getElem?_toArray,List.getElem?_cons_succ,List.getElem?_cons_zero,List.drop_succ_cons,List.drop_zero,zah,zas,Bool.and_self,Bool.true_and,hsum,t0,t1,c1] at hr
  subst hr
  exact ⟨_,rfl,by simp [zaa,lim]⟩
 | false=>
  simp only [SSb,Tryz.f282,cF,Option.getD,cA,cB,cI,zab,zac,zao,zak,zau,zal,lim,Nat.reduceLT,Nat.reduceEqDiff,and_true,if_true,if_false,reduceIte,false_and,true_and,Nat.beq,cond_true,cond_false,zad,zae,zaf,zar,zap,zat,Option.bind_some,zam zaA,zaj,List.getElem?_toArray,List.getElem?_cons_succ,List.getElem?_cons_zero,List.drop_succ_cons,List.drop_zero,zah,zas,Bool.and_self,Bool.true_and,hsum,t0,t1,c1] at hr
  subst hr
  exact ⟨_,rfl,by simp [zaa,lim]⟩
/-! ## joined -/
noncomputable def joA:Code:=cB (cB (cB (cB (cF Tryz.f232))))
noncomputable def joO:Code:=cI (cI (cB (cA joA)))
noncomputable def joI:Code:=cI (cI (cB (cB (cI (cA (cB (cB joO)))))))
noncomputable def zKW (n:Nat):Array Oper:=zev (zcb (cF Tryz.f232)) n
theorem plJ:zdb (Eo O) (zKW 0).toList=some ⟨[⟨2,.pure,0⟩,⟨3,.pure,0⟩,⟨4,.pure,0⟩,⟨5,.pure,0⟩,⟨6,.pure,0⟩,⟨7,.pure,0⟩,⟨8,.pure,0⟩,⟨9,.pure,0⟩,⟨10,.read,0⟩,⟨11,.pure,0⟩,⟨12,.pure,0⟩,⟨13,.pure,0⟩,⟨14,.pure,0⟩,⟨15,.pure,0⟩,⟨16,.pure,0⟩,⟨17,.pure,0⟩,⟨18,.read,0⟩,⟨19,.eff,0⟩,⟨0,.pure,0⟩,⟨1,.pure,0⟩,⟨20,.pure,0⟩,⟨21,.pure,0⟩],22,0⟩:=by kernel_rfl
theorem zDR:Tryz.f232.body=some (cF Tryz.f232):=rfl
theorem zLt:(Eo O).F 232=some Tryz.f232:=by show Tab.funcs.get 232=_; kernel_rfl
theorem zNq {a b c:Value}:max Tryz.f232.ntmps (#[a,b,c]:Array Value).size=54:=rfl
theorem zKh:Tryz.f232.results.toList=[.tmp 6]:=rfl
def joF (F:Int→Int→Int) (m m2:Nat→Int) (n:Nat):Nat→Int:=fun k=>if k<n then F (m k) (m2 k) else m k
structure JoT (gf z b nn:Nat) (m m2:Nat→Int) (n0:Nat) (g:Nat→Option SObj) (st:St):Prop where
 ds:st.defers=[]
 t0:st.tm.get 0=some (.pointer (some ⟨z,0,none⟩))
 t1:st.tm.get 1=some (.pointer (some ⟨b,0,none⟩))
 t2:st.tm.get 2=some (.func (.func gf) #[] #[])
 t7:st.tm.get 7=some (.pointer (some ⟨nn,0,none⟩))
 Z:Zon st.h z m
 B:Zon st.h b m2
 next:st.h.next=n0
 keep:∀ e,e<nn→st.h.t.get e=g e
structure JoI (F:Int→Int→Int) (gf z b nn:Nat) (m m2:Nat→Int) (n0:Nat) (g:Nat→Option SObj) (p q:Nat) (st:St):Prop where
 T:JoT gf z b nn m m2 n0 g st
 t8:st.tm.get 8=some (.int .i64 (.ofNat p))
 t23:st.tm.get 23=some (.int .i64 (.ofNat p))
 t26:st.tm.get 26=some (.int .i64 (.ofNat q))
 N:Zon st.h nn (joF F m m2 (p*60+q))
structure JoO (F:Int→Int→Int) (gf z b nn:Nat) (m m2:Nat→Int) (n0:Nat) (g:Nat→Option SObj) (p:Nat) (st:St):Prop where
 T:JoT gf z b nn m m2 n0 g st
 t23:st.tm.get 23=some (.int .i64 (.ofNat p))
 N:Zon st.h nn (joF F m m2 (p*60))
theorem zPS {F:Int→Int→Int} {gf:Nat} (he:zcY (Eo O) gf) (hF:∀ (a b:Int) (h:SHeap),ih (.call gf #[.int .i64 a,.int .i64 b] .normal) h=.ok (.int .i64 (F a b),h)) {z b nn:Nat} {m m2:Nat→Int} {n0:Nat} {g:Nat→Option SObj} (hzn:z≠nn) (hbn:b≠nn) (hn0:n0≤lim)
  {p:Nat} (hp:p<60) (q:Nat) (hq:q<60) (st:St) (hI:JoI F gf z b nn m m2 n0 g p q st) :
  ∃ st',zab joI (Eo O) ih ⟨232,54,.normal,none⟩ st=.ok (.normal,st')∧JoI F gf z b nn m m2 n0 g p (q+1) st':=by
 obtain ⟨tm,h,dd⟩:=st
 obtain ⟨⟨hd,t0,t1,t2,t7,hZ,hB,hnx,keep⟩,t8,t23,t26,hN⟩:=hI
 simp only at hd t0 t1 t2 t7 t8 t23 t26 hZ hB hN hnx keep
 subst hd
 have hsum:=trivial
 have hk':decide (Int.ofNat q<60)=true:=by simp; omega
 have hk2:zaK .i64 (Int.ofNat q+1)=.ofNat (q+1):=zbb (m:=q+1) (by omega)
 generalize hr:zab joI (Eo O) ih ⟨232,54,.normal,none⟩ ⟨tm,h,[]⟩=r
 unfold joI joO joA at hr
 have pl:=plJ (O:=O)
 unfold zKW at pl
 simp only [Tryz.f232,cF,Option.getD,zcb,zev,List.nil_append,List.append_nil,List.cons_append] at pl
 have hnl':h.next≤lim:=by rw [hnx]; exact hn0
 have hnl0:Nat.ble h.next 4294967296=true:=by rw [Nat.ble_eq]; exact hnl'
 obtain ⟨h1,s1,N1,nx1,o1⟩:=hN.st (O:=O) hp hq (F (m (p*60+q)) (m2 (p*60+q)))
 simp only [SSb,Tryz.f232,cF,Option.getD,cA,cB,cI,zab,zac,zao,zak,zau,zal,lim,Nat.reduceLT,Nat.reduceEqDiff,and_true,if_true,if_false,reduceIte,false_and,true_and,Nat.beq,cond_true,cond_false,zad,zae,zaf,zar,zap,zat,Option.bind_some,zam zaA,zaj,List.getElem?_toArray,List.getElem?_cons_succ,List.getElem?_cons_zero,List.drop_succ_cons,List.drop_zero,zah,zas,Bool.and_self,Bool.true_and,hsum,zCk he,hF,t0,t1,t2,t7,t8,t23,t26,hk',hk2,zcV hp,zde hq,hZ.ld hp hq,hB.ld hp hq,s1,zbX pl hnl',hnl0] at hr
 subst hr
 refine ⟨_,rfl,⟨rfl,?_,?_,?_,?_,hZ.to (o1 _ hzn),hB.to (o1 _ hbn),nx1.trans hnx,fun e he=>(o1 _ (by omega)).trans (keep e he)⟩,?_,?_,?_,N1.cg fun k _ => ?_⟩
 ·simp [zaa,lim,t0]
 ·simp [zaa,lim,t1]
 ·simp [zaa,lim,t2]
 ·simp [zaa,lim,t7]
 ·simp [zaa,lim,t8]
 ·simp [zaa,lim,t23]
 ·simp [zaa,lim]
 ·simp only [zes,joF]
  by_cases e:k=p*60+q
  ·rw [if_pos e,if_pos (by omega),e]
  ·rw [if_neg e]
   by_cases f:k<p*60+q
   ·rw [if_pos f,if_pos (by omega)]
   ·rw [if_neg f,if_neg (by omega)]
theorem zAD {F:Int→Int→Int} {gf z b nn:Nat} {m m2:Nat→Int} {n0:Nat} {g:Nat→Option SObj} {p:Nat} (st:St) (hI:JoI F gf z b nn m m2 n0 g p 60 st) :
  ∃ o st',o ≠ .normal∧zab joI (Eo O) ih ⟨232,54,.normal,none⟩ st=.ok (o,st')∧(o=.exit 2∧JoI F gf z b nn m m2 n0 g p 60 st'):=by
 obtain ⟨tm,h,dd⟩:=st
 obtain ⟨⟨hd,t0,t1,t2,t7,hZ,hB,hnx,keep⟩,t8,t23,t26,hN⟩:=hI
 simp only at hd t0 t1 t2 t7 t8 t23 t26 hZ hB hN hnx keep
 subst hd
 have hk':decide (Int.ofNat 60<60)=false:=rfl
 have hsum:=trivial
 generalize hr:zab joI (Eo O) ih ⟨232,54,.normal,none⟩ ⟨tm,h,[]⟩=r
 unfold joI joO joA at hr
 simp only [SSb,Tryz.f232,cF,Option.getD,cA,cB,cI,zab,zac,zao,zak,zau,zal,lim,Nat.reduceLT,Nat.reduceEqDiff,and_true,if_true,if_false,reduceIte,false_and,true_and,Nat.beq,cond_true,cond_false,zad,zae,zaf,zar,zap,zat,Option.bind_some,zam zaA,zaj,List.getElem?_toArray,List.getElem?_cons_succ,List.getElem?_cons_zero,List.drop_succ_cons,List.drop_zero,zah,zas,Bool.and_self,Bool.true_and,hsum,t26,hk'] at hr
 subst hr
 refine ⟨_,_,by simp,rfl,rfl,⟨rfl,?_,?_,?_,?_,hZ,hB,hnx,keep⟩,?_,?_,?_,hN⟩<;>simp [zaa,lim,t0,t1,t2,t7,t8,t23,t26]
theorem zWG {F:Int→Int→Int} {gf:Nat} (he:zcY (Eo O) gf) (hF:∀ (a b:Int) (h:SHeap),ih (.call gf #[.int .i64 a,.int .i64 b] .normal) h=.ok (.int .i64 (F a b),h)) {z b nn:Nat} {m m2:Nat→Int} {n0:Nat} {g:Nat→Option SObj} (hzn:z≠nn) (hbn:b≠nn) (hn0:n0≤lim)
  (p:Nat) (hp:p<60) (st:St) (hI:JoO F gf z b nn m m2 n0 g p st) :
  ∃ st',zab joO (Eo O) ih ⟨232,54,.normal,none⟩ st=.ok (.normal,st')∧JoO F gf z b nn m m2 n0 g (p+1) st':=by
 obtain ⟨tm,h,dd⟩:=st
 obtain ⟨⟨hd,t0,t1,t2,t7,hZ,hB,hnx,keep⟩,t23,hN⟩:=hI
 simp only at hd t0 t1 t2 t7 t23 hZ hB hN hnx keep
 subst hd
 have hsum:=trivial
 have hk':decide (Int.ofNat p<60)=true:=by simp; omega
 have hk2:zaK .i64 (Int.ofNat p+1)=.ofNat (p+1):=zbb (m:=p+1) (by omega)
 generalize hr:zab joO (Eo O) ih ⟨232,54,.normal,none⟩ ⟨tm,h,[]⟩=r
 generalize htm:((((tm.put 24 (some (.bool true))).put 25 (some (.int .i64 (.ofNat p)))).put 8 (some (.int .i64 (.ofNat p)))).put 26 (some (.int .i64 0)))=tmk
 have hin:JoI F gf z b nn m m2 n0 g p 0 ⟨tmk,h,[]⟩:=by
  rw [← htm]
  refine ⟨⟨rfl,?_,?_,?_,?_,hZ,hB,hnx,keep⟩,?_,?_,?_,hN⟩<;>simp [zaa,lim,t0,t1,t2,t7,t23]
 obtain ⟨o,⟨tm',h',dd'⟩,e0,e1,e2,e3⟩:=zcS (f:=zab joI (Eo O) ih ⟨232,54,.normal,none⟩) (I:=fun q st=>JoI F gf z b nn m m2 n0 g p q st) (N:=60)
  (P:=fun o st=>o=.exit 2∧JoI F gf z b nn m m2 n0 g p 60 st)
  (fun q st hq hI=>.inl (zPS he hF hzn hbn hn0 hp q hq st hI)) (fun st hI=>zAD st hI) 60 1000000 0 _ (by omega) (by omega) hin
 subst e2
 obtain ⟨⟨rd,r0,r1,r2,r7,rZ,rB,rnx,rkeep⟩,r8,r23,r26,rN⟩:=e3
 simp only at rd r0 r1 r2 r7 r8 r23 r26 rZ rB rN rnx rkeep
 subst rd
 unfold joI joO joA at e1
 simp only [Tryz.f232,cF,Option.getD,cA,cB,cI,zab] at e1
 unfold joO joA at hr
 simp only [SSb,Tryz.f232,cF,Option.getD,cA,cB,cI,zab,zac,zao,zak,zau,zal,lim,Nat.reduceLT,Nat.reduceEqDiff,and_true,if_true,if_false,reduceIte,false_and,true_and,Nat.beq,cond_true,cond_false,zad,zae,zaf,zar,zap,zat,Option.bind_some,zam zaA,zaj,List.getElem?_toArray,List.getElem?_cons_succ,List.getElem?_cons_zero,List.drop_succ_cons,List.drop_zero,zah,zas,Bool.and_self,Bool.true_and,hsum,t0,t1,t2,t7,t23,hk',hk2,htm,e1,r23] at hr
 subst hr
 refine ⟨⟨_,h',[]⟩,rfl,⟨rfl,?_,?_,?_,?_,rZ,rB,rnx,rkeep⟩,?_,?_⟩
 ·simp [zaa,lim,r0]
 ·simp [zaa,lim,r1]
 ·simp [zaa,lim,r2]
 ·simp [zaa,lim,r7]
 ·simp [zaa,lim]
 ·refine rN.cg fun k _ => ?_
  rw [show p*60+60=(p+1)*60 by omega]
theorem zAV {F:Int→Int→Int} {gf z b nn:Nat} {m m2:Nat→Int} {n0:Nat} {g:Nat→Option SObj} (st:St) (hI:JoO F gf z b nn m m2 n0 g 60 st) :
  ∃ o st',o ≠ .normal∧zab joO (Eo O) ih ⟨232,54,.normal,none⟩ st=.ok (o,st')∧(o=.exit 0∧JoO F gf z b nn m m2 n0 g 60 st'):=by
 obtain ⟨tm,h,dd⟩:=st
 obtain ⟨⟨hd,t0,t1,t2,t7,hZ,hB,hnx,keep⟩,t23,hN⟩:=hI
 simp only at hd t0 t1 t2 t7 t23 hZ hB hN hnx keep
 subst hd
 have hk':decide (Int.ofNat 60<60)=false:=rfl
 have hsum:=trivial
 generalize hr:zab joO (Eo O) ih ⟨232,54,.normal,none⟩ ⟨tm,h,[]⟩=r
 unfold joO joA at hr
 simp only [SSb,Tryz.f232,cF,Option.getD,cA,cB,cI,zab,zac,zao,zak,zau,zal,lim,Nat.reduceLT,Nat.reduceEqDiff,and_true,if_true,if_false,reduceIte,false_and,true_and,Nat.beq,cond_true,cond_false,zad,zae,zaf,zar,zap,zat,Option.bind_some,zam zaA,zaj,List.getElem?_toArray,List.getElem?_cons_succ,List.getElem?_cons_zero,List.drop_succ_cons,List.drop_zero,zah,zas,Bool.and_self,Bool.true_and,hsum,t23,hk'] at hr
 subst hr
 refine ⟨_,_,by simp,rfl,rfl,⟨rfl,?_,?_,?_,?_,hZ,hB,hnx,keep⟩,?_,hN⟩<;>simp [zaa,lim,t0,t1,t2,t7,t23]
theorem zkl {h:SHeap} {z:Nat} {c:Tr Value} {cs:List Value} (hz:h.t.get z=some (.cells c 3601 289 false false)) (hcs:c.toL 32 3601=some (.bool false::cs)) (f1:zbu cs=true):Zon h z (fun k=>fv c (1+k)):=by
 obtain ⟨w1,w2⟩:=zcF hcs
 have hlen:cs.length=3600:=by simpa using w1
 refine ⟨c,hz,by rw [← w2 0 (by omega) (by unfold lim; omega)]; rfl,fun k hk => ?_⟩
 obtain ⟨m,hm⟩:=zdI f1 k (by omega)
 have:c.get (1+k)=some (.int .i64 m):=by
  rw [← w2 (1+k) (by omega) (by unfold lim; omega),show 1+k=k+1 by omega,List.getElem?_cons_succ,hm]
 show c.get (1+k)=some (.int .i64 (fv c (1+k)))
 rw [zhI this]; exact this
theorem zBr:cF Tryz.f232=.seq (cA (cF Tryz.f232)) (.seq (cA (cB (cF Tryz.f232))) (.seq (cA (cB (cB (cF Tryz.f232)))) (.seq (cA (cB (cB (cB (cF Tryz.f232))))) (.seq (cA joA) (cB joA))))):=rfl
structure JoA (gf z b:Nat) (tm:Tr Value):Prop where
 t0:tm.get 0=some (.pointer (some ⟨z,0,none⟩))
 t1:tm.get 1=some (.pointer (some ⟨b,0,none⟩))
 t2:tm.get 2=some (.func (.func gf) #[] #[])
theorem zXI {gf z b:Nat} {tm:Tr Value} {h:SHeap} (k:JoA gf z b tm):∃ tm',zab (cA (cF Tryz.f232)) (Eo O) ih ⟨232,54,.normal,none⟩ ⟨tm,h,[]⟩=.ok (.normal,⟨tm',h,[]⟩)∧JoA gf z b tm':=by
 obtain ⟨t0,t1,t2⟩:=k
 generalize hr:zab (cA (cF Tryz.f232)) (Eo O) ih ⟨232,54,.normal,none⟩ ⟨tm,h,[]⟩=r
 have hsum:=trivial
 simp only [SSb,Tryz.f232,cF,Option.getD,cA,cB,cI,zab,zac,zao,zak,zau,zal,lim,Nat.reduceLT,Nat.reduceEqDiff,and_true,if_true,if_false,reduceIte,false_and,true_and,Nat.beq,cond_true,cond_false,zad,zae,zaf,zar,zap,zat,Option.bind_some,zam zaA,zaj,List.getElem?_toArray,List.getElem?_cons_succ,List.getElem?_cons_zero,List.drop_succ_cons,List.drop_zero,zah,zas,Bool.and_self,Bool.true_and,hsum,zec,t0,t1] at hr
 subst hr
 exact ⟨_,rfl,by simp [zaa,lim,t0],by simp [zaa,lim,t1],by simp [zaa,lim,t2]⟩
theorem zOn {gf z b:Nat} {m:Nat→Int} {tm:Tr Value} {h:SHeap} (k:JoA gf z b tm) (hZ:Zon h z m):∃ tm',zab (cA (cB (cF Tryz.f232))) (Eo O) ih ⟨232,54,.normal,none⟩ ⟨tm,h,[]⟩=.ok (.normal,⟨tm',h,[]⟩)∧JoA gf z b tm':=by
 obtain ⟨t0,t1,t2⟩:=k
 generalize hr:zab (cA (cB (cF Tryz.f232))) (Eo O) ih ⟨232,54,.normal,none⟩ ⟨tm,h,[]⟩=r
 have hsum:=trivial
 simp only [SSb,Tryz.f232,cF,Option.getD,cA,cB,cI,zab,zac,zao,zak,zau,zal,lim,Nat.reduceLT,Nat.reduceEqDiff,and_true,if_true,if_false,reduceIte,false_and,true_and,Nat.beq,cond_true,cond_false,zad,zae,zaf,zar,zap,zat,Option.bind_some,zam zaA,zaj,List.getElem?_toArray,List.getElem?_cons_succ,List.getElem?_cons_zero,List.drop_succ_cons,List.drop_zero,zah,zas,Bool.and_self,Bool.true_and,hsum,hZ.dead,t0,t1] at hr
 subst hr
 exact ⟨_,rfl,by simp [zaa,lim,t0],by simp [zaa,lim,t1],by simp [zaa,lim,t2]⟩
theorem zNU {gf z b:Nat} {m:Nat→Int} {tm:Tr Value} {h:SHeap} (k:JoA gf z b tm) (hB:Zon h b m):∃ tm',zab (cA (cB (cB (cF Tryz.f232)))) (Eo O) ih ⟨232,54,.normal,none⟩ ⟨tm,h,[]⟩=.ok (.normal,⟨tm',h,[]⟩)∧JoA gf z b tm':=by
 obtain ⟨t0,t1,t2⟩:=k
 generalize hr:zab (cA (cB (cB (cF Tryz.f232)))) (Eo O) ih ⟨232,54,.normal,none⟩ ⟨tm,h,[]⟩=r
 have hsum:=trivial
 simp only [SSb,Tryz.f232,cF,Option.getD,cA,cB,cI,zab,zac,zao,zak,zau,zal,lim,Nat.reduceLT,Nat.reduceEqDiff,and_true,if_true,if_false,reduceIte,false_and,true_and,Nat.beq,cond_true,cond_false,zad,zae,zaf,zar,zap,zat,Option.bind_some,zam zaA,zaj,List.getElem?_toArray,List.getElem?_cons_succ,List.getElem?_cons_zero,List.drop_succ_cons,List.drop_zero,zah,zas,Bool.and_self,Bool.true_and,hsum,hB.dead,t0,t1] at hr
 subst hr
 exact ⟨_,rfl,by simp [zaa,lim,t0],by simp [zaa,lim,t1],by simp [zaa,lim,t2]⟩
theorem zXE {gf z b:Nat} {m:Nat→Int} {tm:Tr Value} {h:SHeap} (k:JoA gf z b tm) (hZ:Zon h z m) (hn:h.next<lim):∃ tm' h',zab (cA (cB (cB (cB (cF Tryz.f232))))) (Eo O) ih ⟨232,54,.normal,none⟩ ⟨tm,h,[]⟩=.ok (.normal,⟨tm',h',[]⟩)∧JoA gf z b tm' ∧
  tm'.get 7=some (.pointer (some ⟨h.next,0,none⟩))∧Zon h' h.next m∧h'.next=h.next+1∧∀ d,d≠h.next→h'.t.get d=h.t.get d:=by
 obtain ⟨t0,t1,t2⟩:=k
 obtain ⟨h1,s1,z1,nx1,o1⟩:=zst (O:=O) hn m
 generalize hr:zab (cA (cB (cB (cB (cF Tryz.f232))))) (Eo O) ih ⟨232,54,.normal,none⟩ ⟨tm,h,[]⟩=r
 have hsum:=trivial
 obtain ⟨big,hbig⟩:∃ big,big=Value.agg (.bool false::zbc m 3600).toArray:=⟨_,rfl⟩
 have hw:=hZ.whole (O:=O)
 rw [← hbig] at hw s1
 simp only [SSb,Tryz.f232,cF,Option.getD,cA,cB,cI,zab,zac,zao,zak,zau,zal,lim,Nat.reduceLT,Nat.reduceEqDiff,and_true,if_true,if_false,reduceIte,false_and,true_and,Nat.beq,cond_true,cond_false,zad,zae,zaf,zar,zap,zat,Option.bind_some,zam zaA,zaj,List.getElem?_toArray,List.getElem?_cons_succ,List.getElem?_cons_zero,List.drop_succ_cons,List.drop_zero,zah,zas,Bool.and_self,Bool.true_and,hsum,zct,zmv,hw,s1,t0,t1] at hr
 subst hr
 exact ⟨_,h1,rfl,⟨by simp [zaa,lim,t0],by simp [zaa,lim,t1],by simp [zaa,lim,t2]⟩,by simp [zaa,lim],z1,nx1,o1⟩
theorem zTC {F:Int→Int→Int} {gf:Nat} (he:zcY (Eo O) gf) (hF:∀ (a b:Int) (h:SHeap),ih (.call gf #[.int .i64 a,.int .i64 b] .normal) h=.ok (.int .i64 (F a b),h)) {z b nn:Nat} {m m2:Nat→Int} {tm:Tr Value} {h:SHeap} (k:JoA gf z b tm)
  (t7:tm.get 7=some (.pointer (some ⟨nn,0,none⟩))) (hZ:Zon h z m) (hB:Zon h b m2) (hN:Zon h nn m) (hzn:z≠nn) (hbn:b≠nn) (hn:h.next≤lim) :
  ∃ tm' h',zab (cA joA) (Eo O) ih ⟨232,54,.normal,none⟩ ⟨tm,h,[]⟩=.ok (.normal,⟨tm',h',[]⟩)∧tm'.get 7=some (.pointer (some ⟨nn,0,none⟩))∧Zon h' nn (joF F m m2 3600)∧h'.next=h.next∧∀ e,e<nn→h'.t.get e=h.t.get e:=by
 obtain ⟨t0,t1,t2⟩:=k
 have hin:JoO F gf z b nn m m2 h.next h.t.get 0 ⟨tm.put 23 (some (.int .i64 0)),h,[]⟩:=by
  refine ⟨⟨rfl,?_,?_,?_,?_,hZ,hB,rfl,fun _ _=>rfl⟩,?_,hN.cg fun k _=>by simp [joF]⟩<;>simp [zaa,lim,t0,t1,t2,t7]
 obtain ⟨o,⟨tm',h',dd'⟩,e0,e1,e2,e3⟩:=zcS (f:=zab joO (Eo O) ih ⟨232,54,.normal,none⟩) (I:=fun p st=>JoO F gf z b nn m m2 h.next h.t.get p st) (N:=60)
  (P:=fun o st=>o=.exit 0∧JoO F gf z b nn m m2 h.next h.t.get 60 st)
  (fun p st hp hI=>.inl (zWG he hF hzn hbn hn p hp st hI)) (fun st hI=>zAV st hI) 60 1000000 0 _ (by omega) (by omega) hin
 subst e2
 obtain ⟨⟨rd,r0,r1,r2,r7,rZ,rB,rnx,rkeep⟩,r23,rN⟩:=e3
 simp only at rd r0 r1 r2 r7 r23 rZ rB rN rnx rkeep
 subst rd
 unfold joO joA at e1
 simp only [Tryz.f232,cF,Option.getD,cA,cB,cI,zab] at e1
 generalize hr:zab (cA joA) (Eo O) ih ⟨232,54,.normal,none⟩ ⟨tm,h,[]⟩=r
 have hsum:=trivial
 unfold joA at hr
 simp only [SSb,Tryz.f232,cF,Option.getD,cA,cB,cI,zab,zac,zao,zak,zau,zal,lim,Nat.reduceLT,Nat.reduceEqDiff,and_true,if_true,if_false,reduceIte,false_and,true_and,Nat.beq,cond_true,cond_false,zad,zae,zaf,zar,zap,zat,Option.bind_some,zam zaA,zaj,List.getElem?_toArray,List.getElem?_cons_succ,List.getElem?_cons_zero,List.drop_succ_cons,List.drop_zero,zah,zas,Bool.and_self,Bool.true_and,hsum,e1] at hr
 subst hr
 exact ⟨tm',h',rfl,r7,rN,rnx,rkeep⟩
theorem zNW {tm:Tr Value} {h:SHeap} {nn:Nat} (t7:tm.get 7=some (.pointer (some ⟨nn,0,none⟩))):∃ tm',zab (cB joA) (Eo O) ih ⟨232,54,.normal,none⟩ ⟨tm,h,[]⟩=.ok (.ret,⟨tm',h,[]⟩)∧tm'.get 6=some (.pointer (some ⟨nn,0,none⟩)):=by
 generalize hr:zab (cB joA) (Eo O) ih ⟨232,54,.normal,none⟩ ⟨tm,h,[]⟩=r
 have hsum:=trivial
 unfold joA at hr
 simp only [SSb,Tryz.f232,cF,Option.getD,cA,cB,cI,zab,zac,zao,zak,zau,zal,lim,Nat.reduceLT,Nat.reduceEqDiff,and_true,if_true,if_false,reduceIte,false_and,true_and,Nat.beq,cond_true,cond_false,zad,zae,zaf,zar,zap,zat,Option.bind_some,zam zaA,zaj,List.getElem?_toArray,List.getElem?_cons_succ,List.getElem?_cons_zero,List.drop_succ_cons,List.drop_zero,zah,zas,Bool.and_self,Bool.true_and,hsum,t7] at hr
 subst hr
 exact ⟨_,rfl,by simp [zaa,lim]⟩
theorem zor {n:Nat} (hO:O 232=none) {F:Int→Int→Int} {gf:Nat} (he:zcY (Eo O) gf) (hF:∀ (a b:Int) (h:SHeap),run (Eo O) n (.call gf #[.int .i64 a,.int .i64 b] .normal) h=.ok (.int .i64 (F a b),h)) {z b:Nat} {m m2:Nat→Int} {h:SHeap}
  (hZ:Zon h z m) (hB:Zon h b m2) (hz:z<h.next) (hb:b<h.next) (hn:h.next+1≤lim) :
  ∃ h2,run (Eo O) (n+1) (.call 232 #[.pointer (some ⟨z,0,none⟩),.pointer (some ⟨b,0,none⟩),.func (.func gf) #[] #[]] .normal) h=.ok (.pointer (some ⟨h.next,0,none⟩),h2)∧Zon h2 h.next (joF F m m2 3600)∧h2.next=h.next+1∧∀ e,e<h.next→h2.t.get e=h.t.get e:=by
 suffices hc:∃ tm' h',zab (cF Tryz.f232) (Eo O) (run (Eo O) n) ⟨232,54,.normal,none⟩ ⟨Tr.ofL 33 [.pointer (some ⟨z,0,none⟩),.pointer (some ⟨b,0,none⟩),.func (.func gf) #[] #[]],h,[]⟩=.ok (.ret,⟨tm',h',[]⟩) ∧
   tm'.get 6=some (.pointer (some ⟨h.next,0,none⟩))∧Zon h' h.next (joF F m m2 3600)∧h'.next=h.next+1∧∀ e,e<h.next→h'.t.get e=h.t.get e by
  obtain ⟨tm',h',k1,k2,k3⟩:=hc
  exact ⟨h',(zby (show (Eo O).O 232=none from hO)).trans (zaY (vs:=[_]) zLt zDR zNq rfl zKh k1 (by simp only [zaQ,k2,zcM])),k3⟩
 have k0:JoA gf z b (Tr.ofL 33 [.pointer (some ⟨z,0,none⟩),.pointer (some ⟨b,0,none⟩),.func (.func gf) #[] #[]]):=⟨rfl,rfl,rfl⟩
 generalize Tr.ofL 33 [Value.pointer (some ⟨z,0,none⟩),.pointer (some ⟨b,0,none⟩),.func (.func gf) #[] #[]]=tm at k0
 generalize run (Eo O) n=ih at hF ⊢
 obtain ⟨tm1,a1,k1⟩:=zXI (O:=O) (ih:=ih) (h:=h) k0
 obtain ⟨tm2,a2,k2⟩:=zOn (O:=O) (ih:=ih) k1 hZ
 obtain ⟨tm3,a3,k3⟩:=zNU (O:=O) (ih:=ih) k2 hB
 obtain ⟨tm4,H4,a4,k4,t7,z4,nx4,kp4⟩:=zXE (O:=O) (ih:=ih) k3 hZ (by omega)
 obtain ⟨tm5,H5,a5,t5,z5,nx5,kp5⟩:=zTC (O:=O) he hF k4 t7 (hZ.to (kp4 z (by omega))) (hB.to (kp4 b (by omega))) z4 (by omega) (by omega) (by omega)
 obtain ⟨tm6,a6,t6⟩:=zNW (O:=O) (ih:=ih) (h:=H5) t5
 refine ⟨tm6,H5,?_,t6,z5,by omega,fun e he=>(kp5 e he).trans (kp4 e (by omega))⟩
 rw [zBr]
 simp only [zjv,a1,a2,a3,a4,a5,a6,zaC]
theorem zDV:Tryz.f154.body=some (cF Tryz.f154):=rfl
theorem zLO:(Eo O).F 154=some Tryz.f154:=by show Tab.funcs.get 154=_; kernel_rfl
theorem zLY {a b:Value}:max Tryz.f154.ntmps (#[a,b]:Array Value).size=8:=rfl
theorem zHp:Tryz.f154.results.toList=[.tmp 4]:=rfl
theorem zAq {n:Nat} (hO:O 154=none) (hO2:O 232=none) (hO3:O 233=none) {z b:Nat} {m m2:Nat→Int} {h:SHeap}
  (hZ:Zon h z m) (hB:Zon h b m2) (hz:z<h.next) (hb:b<h.next) (hn:h.next+1≤lim) :
  ∃ h2,run (Eo O) (n+3) (.call 154 #[.pointer (some ⟨z,0,none⟩),.pointer (some ⟨b,0,none⟩)] .normal) h=.ok (.pointer (some ⟨h.next,0,none⟩),h2)∧Zon h2 h.next (joF zie m m2 3600)∧h2.next=h.next+1∧∀ e,e<h.next→h2.t.get e=h.t.get e:=by
 obtain ⟨h2,e1,z1,nx1,kp1⟩:=zor (O:=O) (n:=n+1) hO2 zMR (F:=zie) (fun a b h=>zFi hO3) hZ hB hz hb hn
 refine ⟨h2,?_,z1,nx1,kp1⟩
 suffices hc:∃ tm',zab (cF Tryz.f154) (Eo O) (run (Eo O) (n+2)) ⟨154,8,.normal,none⟩ ⟨Tr.ofL 33 [.pointer (some ⟨z,0,none⟩),.pointer (some ⟨b,0,none⟩)],h,[]⟩=.ok (.ret,⟨tm',h2,[]⟩)∧tm'.get 4=some (.pointer (some ⟨h.next,0,none⟩)) by
  obtain ⟨tm',k1,k2⟩:=hc
  exact (zby (show (Eo O).O 154=none from hO)).trans (zaY (vs:=[_]) zLO zDV zLY rfl zHp k1 (by simp only [zaQ,k2,zcM]))
 generalize run (Eo O) (n+2)=ih at e1 ⊢
 generalize hr:zab (cF Tryz.f154) (Eo O) ih ⟨154,8,.normal,none⟩ ⟨Tr.ofL 33 [.pointer (some ⟨z,0,none⟩),.pointer (some ⟨b,0,none⟩)],h,[]⟩=r
 have t0:(Tr.ofL 33 [Value.pointer (some ⟨z,0,none⟩),.pointer (some ⟨b,0,none⟩)]).get 0=some (.pointer (some ⟨z,0,none⟩)):=rfl
 have t1:(Tr.ofL 33 [Value.pointer (some ⟨z,0,none⟩),.pointer (some ⟨b,0,none⟩)]).get 1=some (.pointer (some ⟨b,0,none⟩)):=rfl
 generalize Tr.ofL 33 [Value.pointer (some ⟨z,0,none⟩),.pointer (some ⟨b,0,none⟩)]=tm at hr t0 t1
 have hsum:=trivial
 simp only [SSb,Tryz.f154,cF,Option.getD,cA,cB,cI,zab,zac,zao,zak,zau,zal,lim,Nat.reduceLT,Nat.reduceEqDiff,and_true,if_true,if_false,reduceIte,false_and,true_and,Nat.beq,cond_true,cond_false,zad,zae,zaf,zar,zap,zat,Option.bind_some,zam zaA,zaj,List.getElem?_toArray,List.getElem?_cons_succ,List.getElem?_cons_zero,List.drop_succ_cons,List.drop_zero,zah,zas,Bool.and_self,Bool.true_and,hsum,zec,zbn,zam zDk,e1,t0,t1] at hr
 subst hr
 exact ⟨_,rfl,by simp [zaa,lim]⟩
theorem zvk (KE:EnvOK (Eo O)) (hdraw:zcp (Eo O)) (hOK:∀ f g,(Eo O).O f=some g→zaz (Eo O) f g) (hO:O 154=none) (hO2:O 232=none) (hO3:O 233=none):zaz (Eo O) 154 (zqh zie 289):=
 zcJ (zdc KE hdraw hOK 3) fun args h v h' hlow hok=>by
  obtain ⟨l⟩:=args
  unfold zqh at hok
  split at hok
  ·rename_i z o e
   have e:l=[.pointer (some ⟨z,0,none⟩),.pointer (some ⟨o,0,none⟩)]:=e
   subst e
   split at hok
   ·rename_i c nn e hz
    split at hok
    ·rename_i cs hcs
     split at hok
     ·rename_i c2 nn2 e2 ho
      split at hok
      ·rename_i cs2 hcs2
       cases e3:(zbu cs&&zbu cs2&&Nat.beq nn 3601&&Nat.beq e 289&&Nat.beq nn2 3601&&Nat.beq e2 289&&Nat.ble (h.next+1) lim) with
       | false=>rw [e3] at hok; simp at hok
       | true=>
       rw [e3,cond_true,zav] at hok
       simp only [Bool.and_eq_true] at e3
       obtain ⟨⟨⟨⟨⟨⟨f1,f2⟩,f3⟩,f4⟩,f5⟩,f6⟩,f7⟩:=e3
       obtain rfl:=Nat.eq_of_beq_eq_true f3
       obtain rfl:=Nat.eq_of_beq_eq_true f4
       obtain rfl:=Nat.eq_of_beq_eq_true f5
       obtain rfl:=Nat.eq_of_beq_eq_true f6
       have f7:=Nat.le_of_ble_eq_true f7
       have hZ:=zkl hz hcs f1
       have hB:=zkl ho hcs2 f2
       obtain ⟨r,hr⟩:∃ r,r=Tr.ofL 33 (Value.bool false::zbR (fun k=>zie (fv c (1+k)) (fv c2 (1+k))) 3600 []):=⟨_,rfl⟩
       rw [← hr] at hok
       obtain ⟨rfl,rfl⟩:=zaq hok
       obtain ⟨h2,k1,⟨c',m1,m2,m3⟩,k3,k4⟩:=zAq (O:=O) (n:=0) hO hO2 hO3 hZ hB (hlow _ _ hz) (hlow _ _ ho) f7
       refine ⟨h2,k1,k3,fun q x hq => ?_⟩
       simp only [zaa] at hq
       by_cases eq:q=h.next
       ·rw [if_pos ⟨eq,by omega⟩] at hq
        obtain rfl:=(Option.some.inj hq).symm
        refine ⟨_,by rw [eq]; exact m1,ObjLe.cells fun i y hy => ?_⟩
        rw [hr] at hy
        have hlt:=zbU hy
        rw [zbv hlt] at hy
        cases i with
        | zero=>simp at hy; subst hy; exact m2
        | succ i=>
         rw [List.getElem?_cons_succ,zeh,List.append_nil] at hy
         have hi:i<3600:=by
          rcases Nat.lt_or_ge i 3600 with w | w
          ·exact w
          ·rw [List.getElem?_eq_none (by rw [zdd]; exact w)] at hy; cases hy
         rw [zdf hi] at hy
         rw [← hy,show i+1=1+i by omega,m3 i hi,joF,if_pos hi]
       ·rw [if_neg (fun w=>eq w.1)] at hq
        exact ⟨x,by rw [k4 q (hlow q x hq)]; exact hq,ObjLe.refl x⟩
      ·simp at hok
     ·simp at hok
    ·simp at hok
   ·simp at hok
  ·simp at hok
theorem zEw:Tryz.f234.body=some (cF Tryz.f234):=rfl
theorem zNv:(Eo O).F 234=some Tryz.f234:=by show Tab.funcs.get 234=_; kernel_rfl
theorem zLE {a b:Value}:max Tryz.f234.ntmps (#[a,b]:Array Value).size=8:=rfl
theorem zIg:Tryz.f234.results.toList=[.tmp 4]:=rfl
theorem zxS {n:Nat} (hO:O 234=none) (hO2:O 232=none) (hO3:O 282=none) {z b:Nat} {m m2:Nat→Int} {h:SHeap}
  (hZ:Zon h z m) (hB:Zon h b m2) (hz:z<h.next) (hb:b<h.next) (hn:h.next+1≤lim) :
  ∃ h2,run (Eo O) (n+3) (.call 234 #[.pointer (some ⟨z,0,none⟩),.pointer (some ⟨b,0,none⟩)] .normal) h=.ok (.pointer (some ⟨h.next,0,none⟩),h2)∧Zon h2 h.next (joF zid m m2 3600)∧h2.next=h.next+1∧∀ e,e<h.next→h2.t.get e=h.t.get e:=by
 obtain ⟨h2,e1,z1,nx1,kp1⟩:=zor (O:=O) (n:=n+1) hO2 zLU (F:=zid) (fun a b h=>zFc hO3) hZ hB hz hb hn
 refine ⟨h2,?_,z1,nx1,kp1⟩
 suffices hc:∃ tm',zab (cF Tryz.f234) (Eo O) (run (Eo O) (n+2)) ⟨234,8,.normal,none⟩ ⟨Tr.ofL 33 [.pointer (some ⟨z,0,none⟩),.pointer (some ⟨b,0,none⟩)],h,[]⟩=.ok (.ret,⟨tm',h2,[]⟩)∧tm'.get 4=some (.pointer (some ⟨h.next,0,none⟩)) by
  obtain ⟨tm',k1,k2⟩:=hc
  exact (zby (show (Eo O).O 234=none from hO)).trans (zaY (vs:=[_]) zNv zEw zLE rfl zIg k1 (by simp only [zaQ,k2,zcM]))
 generalize run (Eo O) (n+2)=ih at e1 ⊢
 generalize hr:zab (cF Tryz.f234) (Eo O) ih ⟨234,8,.normal,none⟩ ⟨Tr.ofL 33 [.pointer (some ⟨z,0,none⟩),.pointer (some ⟨b,0,none⟩)],h,[]⟩=r
 have t0:(Tr.ofL 33 [Value.pointer (some ⟨z,0,none⟩),.pointer (some ⟨b,0,none⟩)]).get 0=some (.pointer (some ⟨z,0,none⟩)):=rfl
 have t1:(Tr.ofL 33 [Value.pointer (some ⟨z,0,none⟩),.pointer (some ⟨b,0,none⟩)]).get 1=some (.pointer (some ⟨b,0,none⟩)):=rfl
 generalize Tr.ofL 33 [Value.pointer (some ⟨z,0,none⟩),.pointer (some ⟨b,0,none⟩)]=tm at hr t0 t1
 have hsum:=trivial
 simp only [SSb,Tryz.f234,cF,Option.getD,cA,cB,cI,zab,zac,zao,zak,zau,zal,lim,Nat.reduceLT,Nat.reduceEqDiff,and_true,if_true,if_false,reduceIte,false_and,true_and,Nat.beq,cond_true,cond_false,zad,zae,zaf,zar,zap,zat,Option.bind_some,zam zaA,zaj,List.getElem?_toArray,List.getElem?_cons_succ,List.getElem?_cons_zero,List.drop_succ_cons,List.drop_zero,zah,zas,Bool.and_self,Bool.true_and,hsum,zec,zbn,zam zDk,e1,t0,t1] at hr
 subst hr
 exact ⟨_,rfl,by simp [zaa,lim]⟩
theorem ztg (KE:EnvOK (Eo O)) (hdraw:zcp (Eo O)) (hOK:∀ f g,(Eo O).O f=some g→zaz (Eo O) f g) (hO:O 234=none) (hO2:O 232=none) (hO3:O 282=none):zaz (Eo O) 234 (zqh zid 289):=
 zcJ (zdc KE hdraw hOK 3) fun args h v h' hlow hok=>by
  obtain ⟨l⟩:=args
  unfold zqh at hok
  split at hok
  ·rename_i z o e
   have e:l=[.pointer (some ⟨z,0,none⟩),.pointer (some ⟨o,0,none⟩)]:=e
   subst e
   split at hok
   ·rename_i c nn e hz
    split at hok
    ·rename_i cs hcs
     split at hok
     ·rename_i c2 nn2 e2 ho
      split at hok
      ·rename_i cs2 hcs2
       cases e3:(zbu cs&&zbu cs2&&Nat.beq nn 3601&&Nat.beq e 289&&Nat.beq nn2 3601&&Nat.beq e2 289&&Nat.ble (h.next+1) lim) with
       | false=>rw [e3] at hok; simp at hok
       | true=>
       rw [e3,cond_true,zav] at hok
       simp only [Bool.and_eq_true] at e3
       obtain ⟨⟨⟨⟨⟨⟨f1,f2⟩,f3⟩,f4⟩,f5⟩,f6⟩,f7⟩:=e3
       obtain rfl:=Nat.eq_of_beq_eq_true f3
       obtain rfl:=Nat.eq_of_beq_eq_true f4
       obtain rfl:=Nat.eq_of_beq_eq_true f5
       obtain rfl:=Nat.eq_of_beq_eq_true f6
       have f7:=Nat.le_of_ble_eq_true f7
       have hZ:=zkl hz hcs f1
       have hB:=zkl ho hcs2 f2
       obtain ⟨r,hr⟩:∃ r,r=Tr.ofL 33 (Value.bool false::zbR (fun k=>zid (fv c (1+k)) (fv c2 (1+k))) 3600 []):=⟨_,rfl⟩
       rw [← hr] at hok
       obtain ⟨rfl,rfl⟩:=zaq hok
       obtain ⟨h2,k1,⟨c',m1,m2,m3⟩,k3,k4⟩:=zxS (O:=O) (n:=0) hO hO2 hO3 hZ hB (hlow _ _ hz) (hlow _ _ ho) f7
       refine ⟨h2,k1,k3,fun q x hq => ?_⟩
       simp only [zaa] at hq
       by_cases eq:q=h.next
       ·rw [if_pos ⟨eq,by omega⟩] at hq
        obtain rfl:=(Option.some.inj hq).symm
        refine ⟨_,by rw [eq]; exact m1,ObjLe.cells fun i y hy => ?_⟩
        rw [hr] at hy
        have hlt:=zbU hy
        rw [zbv hlt] at hy
        cases i with
        | zero=>simp at hy; subst hy; exact m2
        | succ i=>
         rw [List.getElem?_cons_succ,zeh,List.append_nil] at hy
         have hi:i<3600:=by
          rcases Nat.lt_or_ge i 3600 with w | w
          ·exact w
          ·rw [List.getElem?_eq_none (by rw [zdd]; exact w)] at hy; cases hy
         rw [zdf hi] at hy
         rw [← hy,show i+1=1+i by omega,m3 i hi,joF,if_pos hi]
       ·rw [if_neg (fun w=>eq w.1)] at hq
        exact ⟨x,by rw [k4 q (hlow q x hq)]; exact hq,ObjLe.refl x⟩
      ·simp at hok
     ·simp at hok
    ·simp at hok
   ·simp at hok
  ·simp at hok
end Go.Proofs.YtghhpeemloeljaaGreat

/- The simulator on zone.Put. (Written by genput.py.) The simulator on zone.settled, zone.bounds, zone.Forget of one variable. (Written by genput.py.) -/
import Derived.Test.YtgiompikfhhkmaaGreatDoorDst
set_option linter.unusedVariables false
set_option linter.unusedSimpArgs false
set_option linter.unusedSimpArgs false
set_option linter.unusedVariables false
namespace Go.Proofs.YtgiompikfhhkmaaGreatDoor
open Go Go.Sim
set_option maxRecDepth 100000
set_option maxHeartbeats 1000000
variable {O : Nat → Option (List Value → SHeap → Except String (Value × SHeap))} {ih : K}

noncomputable def pu9 : Code := cB (cB (cB (cB (cB (cB (cB (cB (cB (cF Tryz.f310)))))))))
noncomputable def puA : Code := cI (cI (cB (cA pu9)))
noncomputable def puAi : Code := cI (cI (cB (cB (cB (cI (cA (cB (cB puA))))))))
noncomputable def puB : Code := cI (cI (cB (cA (cB pu9))))
noncomputable def puBi : Code := cI (cI (cB (cB (cB (cI (cA (cB (cB puB))))))))
noncomputable def puC : Code := cI (cI (cB (cA (cB (cB pu9)))))
noncomputable def puDr (n : Nat) : Array Oper := nthD (drawsOf (cF Tryz.f310)) n
theorem plP1 : planOf (Eo O) (puDr 1).toList = some ⟨[⟨8,.pure,0⟩,⟨9,.pure,0⟩,⟨10,.pure,0⟩,⟨11,.read,0⟩,⟨12,.pure,0⟩,⟨13,.pure,0⟩,⟨14,.pure,0⟩,⟨15,.pure,0⟩,⟨16,.pure,0⟩,⟨17,.pure,0⟩,⟨18,.pure,0⟩,⟨19,.read,0⟩,⟨20,.eff,0⟩,⟨26,.pure,0⟩,⟨27,.pure,0⟩,⟨28,.pure,0⟩,⟨29,.pure,0⟩,⟨30,.pure,0⟩,⟨31,.pure,0⟩,⟨32,.pure,0⟩,⟨33,.read,0⟩,⟨34,.pure,0⟩,⟨35,.pure,0⟩,⟨36,.pure,0⟩,⟨37,.read,0⟩,⟨38,.eff,1⟩,⟨0,.pure,0⟩,⟨1,.pure,0⟩,⟨4,.pure,0⟩,⟨5,.pure,0⟩,⟨6,.pure,0⟩,⟨7,.read,0⟩,⟨21,.pure,1⟩,⟨22,.pure,0⟩,⟨23,.pure,0⟩,⟨24,.pure,0⟩,⟨25,.read,0⟩,⟨40,.pure,2⟩,⟨41,.eff,2⟩,⟨2,.pure,0⟩,⟨3,.pure,0⟩,⟨39,.pure,2⟩],42,0⟩ := by kernel_rfl
theorem en203 : EntersS (Eo O) 203 := fun _ _ => by kernel_rfl
theorem E60 : (Eo O).T 60 = some ⟨.slice 3,1,Tab.t60.bytes,Tab.t60.zero⟩ := by show Tab.types.get 60 = _; kernel_rfl
theorem ia60 {b i : Nat} {h : SHeap} (hi : i < 60) : opIndexAddr (Eo O) ((Eo O).T 60) (some (.slice (some ⟨b,0,none⟩) 60 60)) (some i) h = .ok (.value (.pointer (some ⟨b,i,none⟩)),h) := by
  rw [E60]
  show indexTo (Eo O) 3 60 ⟨b,0,none⟩ i h = _
  unfold indexTo
  rw [E3]
  simp only [blt_of hi,cond_true,valR,addrAdd_free,Nat.mul_one,Nat.zero_add]

/-- 60 numbers in a row -/
def Row (h : SHeap) (b : Nat) (f : Nat → Int) : Prop := ∃ c,h.t.get b = some (.cells c 60 3 false false) ∧ ∀ j,j < 60 → c.get j = some (.int .i64 (f j))
/-- a table,in a zone -/
def Zon (h : SHeap) (b : Nat) (f : Nat → Int) : Prop := ∃ c,h.t.get b = some (.cells c 3601 313 false false) ∧ c.get 0 = some (.bool false) ∧ ∀ k,k < 3600 → c.get (1 + k) = some (.int .i64 (f k))
theorem Row.ld {h : SHeap} {b : Nat} {f : Nat → Int} (k : Row h b f) {j : Nat} (hj : j < 60) : opLoad (Eo O) 3 (some (.pointer (some ⟨b,j,none⟩))) h = .ok (.value (.int .i64 (f j)),h) := by
  obtain ⟨c,h1,h2⟩ := k
  exact load_one (E := Eo O) E3 rfl h1 (h2 j hj)
theorem Zon.ld {h : SHeap} {b : Nat} {f : Nat → Int} (k : Zon h b f) {i j : Nat} (hi : i < 60) (hj : j < 60) : opLoad (Eo O) 3 (some (.pointer (some ⟨b,0 + 1 + i * 60 + j,none⟩))) h = .ok (.value (.int .i64 (f (i * 60 + j))),h) := by
  obtain ⟨c,h1,_,h2⟩ := k
  refine load_one (E := Eo O) E3 rfl h1 ?_
  rw [show 0 + 1 + i * 60 + j = 1 + (i * 60 + j) by omega]
  exact h2 _ (by omega)
def updF (f : Nat → Int) (j : Nat) (v : Int) : Nat → Int := fun i => if i = j then v else f i
theorem Row.st {h : SHeap} {b : Nat} {f : Nat → Int} (k : Row h b f) {j : Nat} (hj : j < 60) (v : Int) : ∃ h',opStore (Eo O) 3 (some (.pointer (some ⟨b,j,none⟩))) (some (.int .i64 v)) h = .ok (.value (.tuple #[]),h') ∧ Row h' b (updF f j v) ∧ h'.next = h.next ∧ ∀ d,d ≠ b → h'.t.get d = h.t.get d := by
  obtain ⟨c,h1,h2⟩ := k
  have hb := get_some_lt h1
  refine ⟨_,store_int (E := Eo O) E3 rfl h1 hj,⟨_,by simp only [SHeap.set,get_put]; rw [if_pos ⟨trivial,hb⟩],fun i hi => ?_⟩,rfl,fun d hd => by simp only [SHeap.set,get_put]; rw [if_neg (fun e => hd e.1)]⟩
  rw [get_put]
  unfold updF
  by_cases e : i = j
  · rw [if_pos ⟨e,by unfold lim; omega⟩,if_pos e]
  · rw [if_neg (fun q => e q.1),if_neg e,h2 i hi]
theorem Zon.st {h : SHeap} {b : Nat} {f : Nat → Int} (k : Zon h b f) {i j : Nat} (hi : i < 60) (hj : j < 60) (v : Int) : ∃ h',opStore (Eo O) 3 (some (.pointer (some ⟨b,0 + 1 + i * 60 + j,none⟩))) (some (.int .i64 v)) h = .ok (.value (.tuple #[]),h') ∧ Zon h' b (updF f (i * 60 + j) v) ∧ h'.next = h.next ∧ ∀ d,d ≠ b → h'.t.get d = h.t.get d := by
  obtain ⟨c,h1,h0,h2⟩ := k
  have hb := get_some_lt h1
  refine ⟨_,store_int (E := Eo O) E3 rfl h1 (by omega),⟨_,by simp only [SHeap.set,get_put]; rw [if_pos ⟨trivial,hb⟩],?_,fun q hq => ?_⟩,rfl,fun d hd => by simp only [SHeap.set,get_put]; rw [if_neg (fun e => hd e.1)]⟩
  · rw [get_put,if_neg (by omega),h0]
  · rw [get_put]
    unfold updF
    by_cases e : q = i * 60 + j
    · rw [if_pos ⟨by omega,by unfold lim; omega⟩,if_pos e]
    · rw [if_neg (fun r => e (by omega)),if_neg e,h2 q hq]
theorem Row.to {h h' : SHeap} {b : Nat} {f : Nat → Int} (k : Row h b f) (e : h'.t.get b = h.t.get b) : Row h' b f := let ⟨c,h1,h2⟩ := k; ⟨c,e.trans h1,h2⟩
theorem Zon.to {h h' : SHeap} {b : Nat} {f : Nat → Int} (k : Zon h b f) (e : h'.t.get b = h.t.get b) : Zon h' b f := let ⟨c,h1,h2⟩ := k; ⟨c,e.trans h1,h2⟩
theorem Row.cg {h : SHeap} {b : Nat} {f f' : Nat → Int} (k : Row h b f) (e : ∀ j,j < 60 → f j = f' j) : Row h b f' := let ⟨c,h1,h2⟩ := k; ⟨c,h1,fun j hj => by rw [← e j hj]; exact h2 j hj⟩
theorem Zon.cg {h : SHeap} {b : Nat} {f f' : Nat → Int} (k : Zon h b f) (e : ∀ j,j < 3600 → f j = f' j) : Zon h b f' := let ⟨c,h1,h0,h2⟩ := k; ⟨c,h1,h0,fun j hj => by rw [← e j hj]; exact h2 j hj⟩

/-- where all that is looked at lies -/
structure Pl where
  x : Nat
  A : Nat
  B : Nat
  N : Nat
  U : Nat
  D : Nat
structure Pl.ok (p : Pl) : Prop where
  x : p.x < 60
  au : p.A ≠ p.U
  bu : p.B ≠ p.U
  nu : p.N ≠ p.U
  du : p.D ≠ p.U
  ad : p.A ≠ p.D
  bd : p.B ≠ p.D
  nd : p.N ≠ p.D
  an : p.A ≠ p.N
  bn : p.B ≠ p.N
/-- the temporaries that stand throughout -/
structure PuT (p : Pl) (tm : Tr Value) : Prop where
  t1 : tm.get 1 = some (.int .i64 (.ofNat p.x))
  t10 : tm.get 10 = some (.slice (some ⟨p.A,0,none⟩) 60 60)
  t12 : tm.get 12 = some (.slice (some ⟨p.B,0,none⟩) 60 60)
  t14 : tm.get 14 = some (.pointer (some ⟨p.N,0,none⟩))
  t15 : tm.get 15 = some (.slice (some ⟨p.U,0,none⟩) 60 60)
  t16 : tm.get 16 = some (.slice (some ⟨p.D,0,none⟩) 60 60)

/-- what a column comes to,so far -/
def fuC (a m : Nat → Int) (x q : Nat) : Nat → Int
  | 0 => 2305843009213693952
  | k + 1 => if k ≠ x ∧ q ≠ x then minI (fuC a m x q k) (sumI (a k) (m (k * 60 + q))) else fuC a m x q k
def fdC (b m : Nat → Int) (x q : Nat) : Nat → Int
  | 0 => 2305843009213693952
  | k + 1 => if k ≠ x ∧ q ≠ x then minI (fdC b m x q k) (sumI (m (q * 60 + k)) (b k)) else fdC b m x q k

structure PuAI (p : Pl) (a b m u d : Nat → Int) (lo n0 : Nat) (g : Nat → Option SObj) (q k : Nat) (st : St) : Prop where
  ds : st.defers = []
  tm : PuT p st.tm
  t17 : st.tm.get 17 = some (.int .i64 (.ofNat q))
  t65 : st.tm.get 65 = some (.int .i64 (.ofNat q))
  t74 : st.tm.get 74 = some (.int .i64 (.ofNat k))
  A : Row st.h p.A a
  B : Row st.h p.B b
  N : Zon st.h p.N m
  U : Row st.h p.U (updF u q (fuC a m p.x q k))
  D : Row st.h p.D (updF d q (fdC b m p.x q k))
  next : st.h.next = n0
  keep : ∀ e,e < lo → st.h.t.get e = g e

theorem pu_ai (hsum : ∀ (a b : Int) (h : SHeap),ih (.call 203 #[.int .i64 a,.int .i64 b] .normal) h = .ok (.int .i64 (sumI a b),h)) {p : Pl} (hp : p.ok) {a b m u d : Nat → Int} {lo n0 : Nat} {g : Nat → Option SObj} (hlo : lo ≤ p.U ∧ lo ≤ p.D) (hn0 : n0 ≤ lim)
    {q : Nat} (hq : q < 60) (k : Nat) (hk : k < 60) (st : St) (hI : PuAI p a b m u d lo n0 g q k st) :
    ∃ st',codeS puAi (Eo O) ih ⟨310,202,.normal,none⟩ st = .ok (.normal,st') ∧ PuAI p a b m u d lo n0 g q (k + 1) st' := by
  obtain ⟨tm,h,dd⟩ := st
  obtain ⟨hd,hT,t17,t65,t74,hA,hB,hN,hU,hD,hnx,keep⟩ := hI
  obtain ⟨t1,t10,t12,t14,t15,t16⟩ := hT
  simp only at hd t1 t10 t12 t14 t15 t16 t17 t65 t74 hA hB hN hU hD hnx keep
  subst hd
  have hk' : decide (Int.ofNat k < 60) = true := by simp; omega
  have hk2 : wrapF .i64 (Int.ofNat k + 1) = .ofNat (k + 1) := wrap_small (m := k + 1) (by omega)
  generalize hr : codeS puAi (Eo O) ih ⟨310,202,.normal,none⟩ ⟨tm,h,[]⟩ = r
  have pl := plP1 (O := O)
  unfold puDr at pl
  simp only [Tryz.f310,cF,Option.getD,drawsOf,nthD,List.nil_append,List.append_nil,List.cons_append] at pl
  unfold puAi puA pu9 at hr
  by_cases hc : k ≠ p.x ∧ q ≠ p.x
  · have c1 : (Int.ofNat k != Int.ofNat p.x) = true := by simp; omega
    have c2 : (Int.ofNat q != Int.ofNat p.x) = true := by simp; omega
    have hnl : Nat.ble h.next lim = true := by rw [Nat.ble_eq,hnx]; exact hn0
    have hnl' : h.next ≤ lim := by rw [hnx]; exact hn0
    obtain ⟨h1,s1,U1,nx1,o1⟩ := hU.st (O := O) hq (minI (updF u q (fuC a m p.x q k) q) (sumI (a k) (m (k * 60 + q))))
    have D1 := hD.to (o1 _ hp.du)
    obtain ⟨h2,s2,D2,nx2,o2⟩ := D1.st (O := O) hq (minI (updF d q (fdC b m p.x q k) q) (sumI (m (q * 60 + k)) (b k)))
    have hnl1 : Nat.ble h1.next 4294967296 = true := by rw [Nat.ble_eq,nx1,hnx]; exact hn0
    have hnl0 : Nat.ble h.next 4294967296 = true := hnl
    simp only [Tryz.f310,cF,Option.getD,cA,cB,cI,codeS,cSeq_run,cCond_run,cRegion_run,cRegion_draw,cBlock_run,cSkip_run,cRet_run,cExit_run,opsS_nil,opsS_run,opS_free,thenS_normal,thenS_ret,thenS_exit,exitBlock_normal,exitBlock_ret,exitBlock_exit,normalS_ok,dispatch,dMove,opMove,evT_tmp,evT_int,evT_bool,evT_func,dBin,lss_i64,gtr_i64,geq_i64,neq_i64,eql_i64',add_i64,valR,afterS_value,putT_some,putT_none,get_put,lim,Nat.reduceLT,Nat.reduceEqDiff,and_true,if_true,if_false,reduceIte,false_and,true_and,cLoop_run,Nat.beq,cond_true,cond_false,
      dIndexAddr,dFieldAddr,dNilCheck,dLoad,dStore,dCall,nilCheck_ptr,fa313x0,fa313x1,Option.bind_some,natOf_int,addrAdd_free,drawS_nil',drawS_cons',dstep_pure',dstep_reads',dstep_eff',simOp_run,outVal_val,readAgain_nil,readAgain_cons,valEq_int,callOut_value,callOut_enter,call_fn en203,call_min,evList,List.getElem?_toArray,List.getElem?_cons_succ,List.getElem?_cons_zero,List.drop_succ_cons,List.drop_zero,opS_guard,wantedS,dPick,pick_true,pick_false,Bool.and_self,Bool.true_and,hsum,bqa,bqb,bqc,bqd,t1,t10,t12,t14,t15,t16,t17,t74,hk',hk2,c1,c2,ia60 hq,ia60 hk,ia311 hk,ia311 hq,ia309 hk,ia309 hq,hA.ld hk,hB.ld hk,hN.ld hk hq,hN.ld hq hk,hU.ld hq,hD.ld hq,s1,s2,bDraw_list pl hnl',hnl0,hnl1] at hr
    subst hr
    refine ⟨_,rfl,rfl,⟨?_,?_,?_,?_,?_,?_⟩,?_,?_,?_,(hA.to (o1 _ hp.au)).to (o2 _ hp.ad),(hB.to (o1 _ hp.bu)).to (o2 _ hp.bd),(hN.to (o1 _ hp.nu)).to (o2 _ hp.nd),?_,?_,nx2.trans (nx1.trans hnx),fun e he => ?_⟩
    · simp [get_put,lim,t1]
    · simp [get_put,lim,t10]
    · simp [get_put,lim,t12]
    · simp [get_put,lim,t14]
    · simp [get_put,lim,t15]
    · simp [get_put,lim,t16]
    · simp [get_put,lim,t17]
    · simp [get_put,lim,t65]
    · simp [get_put,lim]
    · refine Row.cg (U1.to (o2 _ (fun e => hp.du e.symm))) fun j hj => ?_
      simp only [updF,fuC,if_pos hc]
      by_cases e : j = q <;> simp [e]
    · refine Row.cg D2 fun j hj => ?_
      simp only [updF,fdC,if_pos hc]
      by_cases e : j = q <;> simp [e]
    · exact (o2 _ (by omega)).trans ((o1 _ (by omega)).trans (keep e he))
  · have cc : ((bif (Int.ofNat k != Int.ofNat p.x) then (Int.ofNat q != Int.ofNat p.x) else false) = false) := by
      by_cases e : k = p.x
      · simp [e]
      · have : q = p.x := by
          by_cases f : q = p.x
          · exact f
          · exact absurd ⟨e,f⟩ hc
        simp [this]
    have fin : ∀ tm' : Tr Value,(∀ i,i ≠ 75 → i ≠ 76 → i ≠ 18 → i ≠ 77 → i ≠ 78 → i ≠ 79 → i ≠ 80 → i ≠ 81 → i ≠ 82 → i ≠ 83 → i ≠ 84 → i ≠ 127 → i ≠ 74 → tm'.get i = tm.get i) → tm'.get 74 = some (.int .i64 (.ofNat (k + 1))) → PuAI p a b m u d lo n0 g q (k + 1) ⟨tm',h,[]⟩ := by
      intro tm' h1 h2
      refine ⟨rfl,⟨?_,?_,?_,?_,?_,?_⟩,?_,?_,h2,hA,hB,hN,?_,?_,hnx,keep⟩
      · rw [h1 1 (by decide) (by decide) (by decide) (by decide) (by decide) (by decide) (by decide) (by decide) (by decide) (by decide) (by decide) (by decide) (by decide)]; exact t1
      · rw [h1 10 (by decide) (by decide) (by decide) (by decide) (by decide) (by decide) (by decide) (by decide) (by decide) (by decide) (by decide) (by decide) (by decide)]; exact t10
      · rw [h1 12 (by decide) (by decide) (by decide) (by decide) (by decide) (by decide) (by decide) (by decide) (by decide) (by decide) (by decide) (by decide) (by decide)]; exact t12
      · rw [h1 14 (by decide) (by decide) (by decide) (by decide) (by decide) (by decide) (by decide) (by decide) (by decide) (by decide) (by decide) (by decide) (by decide)]; exact t14
      · rw [h1 15 (by decide) (by decide) (by decide) (by decide) (by decide) (by decide) (by decide) (by decide) (by decide) (by decide) (by decide) (by decide) (by decide)]; exact t15
      · rw [h1 16 (by decide) (by decide) (by decide) (by decide) (by decide) (by decide) (by decide) (by decide) (by decide) (by decide) (by decide) (by decide) (by decide)]; exact t16
      · rw [h1 17 (by decide) (by decide) (by decide) (by decide) (by decide) (by decide) (by decide) (by decide) (by decide) (by decide) (by decide) (by decide) (by decide)]; exact t17
      · rw [h1 65 (by decide) (by decide) (by decide) (by decide) (by decide) (by decide) (by decide) (by decide) (by decide) (by decide) (by decide) (by decide) (by decide)]; exact t65
      · simp only [fuC,if_neg hc]; exact hU
      · simp only [fdC,if_neg hc]; exact hD
    have lim' : lim = 4294967296 := rfl
    by_cases e : k = p.x
    · have c1 : (Int.ofNat k != Int.ofNat p.x) = false := by simp [e]
      simp only [Tryz.f310,cF,Option.getD,cA,cB,cI,codeS,cSeq_run,cCond_run,cRegion_run,cRegion_draw,cBlock_run,cSkip_run,cRet_run,cExit_run,opsS_nil,opsS_run,opS_free,thenS_normal,thenS_ret,thenS_exit,exitBlock_normal,exitBlock_ret,exitBlock_exit,normalS_ok,dispatch,dMove,opMove,evT_tmp,evT_int,evT_bool,evT_func,dBin,lss_i64,gtr_i64,geq_i64,neq_i64,eql_i64',add_i64,valR,afterS_value,putT_some,putT_none,get_put,lim,Nat.reduceLT,Nat.reduceEqDiff,and_true,if_true,if_false,reduceIte,false_and,true_and,cLoop_run,Nat.beq,cond_true,cond_false,
      dIndexAddr,dFieldAddr,dNilCheck,dLoad,dStore,dCall,nilCheck_ptr,fa313x0,fa313x1,Option.bind_some,natOf_int,addrAdd_free,drawS_nil',drawS_cons',dstep_pure',dstep_reads',dstep_eff',simOp_run,outVal_val,readAgain_nil,readAgain_cons,valEq_int,callOut_value,callOut_enter,call_fn en203,call_min,evList,List.getElem?_toArray,List.getElem?_cons_succ,List.getElem?_cons_zero,List.drop_succ_cons,List.drop_zero,opS_guard,wantedS,dPick,pick_true,pick_false,Bool.and_self,Bool.true_and,hsum,bqa,bqb,bqc,bqd,t1,t10,t12,t14,t15,t16,t17,t74,hk',hk2,c1] at hr
      subst hr
      exact ⟨_,rfl,fin _ (fun i a0 a1 a2 a3 a4 a5 a6 a7 a8 a9 a10 a11 a12 => by simp only [get_put]; simp [a0,a1,a2,a3,a4,a5,a6,a7,a8,a9,a10,a11,a12]) (by simp [get_put,lim])⟩
    · have f : q = p.x := by
        by_cases f : q = p.x
        · exact f
        · exact absurd ⟨e,f⟩ hc
      have c1 : (Int.ofNat k != Int.ofNat p.x) = true := by simp; omega
      have c2 : (Int.ofNat q != Int.ofNat p.x) = false := by simp [f]
      simp only [Tryz.f310,cF,Option.getD,cA,cB,cI,codeS,cSeq_run,cCond_run,cRegion_run,cRegion_draw,cBlock_run,cSkip_run,cRet_run,cExit_run,opsS_nil,opsS_run,opS_free,thenS_normal,thenS_ret,thenS_exit,exitBlock_normal,exitBlock_ret,exitBlock_exit,normalS_ok,dispatch,dMove,opMove,evT_tmp,evT_int,evT_bool,evT_func,dBin,lss_i64,gtr_i64,geq_i64,neq_i64,eql_i64',add_i64,valR,afterS_value,putT_some,putT_none,get_put,lim,Nat.reduceLT,Nat.reduceEqDiff,and_true,if_true,if_false,reduceIte,false_and,true_and,cLoop_run,Nat.beq,cond_true,cond_false,
      dIndexAddr,dFieldAddr,dNilCheck,dLoad,dStore,dCall,nilCheck_ptr,fa313x0,fa313x1,Option.bind_some,natOf_int,addrAdd_free,drawS_nil',drawS_cons',dstep_pure',dstep_reads',dstep_eff',simOp_run,outVal_val,readAgain_nil,readAgain_cons,valEq_int,callOut_value,callOut_enter,call_fn en203,call_min,evList,List.getElem?_toArray,List.getElem?_cons_succ,List.getElem?_cons_zero,List.drop_succ_cons,List.drop_zero,opS_guard,wantedS,dPick,pick_true,pick_false,Bool.and_self,Bool.true_and,hsum,bqa,bqb,bqc,bqd,t1,t10,t12,t14,t15,t16,t17,t74,hk',hk2,c1,c2] at hr
      subst hr
      exact ⟨_,rfl,fin _ (fun i a0 a1 a2 a3 a4 a5 a6 a7 a8 a9 a10 a11 a12 => by simp only [get_put]; simp [a0,a1,a2,a3,a4,a5,a6,a7,a8,a9,a10,a11,a12]) (by simp [get_put,lim])⟩
theorem pu_ai_end (hsum : ∀ (a b : Int) (h : SHeap),ih (.call 203 #[.int .i64 a,.int .i64 b] .normal) h = .ok (.int .i64 (sumI a b),h)) {p : Pl} {a b m u d : Nat → Int} {lo n0 : Nat} {g : Nat → Option SObj}
    {q : Nat} (st : St) (hI : PuAI p a b m u d lo n0 g q 60 st) :
    ∃ o st',o ≠ .normal ∧ codeS puAi (Eo O) ih ⟨310,202,.normal,none⟩ st = .ok (o,st') ∧ (o = .exit 2 ∧ PuAI p a b m u d lo n0 g q 60 st') := by
  obtain ⟨tm,h,dd⟩ := st
  obtain ⟨hd,hT,t17,t65,t74,hA,hB,hN,hU,hD,hnx,keep⟩ := hI
  obtain ⟨t1,t10,t12,t14,t15,t16⟩ := hT
  simp only at hd t1 t10 t12 t14 t15 t16 t17 t65 t74 hA hB hN hU hD hnx keep
  subst hd
  have hk' : decide (Int.ofNat 60 < 60) = false := rfl
  generalize hr : codeS puAi (Eo O) ih ⟨310,202,.normal,none⟩ ⟨tm,h,[]⟩ = r
  unfold puAi puA pu9 at hr
  simp only [Tryz.f310,cF,Option.getD,cA,cB,cI,codeS,cSeq_run,cCond_run,cRegion_run,cRegion_draw,cBlock_run,cSkip_run,cRet_run,cExit_run,opsS_nil,opsS_run,opS_free,thenS_normal,thenS_ret,thenS_exit,exitBlock_normal,exitBlock_ret,exitBlock_exit,normalS_ok,dispatch,dMove,opMove,evT_tmp,evT_int,evT_bool,evT_func,dBin,lss_i64,gtr_i64,geq_i64,neq_i64,eql_i64',add_i64,valR,afterS_value,putT_some,putT_none,get_put,lim,Nat.reduceLT,Nat.reduceEqDiff,and_true,if_true,if_false,reduceIte,false_and,true_and,cLoop_run,Nat.beq,cond_true,cond_false,
      dIndexAddr,dFieldAddr,dNilCheck,dLoad,dStore,dCall,nilCheck_ptr,fa313x0,fa313x1,Option.bind_some,natOf_int,addrAdd_free,drawS_nil',drawS_cons',dstep_pure',dstep_reads',dstep_eff',simOp_run,outVal_val,readAgain_nil,readAgain_cons,valEq_int,callOut_value,callOut_enter,call_fn en203,call_min,evList,List.getElem?_toArray,List.getElem?_cons_succ,List.getElem?_cons_zero,List.drop_succ_cons,List.drop_zero,opS_guard,wantedS,dPick,pick_true,pick_false,Bool.and_self,Bool.true_and,hsum,bqa,bqb,bqc,bqd,t74,hk'] at hr
  subst hr
  refine ⟨_,_,by simp,rfl,rfl,rfl,⟨?_,?_,?_,?_,?_,?_⟩,?_,?_,?_,hA,hB,hN,hU,hD,hnx,keep⟩ <;> simp [get_put,lim,t1,t10,t12,t14,t15,t16,t17,t65,t74]

def uO (f : Nat → Int) (q : Nat) : Nat → Int := fun j => if j < q then f j else 0
structure PuAO (p : Pl) (a b m : Nat → Int) (lo n0 : Nat) (g : Nat → Option SObj) (q : Nat) (st : St) : Prop where
  ds : st.defers = []
  tm : PuT p st.tm
  t65 : st.tm.get 65 = some (.int .i64 (.ofNat q))
  A : Row st.h p.A a
  B : Row st.h p.B b
  N : Zon st.h p.N m
  U : Row st.h p.U (uO (fun q => fuC a m p.x q 60) q)
  D : Row st.h p.D (uO (fun q => fdC b m p.x q 60) q)
  next : st.h.next = n0
  keep : ∀ e,e < lo → st.h.t.get e = g e

theorem pu_a (hsum : ∀ (a b : Int) (h : SHeap),ih (.call 203 #[.int .i64 a,.int .i64 b] .normal) h = .ok (.int .i64 (sumI a b),h)) {p : Pl} (hp : p.ok) {a b m : Nat → Int} {lo n0 : Nat} {g : Nat → Option SObj} (hlo : lo ≤ p.U ∧ lo ≤ p.D) (hn0 : n0 ≤ lim)
    (q : Nat) (hq : q < 60) (st : St) (hI : PuAO p a b m lo n0 g q st) :
    ∃ st',codeS puA (Eo O) ih ⟨310,202,.normal,none⟩ st = .ok (.normal,st') ∧ PuAO p a b m lo n0 g (q + 1) st' := by
  obtain ⟨tm,h,dd⟩ := st
  obtain ⟨hd,hT,t65,hA,hB,hN,hU,hD,hnx,keep⟩ := hI
  obtain ⟨t1,t10,t12,t14,t15,t16⟩ := hT
  simp only at hd t1 t10 t12 t14 t15 t16 t65 hA hB hN hU hD hnx keep
  subst hd
  have hk' : decide (Int.ofNat q < 60) = true := by simp; omega
  have hk2 : wrapF .i64 (Int.ofNat q + 1) = .ofNat (q + 1) := wrap_small (m := q + 1) (by omega)
  obtain ⟨h1,s1,U1,nx1,o1⟩ := hU.st (O := O) hq 2305843009213693952
  have D1 := hD.to (o1 _ hp.du)
  obtain ⟨h2,s2,D2,nx2,o2⟩ := D1.st (O := O) hq 2305843009213693952
  obtain ⟨tmk,hk⟩ : ∃ tmk,tmk = ((((((((((tm.put 66 (some (.bool true))).put 67 (some (.int .i64 (.ofNat q)))).put 17 (some (.int .i64 (.ofNat q)))).put 68 (some (.slice (some ⟨p.U,0,none⟩) 60 60))).put 69 (some (.int .i64 (.ofNat q)))).put 70 (some (.slice (some ⟨p.D,0,none⟩) 60 60))).put 71 (some (.int .i64 (.ofNat q)))).put 72 (some (.pointer (some ⟨p.U,q,none⟩)))).put 73 (some (.pointer (some ⟨p.D,q,none⟩)))).put 74 (some (.int .i64 0))) := ⟨_,rfl⟩
  have hin : PuAI p a b m (uO (fun q => fuC a m p.x q 60) q) (uO (fun q => fdC b m p.x q 60) q) lo n0 g q 0 ⟨tmk,h2,[]⟩ := by
    subst hk
    refine ⟨rfl,⟨?_,?_,?_,?_,?_,?_⟩,?_,?_,?_,(hA.to (o1 _ hp.au)).to (o2 _ hp.ad),(hB.to (o1 _ hp.bu)).to (o2 _ hp.bd),(hN.to (o1 _ hp.nu)).to (o2 _ hp.nd),U1.to (o2 _ (fun e => hp.du e.symm)),D2,nx2.trans (nx1.trans hnx),fun e he => (o2 _ (by omega)).trans ((o1 _ (by omega)).trans (keep e he))⟩ <;> simp [get_put,lim,t1,t10,t12,t14,t15,t16,t65]
  obtain ⟨o,⟨tm',h',dd'⟩,e0,e1,e2,e3⟩ := loopS_or (f := codeS puAi (Eo O) ih ⟨310,202,.normal,none⟩) (I := fun j st => PuAI p a b m (uO (fun q => fuC a m p.x q 60) q) (uO (fun q => fdC b m p.x q 60) q) lo n0 g q j st) (N := 60)
    (P := fun o st => o = .exit 2 ∧ PuAI p a b m (uO (fun q => fuC a m p.x q 60) q) (uO (fun q => fdC b m p.x q 60) q) lo n0 g q 60 st)
    (fun j st hj hI => .inl (pu_ai hsum hp hlo hn0 hq j hj st hI)) (fun st hI => pu_ai_end hsum st hI) 60 1000000 0 _ (by omega) (by omega) hin
  subst e2
  obtain ⟨hd,hT,r17,r65,r74,rA,rB,rN,rU,rD,rnx,rkeep⟩ := e3
  obtain ⟨r1,r10,r12,r14,r15,r16⟩ := hT
  simp only at hd r1 r10 r12 r14 r15 r16 r17 r65 r74 rA rB rN rU rD rnx rkeep
  subst hd
  generalize hr : codeS puA (Eo O) ih ⟨310,202,.normal,none⟩ ⟨tm,h,[]⟩ = r
  unfold puAi puA pu9 at e1
  simp only [Tryz.f310,cF,Option.getD,cA,cB,cI,codeS] at e1
  subst hk
  unfold puA pu9 at hr
  simp only [Tryz.f310,cF,Option.getD,cA,cB,cI,codeS,cSeq_run,cCond_run,cRegion_run,cRegion_draw,cBlock_run,cSkip_run,cRet_run,cExit_run,opsS_nil,opsS_run,opS_free,thenS_normal,thenS_ret,thenS_exit,exitBlock_normal,exitBlock_ret,exitBlock_exit,normalS_ok,dispatch,dMove,opMove,evT_tmp,evT_int,evT_bool,evT_func,dBin,lss_i64,gtr_i64,geq_i64,neq_i64,eql_i64',add_i64,valR,afterS_value,putT_some,putT_none,get_put,lim,Nat.reduceLT,Nat.reduceEqDiff,and_true,if_true,if_false,reduceIte,false_and,true_and,cLoop_run,Nat.beq,cond_true,cond_false,
      dIndexAddr,dFieldAddr,dNilCheck,dLoad,dStore,dCall,nilCheck_ptr,fa313x0,fa313x1,Option.bind_some,natOf_int,addrAdd_free,drawS_nil',drawS_cons',dstep_pure',dstep_reads',dstep_eff',simOp_run,outVal_val,readAgain_nil,readAgain_cons,valEq_int,callOut_value,callOut_enter,call_fn en203,call_min,evList,List.getElem?_toArray,List.getElem?_cons_succ,List.getElem?_cons_zero,List.drop_succ_cons,List.drop_zero,opS_guard,wantedS,dPick,pick_true,pick_false,Bool.and_self,Bool.true_and,hsum,bqa,bqb,bqc,bqd,t1,t10,t12,t14,t15,t16,t65,hk',hk2,ia60 hq,s1,s2,e1,r65] at hr
  subst hr
  refine ⟨_,rfl,rfl,⟨?_,?_,?_,?_,?_,?_⟩,?_,rA,rB,rN,?_,?_,rnx,rkeep⟩
  · simp [get_put,lim,r1]
  · simp [get_put,lim,r10]
  · simp [get_put,lim,r12]
  · simp [get_put,lim,r14]
  · simp [get_put,lim,r15]
  · simp [get_put,lim,r16]
  · simp [get_put,lim]
  · refine rU.cg fun j hj => ?_
    simp only [updF,uO]
    by_cases e : j = q
    · subst e; simp
    · rw [if_neg e]
      by_cases f : j < q
      · rw [if_pos f,if_pos (by omega)]
      · rw [if_neg f,if_neg (by omega)]
  · refine rD.cg fun j hj => ?_
    simp only [updF,uO]
    by_cases e : j = q
    · subst e; simp
    · rw [if_neg e]
      by_cases f : j < q
      · rw [if_pos f,if_pos (by omega)]
      · rw [if_neg f,if_neg (by omega)]

theorem plP2 : planOf (Eo O) (puDr 2).toList = some ⟨[⟨11,.pure,0⟩,⟨12,.pure,0⟩,⟨13,.pure,0⟩,⟨14,.read,0⟩,⟨15,.pure,0⟩,⟨16,.pure,0⟩,⟨17,.pure,0⟩,⟨18,.read,0⟩,⟨19,.eff,0⟩,⟨0,.pure,0⟩,⟨1,.pure,0⟩,⟨2,.pure,0⟩,⟨3,.pure,0⟩,⟨4,.pure,0⟩,⟨5,.pure,0⟩,⟨6,.pure,0⟩,⟨7,.pure,0⟩,⟨8,.pure,0⟩,⟨9,.pure,0⟩,⟨10,.read,0⟩,⟨20,.pure,1⟩,⟨21,.pure,0⟩,⟨22,.pure,0⟩,⟨23,.pure,0⟩],24,0⟩ := by kernel_rfl

/-- what an entry comes to -/
def fmF (m u d : Nat → Int) (x : Nat) : Nat → Int := fun i => if i / 60 ≠ x ∧ i % 60 ≠ x then minI (m i) (sumI (d (i / 60)) (u (i % 60))) else m i
def upF (f m : Nat → Int) (n : Nat) : Nat → Int := fun i => if i < n then f i else m i
structure PuBI (p : Pl) (u d m : Nat → Int) (lo n0 : Nat) (g : Nat → Option SObj) (i j : Nat) (st : St) : Prop where
  ds : st.defers = []
  tm : PuT p st.tm
  t19 : st.tm.get 19 = some (.int .i64 (.ofNat i))
  t129 : st.tm.get 129 = some (.int .i64 (.ofNat i))
  t135 : st.tm.get 135 = some (.int .i64 (.ofNat j))
  U : Row st.h p.U u
  D : Row st.h p.D d
  N : Zon st.h p.N (upF (fmF m u d p.x) m (i * 60 + j))
  next : st.h.next = n0
  keep : ∀ e,e < lo → st.h.t.get e = g e

theorem pu_bi (hsum : ∀ (a b : Int) (h : SHeap),ih (.call 203 #[.int .i64 a,.int .i64 b] .normal) h = .ok (.int .i64 (sumI a b),h)) {p : Pl} (hp : p.ok) {u d m : Nat → Int} {lo n0 : Nat} {g : Nat → Option SObj} (hlo : lo ≤ p.N) (hn0 : n0 ≤ lim)
    {i : Nat} (hi : i < 60) (hix : i ≠ p.x) (j : Nat) (hj : j < 60) (st : St) (hI : PuBI p u d m lo n0 g i j st) :
    ∃ st',codeS puBi (Eo O) ih ⟨310,202,.normal,none⟩ st = .ok (.normal,st') ∧ PuBI p u d m lo n0 g i (j + 1) st' := by
  obtain ⟨tm,h,dd⟩ := st
  obtain ⟨hd,hT,t19,t129,t135,hU,hD,hN,hnx,keep⟩ := hI
  obtain ⟨t1,t10,t12,t14,t15,t16⟩ := hT
  simp only at hd t1 t10 t12 t14 t15 t16 t19 t129 t135 hU hD hN hnx keep
  subst hd
  have hk' : decide (Int.ofNat j < 60) = true := by simp; omega
  have hk2 : wrapF .i64 (Int.ofNat j + 1) = .ofNat (j + 1) := wrap_small (m := j + 1) (by omega)
  have d1 : (i * 60 + j) / 60 = i := by omega
  have d2 : (i * 60 + j) % 60 = j := by omega
  generalize hr : codeS puBi (Eo O) ih ⟨310,202,.normal,none⟩ ⟨tm,h,[]⟩ = r
  unfold puBi puB pu9 at hr
  by_cases hc : j = p.x
  · have c1 : (Int.ofNat j != Int.ofNat p.x) = false := by simp [hc]
    simp only [Tryz.f310,cF,Option.getD,cA,cB,cI,codeS,cSeq_run,cCond_run,cRegion_run,cRegion_draw,cBlock_run,cSkip_run,cRet_run,cExit_run,opsS_nil,opsS_run,opS_free,thenS_normal,thenS_ret,thenS_exit,exitBlock_normal,exitBlock_ret,exitBlock_exit,normalS_ok,dispatch,dMove,opMove,evT_tmp,evT_int,evT_bool,evT_func,dBin,lss_i64,gtr_i64,geq_i64,neq_i64,eql_i64',add_i64,valR,afterS_value,putT_some,putT_none,get_put,lim,Nat.reduceLT,Nat.reduceEqDiff,and_true,if_true,if_false,reduceIte,false_and,true_and,cLoop_run,Nat.beq,cond_true,cond_false,
      dIndexAddr,dFieldAddr,dNilCheck,dLoad,dStore,dCall,nilCheck_ptr,fa313x0,fa313x1,Option.bind_some,natOf_int,addrAdd_free,drawS_nil',drawS_cons',dstep_pure',dstep_reads',dstep_eff',simOp_run,outVal_val,readAgain_nil,readAgain_cons,valEq_int,callOut_value,callOut_enter,call_fn en203,call_min,evList,List.getElem?_toArray,List.getElem?_cons_succ,List.getElem?_cons_zero,List.drop_succ_cons,List.drop_zero,opS_guard,wantedS,dPick,pick_true,pick_false,Bool.and_self,Bool.true_and,hsum,bqa,bqb,bqc,bqd,t1,t10,t12,t14,t15,t16,t19,t135,hk',hk2,c1] at hr
    subst hr
    refine ⟨_,rfl,rfl,⟨?_,?_,?_,?_,?_,?_⟩,?_,?_,?_,hU,hD,hN.cg fun k _ => ?_,hnx,keep⟩
    · simp [get_put,lim,t1]
    · simp [get_put,lim,t10]
    · simp [get_put,lim,t12]
    · simp [get_put,lim,t14]
    · simp [get_put,lim,t15]
    · simp [get_put,lim,t16]
    · simp [get_put,lim,t19]
    · simp [get_put,lim,t129]
    · simp [get_put,lim]
    · simp only [upF]
      by_cases e : k = i * 60 + j
      · rw [if_neg (by omega),if_pos (by omega),fmF,if_neg (by rw [e,d2]; exact fun q => q.2 hc)]
      · by_cases f : k < i * 60 + j
        · rw [if_pos f,if_pos (by omega)]
        · rw [if_neg f,if_neg (by omega)]
  · have c1 : (Int.ofNat j != Int.ofNat p.x) = true := by simp; omega
    have pl := plP2 (O := O)
    unfold puDr at pl
    simp only [Tryz.f310,cF,Option.getD,drawsOf,nthD,List.nil_append,List.append_nil,List.cons_append] at pl
    have hnl' : h.next ≤ lim := by rw [hnx]; exact hn0
    have hnl0 : Nat.ble h.next 4294967296 = true := by rw [Nat.ble_eq]; exact hnl'
    obtain ⟨h1,s1,N1,nx1,o1⟩ := hN.st (O := O) hi hj (minI (upF (fmF m u d p.x) m (i * 60 + j) (i * 60 + j)) (sumI (d i) (u j)))
    simp only [Tryz.f310,cF,Option.getD,cA,cB,cI,codeS,cSeq_run,cCond_run,cRegion_run,cRegion_draw,cBlock_run,cSkip_run,cRet_run,cExit_run,opsS_nil,opsS_run,opS_free,thenS_normal,thenS_ret,thenS_exit,exitBlock_normal,exitBlock_ret,exitBlock_exit,normalS_ok,dispatch,dMove,opMove,evT_tmp,evT_int,evT_bool,evT_func,dBin,lss_i64,gtr_i64,geq_i64,neq_i64,eql_i64',add_i64,valR,afterS_value,putT_some,putT_none,get_put,lim,Nat.reduceLT,Nat.reduceEqDiff,and_true,if_true,if_false,reduceIte,false_and,true_and,cLoop_run,Nat.beq,cond_true,cond_false,
      dIndexAddr,dFieldAddr,dNilCheck,dLoad,dStore,dCall,nilCheck_ptr,fa313x0,fa313x1,Option.bind_some,natOf_int,addrAdd_free,drawS_nil',drawS_cons',dstep_pure',dstep_reads',dstep_eff',simOp_run,outVal_val,readAgain_nil,readAgain_cons,valEq_int,callOut_value,callOut_enter,call_fn en203,call_min,evList,List.getElem?_toArray,List.getElem?_cons_succ,List.getElem?_cons_zero,List.drop_succ_cons,List.drop_zero,opS_guard,wantedS,dPick,pick_true,pick_false,Bool.and_self,Bool.true_and,hsum,bqa,bqb,bqc,bqd,t1,t10,t12,t14,t15,t16,t19,t135,hk',hk2,c1,ia60 hi,ia60 hj,ia311 hi,ia309 hj,hU.ld hj,hD.ld hi,hN.ld hi hj,s1,bDraw_list pl hnl',hnl0] at hr
    subst hr
    refine ⟨_,rfl,rfl,⟨?_,?_,?_,?_,?_,?_⟩,?_,?_,?_,hU.to (o1 _ (fun e => hp.nu e.symm)),hD.to (o1 _ (fun e => hp.nd e.symm)),N1.cg fun k _ => ?_,nx1.trans hnx,fun e he => (o1 _ (by omega)).trans (keep e he)⟩
    · simp [get_put,lim,t1]
    · simp [get_put,lim,t10]
    · simp [get_put,lim,t12]
    · simp [get_put,lim,t14]
    · simp [get_put,lim,t15]
    · simp [get_put,lim,t16]
    · simp [get_put,lim,t19]
    · simp [get_put,lim,t129]
    · simp [get_put,lim]
    · simp only [updF,upF]
      by_cases e : k = i * 60 + j
      · rw [if_pos e,if_neg (by omega),if_pos (by omega),fmF,e,d1,d2,if_pos ⟨hix,hc⟩]
      · rw [if_neg e]
        by_cases f : k < i * 60 + j
        · rw [if_pos f,if_pos (by omega)]
        · rw [if_neg f,if_neg (by omega)]

theorem pu_bi_end {p : Pl} {u d m : Nat → Int} {lo n0 : Nat} {g : Nat → Option SObj} {i : Nat} (st : St) (hI : PuBI p u d m lo n0 g i 60 st) :
    ∃ o st',o ≠ .normal ∧ codeS puBi (Eo O) ih ⟨310,202,.normal,none⟩ st = .ok (o,st') ∧ (o = .exit 6 ∧ PuBI p u d m lo n0 g i 60 st') := by
  obtain ⟨tm,h,dd⟩ := st
  obtain ⟨hd,hT,t19,t129,t135,hU,hD,hN,hnx,keep⟩ := hI
  obtain ⟨t1,t10,t12,t14,t15,t16⟩ := hT
  simp only at hd t1 t10 t12 t14 t15 t16 t19 t129 t135 hU hD hN hnx keep
  subst hd
  have hk' : decide (Int.ofNat 60 < 60) = false := rfl
  have hsum := trivial
  generalize hr : codeS puBi (Eo O) ih ⟨310,202,.normal,none⟩ ⟨tm,h,[]⟩ = r
  unfold puBi puB pu9 at hr
  simp only [Tryz.f310,cF,Option.getD,cA,cB,cI,codeS,cSeq_run,cCond_run,cRegion_run,cRegion_draw,cBlock_run,cSkip_run,cRet_run,cExit_run,opsS_nil,opsS_run,opS_free,thenS_normal,thenS_ret,thenS_exit,exitBlock_normal,exitBlock_ret,exitBlock_exit,normalS_ok,dispatch,dMove,opMove,evT_tmp,evT_int,evT_bool,evT_func,dBin,lss_i64,gtr_i64,geq_i64,neq_i64,eql_i64',add_i64,valR,afterS_value,putT_some,putT_none,get_put,lim,Nat.reduceLT,Nat.reduceEqDiff,and_true,if_true,if_false,reduceIte,false_and,true_and,cLoop_run,Nat.beq,cond_true,cond_false,
      dIndexAddr,dFieldAddr,dNilCheck,dLoad,dStore,dCall,nilCheck_ptr,fa313x0,fa313x1,Option.bind_some,natOf_int,addrAdd_free,drawS_nil',drawS_cons',dstep_pure',dstep_reads',dstep_eff',simOp_run,outVal_val,readAgain_nil,readAgain_cons,valEq_int,callOut_value,callOut_enter,call_fn en203,call_min,evList,List.getElem?_toArray,List.getElem?_cons_succ,List.getElem?_cons_zero,List.drop_succ_cons,List.drop_zero,opS_guard,wantedS,dPick,pick_true,pick_false,Bool.and_self,Bool.true_and,hsum,bqa,bqb,bqc,bqd,t135,hk'] at hr
  subst hr
  refine ⟨_,_,by simp,rfl,rfl,rfl,⟨?_,?_,?_,?_,?_,?_⟩,?_,?_,?_,hU,hD,hN,hnx,keep⟩ <;> simp [get_put,lim,t1,t10,t12,t14,t15,t16,t19,t129,t135]

structure PuBO (p : Pl) (u d m : Nat → Int) (lo n0 : Nat) (g : Nat → Option SObj) (i : Nat) (st : St) : Prop where
  ds : st.defers = []
  tm : PuT p st.tm
  t129 : st.tm.get 129 = some (.int .i64 (.ofNat i))
  U : Row st.h p.U u
  D : Row st.h p.D d
  N : Zon st.h p.N (upF (fmF m u d p.x) m (i * 60))
  next : st.h.next = n0
  keep : ∀ e,e < lo → st.h.t.get e = g e

theorem pu_b (hsum : ∀ (a b : Int) (h : SHeap),ih (.call 203 #[.int .i64 a,.int .i64 b] .normal) h = .ok (.int .i64 (sumI a b),h)) {p : Pl} (hp : p.ok) {u d m : Nat → Int} {lo n0 : Nat} {g : Nat → Option SObj} (hlo : lo ≤ p.N) (hn0 : n0 ≤ lim)
    (i : Nat) (hi : i < 60) (st : St) (hI : PuBO p u d m lo n0 g i st) :
    ∃ st',codeS puB (Eo O) ih ⟨310,202,.normal,none⟩ st = .ok (.normal,st') ∧ PuBO p u d m lo n0 g (i + 1) st' := by
  obtain ⟨tm,h,dd⟩ := st
  obtain ⟨hd,hT,t129,hU,hD,hN,hnx,keep⟩ := hI
  obtain ⟨t1,t10,t12,t14,t15,t16⟩ := hT
  simp only at hd t1 t10 t12 t14 t15 t16 t129 hU hD hN hnx keep
  subst hd
  have hk' : decide (Int.ofNat i < 60) = true := by simp; omega
  have hk2 : wrapF .i64 (Int.ofNat i + 1) = .ofNat (i + 1) := wrap_small (m := i + 1) (by omega)
  generalize hr : codeS puB (Eo O) ih ⟨310,202,.normal,none⟩ ⟨tm,h,[]⟩ = r
  by_cases hix : i = p.x
  · have c1 : (Int.ofNat i == Int.ofNat p.x) = true := by simp [hix]
    unfold puB pu9 at hr
    simp only [Tryz.f310,cF,Option.getD,cA,cB,cI,codeS,cSeq_run,cCond_run,cRegion_run,cRegion_draw,cBlock_run,cSkip_run,cRet_run,cExit_run,opsS_nil,opsS_run,opS_free,thenS_normal,thenS_ret,thenS_exit,exitBlock_normal,exitBlock_ret,exitBlock_exit,normalS_ok,dispatch,dMove,opMove,evT_tmp,evT_int,evT_bool,evT_func,dBin,lss_i64,gtr_i64,geq_i64,neq_i64,eql_i64',add_i64,valR,afterS_value,putT_some,putT_none,get_put,lim,Nat.reduceLT,Nat.reduceEqDiff,and_true,if_true,if_false,reduceIte,false_and,true_and,cLoop_run,Nat.beq,cond_true,cond_false,
      dIndexAddr,dFieldAddr,dNilCheck,dLoad,dStore,dCall,nilCheck_ptr,fa313x0,fa313x1,Option.bind_some,natOf_int,addrAdd_free,drawS_nil',drawS_cons',dstep_pure',dstep_reads',dstep_eff',simOp_run,outVal_val,readAgain_nil,readAgain_cons,valEq_int,callOut_value,callOut_enter,call_fn en203,call_min,evList,List.getElem?_toArray,List.getElem?_cons_succ,List.getElem?_cons_zero,List.drop_succ_cons,List.drop_zero,opS_guard,wantedS,dPick,pick_true,pick_false,Bool.and_self,Bool.true_and,hsum,bqa,bqb,bqc,bqd,t1,t10,t12,t14,t15,t16,t129,hk',hk2,c1] at hr
    subst hr
    refine ⟨_,rfl,rfl,⟨?_,?_,?_,?_,?_,?_⟩,?_,hU,hD,hN.cg fun k _ => ?_,hnx,keep⟩
    · simp [get_put,lim,t1]
    · simp [get_put,lim,t10]
    · simp [get_put,lim,t12]
    · simp [get_put,lim,t14]
    · simp [get_put,lim,t15]
    · simp [get_put,lim,t16]
    · simp [get_put,lim]
    · simp only [upF]
      by_cases f : k < i * 60
      · rw [if_pos f,if_pos (by omega)]
      · rw [if_neg f]
        by_cases e : k < (i + 1) * 60
        · rw [if_pos e,fmF,if_neg (fun q => q.1 (by omega))]
        · rw [if_neg e]
  · have c1 : (Int.ofNat i == Int.ofNat p.x) = false := by simp; omega
    obtain ⟨tmk,hk⟩ : ∃ tmk,tmk = (((((((tm.put 130 (some (.bool true))).put 131 (some (.int .i64 (.ofNat i)))).put 19 (some (.int .i64 (.ofNat i)))).put 132 (some (.int .i64 (.ofNat i)))).put 133 (some (.int .i64 (.ofNat p.x)))).put 134 (some (.bool false))).put 135 (some (.int .i64 0))) := ⟨_,rfl⟩
    have hin : PuBI p u d m lo n0 g i 0 ⟨tmk,h,[]⟩ := by
      subst hk
      refine ⟨rfl,⟨?_,?_,?_,?_,?_,?_⟩,?_,?_,?_,hU,hD,hN,hnx,keep⟩ <;> simp [get_put,lim,t1,t10,t12,t14,t15,t16,t129]
    obtain ⟨o,⟨tm',h',dd'⟩,e0,e1,e2,e3⟩ := loopS_or (f := codeS puBi (Eo O) ih ⟨310,202,.normal,none⟩) (I := fun j st => PuBI p u d m lo n0 g i j st) (N := 60)
      (P := fun o st => o = .exit 6 ∧ PuBI p u d m lo n0 g i 60 st)
      (fun j st hj hI => .inl (pu_bi hsum hp hlo hn0 hi hix j hj st hI)) (fun st hI => pu_bi_end st hI) 60 1000000 0 _ (by omega) (by omega) hin
    subst e2
    obtain ⟨hd,hT,r19,r129,r135,rU,rD,rN,rnx,rkeep⟩ := e3
    obtain ⟨r1,r10,r12,r14,r15,r16⟩ := hT
    simp only at hd r1 r10 r12 r14 r15 r16 r19 r129 r135 rU rD rN rnx rkeep
    subst hd
    unfold puBi puB pu9 at e1
    simp only [Tryz.f310,cF,Option.getD,cA,cB,cI,codeS] at e1
    subst hk
    unfold puB pu9 at hr
    simp only [Tryz.f310,cF,Option.getD,cA,cB,cI,codeS,cSeq_run,cCond_run,cRegion_run,cRegion_draw,cBlock_run,cSkip_run,cRet_run,cExit_run,opsS_nil,opsS_run,opS_free,thenS_normal,thenS_ret,thenS_exit,exitBlock_normal,exitBlock_ret,exitBlock_exit,normalS_ok,dispatch,dMove,opMove,evT_tmp,evT_int,evT_bool,evT_func,dBin,lss_i64,gtr_i64,geq_i64,neq_i64,eql_i64',add_i64,valR,afterS_value,putT_some,putT_none,get_put,lim,Nat.reduceLT,Nat.reduceEqDiff,and_true,if_true,if_false,reduceIte,false_and,true_and,cLoop_run,Nat.beq,cond_true,cond_false,
      dIndexAddr,dFieldAddr,dNilCheck,dLoad,dStore,dCall,nilCheck_ptr,fa313x0,fa313x1,Option.bind_some,natOf_int,addrAdd_free,drawS_nil',drawS_cons',dstep_pure',dstep_reads',dstep_eff',simOp_run,outVal_val,readAgain_nil,readAgain_cons,valEq_int,callOut_value,callOut_enter,call_fn en203,call_min,evList,List.getElem?_toArray,List.getElem?_cons_succ,List.getElem?_cons_zero,List.drop_succ_cons,List.drop_zero,opS_guard,wantedS,dPick,pick_true,pick_false,Bool.and_self,Bool.true_and,hsum,bqa,bqb,bqc,bqd,t1,t10,t12,t14,t15,t16,t129,hk',hk2,c1,e1,r129] at hr
    subst hr
    refine ⟨_,rfl,rfl,⟨?_,?_,?_,?_,?_,?_⟩,?_,rU,rD,rN.cg fun k _ => ?_,rnx,rkeep⟩
    · simp [get_put,lim,r1]
    · simp [get_put,lim,r10]
    · simp [get_put,lim,r12]
    · simp [get_put,lim,r14]
    · simp [get_put,lim,r15]
    · simp [get_put,lim,r16]
    · simp [get_put,lim]
    · rw [show i * 60 + 60 = (i + 1) * 60 by omega]

theorem plP3 : planOf (Eo O) (puDr 3).toList = some ⟨[⟨0,.pure,0⟩,⟨1,.pure,0⟩,⟨2,.pure,0⟩,⟨6,.pure,0⟩,⟨7,.pure,0⟩,⟨8,.pure,0⟩,⟨9,.read,0⟩,⟨10,.pure,0⟩,⟨11,.pure,0⟩,⟨12,.pure,0⟩,⟨13,.read,0⟩,⟨14,.pure,0⟩,⟨15,.pure,0⟩,⟨16,.pure,0⟩,⟨17,.pure,0⟩,⟨18,.eff,0⟩,⟨3,.pure,0⟩,⟨4,.pure,0⟩,⟨5,.pure,0⟩,⟨19,.pure,0⟩,⟨20,.pure,0⟩,⟨21,.pure,0⟩],22,0⟩ := by kernel_rfl

/-- the row and the column of x -/
def fcF (f u d : Nat → Int) (x n : Nat) : Nat → Int := fun i => if i / 60 = x ∧ i % 60 ≠ x ∧ i % 60 < n then u (i % 60) else if i % 60 = x ∧ i / 60 ≠ x ∧ i / 60 < n then d (i / 60) else f i
structure PuCO (p : Pl) (u d f : Nat → Int) (lo n0 : Nat) (g : Nat → Option SObj) (i : Nat) (st : St) : Prop where
  ds : st.defers = []
  tm : PuT p st.tm
  t168 : st.tm.get 168 = some (.int .i64 (.ofNat i))
  U : Row st.h p.U u
  D : Row st.h p.D d
  N : Zon st.h p.N (fcF f u d p.x i)
  next : st.h.next = n0
  keep : ∀ e,e < lo → st.h.t.get e = g e

theorem pu_c {p : Pl} (hp : p.ok) {u d f : Nat → Int} {lo n0 : Nat} {g : Nat → Option SObj} (hlo : lo ≤ p.N) (hn0 : n0 ≤ lim)
    (i : Nat) (hi : i < 60) (st : St) (hI : PuCO p u d f lo n0 g i st) :
    ∃ st',codeS puC (Eo O) ih ⟨310,202,.normal,none⟩ st = .ok (.normal,st') ∧ PuCO p u d f lo n0 g (i + 1) st' := by
  obtain ⟨tm,h,dd⟩ := st
  obtain ⟨hd,hT,t168,hU,hD,hN,hnx,keep⟩ := hI
  obtain ⟨t1,t10,t12,t14,t15,t16⟩ := hT
  simp only at hd t1 t10 t12 t14 t15 t16 t168 hU hD hN hnx keep
  subst hd
  have hx := hp.x
  have hsum := trivial
  have hk' : decide (Int.ofNat i < 60) = true := by simp; omega
  have hk2 : wrapF .i64 (Int.ofNat i + 1) = .ofNat (i + 1) := wrap_small (m := i + 1) (by omega)
  generalize hr : codeS puC (Eo O) ih ⟨310,202,.normal,none⟩ ⟨tm,h,[]⟩ = r
  unfold puC pu9 at hr
  by_cases hix : i = p.x
  · have c1 : (Int.ofNat i != Int.ofNat p.x) = false := by simp [hix]
    simp only [Tryz.f310,cF,Option.getD,cA,cB,cI,codeS,cSeq_run,cCond_run,cRegion_run,cRegion_draw,cBlock_run,cSkip_run,cRet_run,cExit_run,opsS_nil,opsS_run,opS_free,thenS_normal,thenS_ret,thenS_exit,exitBlock_normal,exitBlock_ret,exitBlock_exit,normalS_ok,dispatch,dMove,opMove,evT_tmp,evT_int,evT_bool,evT_func,dBin,lss_i64,gtr_i64,geq_i64,neq_i64,eql_i64',add_i64,valR,afterS_value,putT_some,putT_none,get_put,lim,Nat.reduceLT,Nat.reduceEqDiff,and_true,if_true,if_false,reduceIte,false_and,true_and,cLoop_run,Nat.beq,cond_true,cond_false,
      dIndexAddr,dFieldAddr,dNilCheck,dLoad,dStore,dCall,nilCheck_ptr,fa313x0,fa313x1,Option.bind_some,natOf_int,addrAdd_free,drawS_nil',drawS_cons',dstep_pure',dstep_reads',dstep_eff',simOp_run,outVal_val,readAgain_nil,readAgain_cons,valEq_int,callOut_value,callOut_enter,call_fn en203,call_min,evList,List.getElem?_toArray,List.getElem?_cons_succ,List.getElem?_cons_zero,List.drop_succ_cons,List.drop_zero,opS_guard,wantedS,dPick,pick_true,pick_false,Bool.and_self,Bool.true_and,hsum,bqa,bqb,bqc,bqd,t1,t10,t12,t14,t15,t16,t168,hk',hk2,c1] at hr
    subst hr
    refine ⟨_,rfl,rfl,⟨?_,?_,?_,?_,?_,?_⟩,?_,hU,hD,hN.cg fun k _ => ?_,hnx,keep⟩
    · simp [get_put,lim,t1]
    · simp [get_put,lim,t10]
    · simp [get_put,lim,t12]
    · simp [get_put,lim,t14]
    · simp [get_put,lim,t15]
    · simp [get_put,lim,t16]
    · simp [get_put,lim]
    · unfold fcF
      have e1 : (k / 60 = p.x ∧ k % 60 ≠ p.x ∧ k % 60 < i) ↔ (k / 60 = p.x ∧ k % 60 ≠ p.x ∧ k % 60 < i + 1) := by omega
      have e2 : (k % 60 = p.x ∧ k / 60 ≠ p.x ∧ k / 60 < i) ↔ (k % 60 = p.x ∧ k / 60 ≠ p.x ∧ k / 60 < i + 1) := by omega
      simp only [e1,e2]
  · have c1 : (Int.ofNat i != Int.ofNat p.x) = true := by simp; omega
    have pl := plP3 (O := O)
    unfold puDr at pl
    simp only [Tryz.f310,cF,Option.getD,drawsOf,nthD,List.nil_append,List.append_nil,List.cons_append] at pl
    have hnl' : h.next ≤ lim := by rw [hnx]; exact hn0
    obtain ⟨h1,s1,N1,nx1,o1⟩ := hN.st (O := O) hx hi (u i)
    obtain ⟨h2,s2,N2,nx2,o2⟩ := N1.st (O := O) hi hx (d i)
    have hnl1 : Nat.ble h1.next 4294967296 = true := by rw [Nat.ble_eq,nx1]; exact hnl'
    simp only [Tryz.f310,cF,Option.getD,cA,cB,cI,codeS,cSeq_run,cCond_run,cRegion_run,cRegion_draw,cBlock_run,cSkip_run,cRet_run,cExit_run,opsS_nil,opsS_run,opS_free,thenS_normal,thenS_ret,thenS_exit,exitBlock_normal,exitBlock_ret,exitBlock_exit,normalS_ok,dispatch,dMove,opMove,evT_tmp,evT_int,evT_bool,evT_func,dBin,lss_i64,gtr_i64,geq_i64,neq_i64,eql_i64',add_i64,valR,afterS_value,putT_some,putT_none,get_put,lim,Nat.reduceLT,Nat.reduceEqDiff,and_true,if_true,if_false,reduceIte,false_and,true_and,cLoop_run,Nat.beq,cond_true,cond_false,
      dIndexAddr,dFieldAddr,dNilCheck,dLoad,dStore,dCall,nilCheck_ptr,fa313x0,fa313x1,Option.bind_some,natOf_int,addrAdd_free,drawS_nil',drawS_cons',dstep_pure',dstep_reads',dstep_eff',simOp_run,outVal_val,readAgain_nil,readAgain_cons,valEq_int,callOut_value,callOut_enter,call_fn en203,call_min,evList,List.getElem?_toArray,List.getElem?_cons_succ,List.getElem?_cons_zero,List.drop_succ_cons,List.drop_zero,opS_guard,wantedS,dPick,pick_true,pick_false,Bool.and_self,Bool.true_and,hsum,bqa,bqb,bqc,bqd,t1,t10,t12,t14,t15,t16,t168,hk',hk2,c1,ia60 hi,ia311 hx,ia309 hi,ia311 hi,ia309 hx,hU.ld hi,hD.ld hi,s1,s2,bDraw_list pl hnl',hnl1] at hr
    subst hr
    refine ⟨_,rfl,rfl,⟨?_,?_,?_,?_,?_,?_⟩,?_,(hU.to (o1 _ (fun e => hp.nu e.symm))).to (o2 _ (fun e => hp.nu e.symm)),(hD.to (o1 _ (fun e => hp.nd e.symm))).to (o2 _ (fun e => hp.nd e.symm)),N2.cg fun k hk => ?_,nx2.trans (nx1.trans hnx),fun e he => (o2 _ (by omega)).trans ((o1 _ (by omega)).trans (keep e he))⟩
    · simp [get_put,lim,t1]
    · simp [get_put,lim,t10]
    · simp [get_put,lim,t12]
    · simp [get_put,lim,t14]
    · simp [get_put,lim,t15]
    · simp [get_put,lim,t16]
    · simp [get_put,lim]
    · simp only [updF]
      unfold fcF
      by_cases e : k = i * 60 + p.x
      · have e1 : ¬ (k / 60 = p.x ∧ k % 60 ≠ p.x ∧ k % 60 < i + 1) := by omega
        have e2 : k % 60 = p.x ∧ k / 60 ≠ p.x ∧ k / 60 < i + 1 := by omega
        rw [if_pos e,if_neg e1,if_pos e2,show k / 60 = i by omega]
      · rw [if_neg e]
        by_cases e' : k = p.x * 60 + i
        · have e1 : k / 60 = p.x ∧ k % 60 ≠ p.x ∧ k % 60 < i + 1 := by omega
          rw [if_pos e',if_pos e1,show k % 60 = i by omega]
        · have e1 : (k / 60 = p.x ∧ k % 60 ≠ p.x ∧ k % 60 < i) ↔ (k / 60 = p.x ∧ k % 60 ≠ p.x ∧ k % 60 < i + 1) := by omega
          have e2 : (k % 60 = p.x ∧ k / 60 ≠ p.x ∧ k / 60 < i) ↔ (k % 60 = p.x ∧ k / 60 ≠ p.x ∧ k / 60 < i + 1) := by omega
          rw [if_neg e']
          simp only [e1,e2]

theorem pu_a_end {p : Pl} {a b m : Nat → Int} {lo n0 : Nat} {g : Nat → Option SObj} (st : St) (hI : PuAO p a b m lo n0 g 60 st) :
    ∃ o st',o ≠ .normal ∧ codeS puA (Eo O) ih ⟨310,202,.normal,none⟩ st = .ok (o,st') ∧ (o = .exit 0 ∧ PuAO p a b m lo n0 g 60 st') := by
  obtain ⟨tm,h,dd⟩ := st
  obtain ⟨hd,hT,t65,hA,hB,hN,hU,hD,hnx,keep⟩ := hI
  obtain ⟨t1,t10,t12,t14,t15,t16⟩ := hT
  simp only at hd t1 t10 t12 t14 t15 t16 t65 hA hB hN hU hD hnx keep
  subst hd
  have hk' : decide (Int.ofNat 60 < 60) = false := rfl
  have hsum := trivial
  generalize hr : codeS puA (Eo O) ih ⟨310,202,.normal,none⟩ ⟨tm,h,[]⟩ = r
  unfold puA pu9 at hr
  simp only [Tryz.f310,cF,Option.getD,cA,cB,cI,codeS,cSeq_run,cCond_run,cRegion_run,cRegion_draw,cBlock_run,cSkip_run,cRet_run,cExit_run,opsS_nil,opsS_run,opS_free,thenS_normal,thenS_ret,thenS_exit,exitBlock_normal,exitBlock_ret,exitBlock_exit,normalS_ok,dispatch,dMove,opMove,evT_tmp,evT_int,evT_bool,evT_func,dBin,lss_i64,gtr_i64,geq_i64,neq_i64,eql_i64',add_i64,valR,afterS_value,putT_some,putT_none,get_put,lim,Nat.reduceLT,Nat.reduceEqDiff,and_true,if_true,if_false,reduceIte,false_and,true_and,cLoop_run,Nat.beq,cond_true,cond_false,
      dIndexAddr,dFieldAddr,dNilCheck,dLoad,dStore,dCall,nilCheck_ptr,fa313x0,fa313x1,Option.bind_some,natOf_int,addrAdd_free,drawS_nil',drawS_cons',dstep_pure',dstep_reads',dstep_eff',simOp_run,outVal_val,readAgain_nil,readAgain_cons,valEq_int,callOut_value,callOut_enter,call_fn en203,call_min,evList,List.getElem?_toArray,List.getElem?_cons_succ,List.getElem?_cons_zero,List.drop_succ_cons,List.drop_zero,opS_guard,wantedS,dPick,pick_true,pick_false,Bool.and_self,Bool.true_and,hsum,bqa,bqb,bqc,bqd,t65,hk'] at hr
  subst hr
  refine ⟨_,_,by simp,rfl,rfl,rfl,⟨?_,?_,?_,?_,?_,?_⟩,?_,hA,hB,hN,hU,hD,hnx,keep⟩ <;> simp [get_put,lim,t1,t10,t12,t14,t15,t16,t65]
theorem pu_b_end {p : Pl} {u d m : Nat → Int} {lo n0 : Nat} {g : Nat → Option SObj} (st : St) (hI : PuBO p u d m lo n0 g 60 st) :
    ∃ o st',o ≠ .normal ∧ codeS puB (Eo O) ih ⟨310,202,.normal,none⟩ st = .ok (o,st') ∧ (o = .exit 4 ∧ PuBO p u d m lo n0 g 60 st') := by
  obtain ⟨tm,h,dd⟩ := st
  obtain ⟨hd,hT,t129,hU,hD,hN,hnx,keep⟩ := hI
  obtain ⟨t1,t10,t12,t14,t15,t16⟩ := hT
  simp only at hd t1 t10 t12 t14 t15 t16 t129 hU hD hN hnx keep
  subst hd
  have hk' : decide (Int.ofNat 60 < 60) = false := rfl
  have hsum := trivial
  generalize hr : codeS puB (Eo O) ih ⟨310,202,.normal,none⟩ ⟨tm,h,[]⟩ = r
  unfold puB pu9 at hr
  simp only [Tryz.f310,cF,Option.getD,cA,cB,cI,codeS,cSeq_run,cCond_run,cRegion_run,cRegion_draw,cBlock_run,cSkip_run,cRet_run,cExit_run,opsS_nil,opsS_run,opS_free,thenS_normal,thenS_ret,thenS_exit,exitBlock_normal,exitBlock_ret,exitBlock_exit,normalS_ok,dispatch,dMove,opMove,evT_tmp,evT_int,evT_bool,evT_func,dBin,lss_i64,gtr_i64,geq_i64,neq_i64,eql_i64',add_i64,valR,afterS_value,putT_some,putT_none,get_put,lim,Nat.reduceLT,Nat.reduceEqDiff,and_true,if_true,if_false,reduceIte,false_and,true_and,cLoop_run,Nat.beq,cond_true,cond_false,
      dIndexAddr,dFieldAddr,dNilCheck,dLoad,dStore,dCall,nilCheck_ptr,fa313x0,fa313x1,Option.bind_some,natOf_int,addrAdd_free,drawS_nil',drawS_cons',dstep_pure',dstep_reads',dstep_eff',simOp_run,outVal_val,readAgain_nil,readAgain_cons,valEq_int,callOut_value,callOut_enter,call_fn en203,call_min,evList,List.getElem?_toArray,List.getElem?_cons_succ,List.getElem?_cons_zero,List.drop_succ_cons,List.drop_zero,opS_guard,wantedS,dPick,pick_true,pick_false,Bool.and_self,Bool.true_and,hsum,bqa,bqb,bqc,bqd,t129,hk'] at hr
  subst hr
  refine ⟨_,_,by simp,rfl,rfl,rfl,⟨?_,?_,?_,?_,?_,?_⟩,?_,hU,hD,hN,hnx,keep⟩ <;> simp [get_put,lim,t1,t10,t12,t14,t15,t16,t129]
theorem pu_c_end {p : Pl} {u d f : Nat → Int} {lo n0 : Nat} {g : Nat → Option SObj} (st : St) (hI : PuCO p u d f lo n0 g 60 st) :
    ∃ o st',o ≠ .normal ∧ codeS puC (Eo O) ih ⟨310,202,.normal,none⟩ st = .ok (o,st') ∧ (o = .exit 8 ∧ PuCO p u d f lo n0 g 60 st') := by
  obtain ⟨tm,h,dd⟩ := st
  obtain ⟨hd,hT,t168,hU,hD,hN,hnx,keep⟩ := hI
  obtain ⟨t1,t10,t12,t14,t15,t16⟩ := hT
  simp only at hd t1 t10 t12 t14 t15 t16 t168 hU hD hN hnx keep
  subst hd
  have hk' : decide (Int.ofNat 60 < 60) = false := rfl
  have hsum := trivial
  generalize hr : codeS puC (Eo O) ih ⟨310,202,.normal,none⟩ ⟨tm,h,[]⟩ = r
  unfold puC pu9 at hr
  simp only [Tryz.f310,cF,Option.getD,cA,cB,cI,codeS,cSeq_run,cCond_run,cRegion_run,cRegion_draw,cBlock_run,cSkip_run,cRet_run,cExit_run,opsS_nil,opsS_run,opS_free,thenS_normal,thenS_ret,thenS_exit,exitBlock_normal,exitBlock_ret,exitBlock_exit,normalS_ok,dispatch,dMove,opMove,evT_tmp,evT_int,evT_bool,evT_func,dBin,lss_i64,gtr_i64,geq_i64,neq_i64,eql_i64',add_i64,valR,afterS_value,putT_some,putT_none,get_put,lim,Nat.reduceLT,Nat.reduceEqDiff,and_true,if_true,if_false,reduceIte,false_and,true_and,cLoop_run,Nat.beq,cond_true,cond_false,
      dIndexAddr,dFieldAddr,dNilCheck,dLoad,dStore,dCall,nilCheck_ptr,fa313x0,fa313x1,Option.bind_some,natOf_int,addrAdd_free,drawS_nil',drawS_cons',dstep_pure',dstep_reads',dstep_eff',simOp_run,outVal_val,readAgain_nil,readAgain_cons,valEq_int,callOut_value,callOut_enter,call_fn en203,call_min,evList,List.getElem?_toArray,List.getElem?_cons_succ,List.getElem?_cons_zero,List.drop_succ_cons,List.drop_zero,opS_guard,wantedS,dPick,pick_true,pick_false,Bool.and_self,Bool.true_and,hsum,bqa,bqb,bqc,bqd,t168,hk'] at hr
  subst hr
  refine ⟨_,_,by simp,rfl,rfl,rfl,⟨?_,?_,?_,?_,?_,?_⟩,?_,hU,hD,hN,hnx,keep⟩ <;> simp [get_put,lim,t1,t10,t12,t14,t15,t16,t168]

end Go.Proofs.YtgiompikfhhkmaaGreatDoor

set_option linter.unusedSimpArgs false
set_option linter.unusedVariables false
namespace Go.Proofs.YtgiompikfhhkmaaGreatDoor
open Go Go.Sim
set_option maxRecDepth 100000
set_option maxHeartbeats 1000000
variable {O : Nat → Option (List Value → SHeap → Except String (Value × SHeap))} {ih : K}

theorem evT_nilptr {G : Nat} {tm : Tr Value} : evT G tm (.const (.pointer none)) = some (.pointer none) := (id rfl)
theorem evT_nilslice {G : Nat} {tm : Tr Value} : evT G tm (.const (.slice none 0 0)) = some (.slice none 0 0) := (id rfl)
def intsOf (f : Nat → Int) (n : Nat) : List Value := (List.range n).map fun k => .int .i64 (f k)
theorem intsOf_len (f : Nat → Int) (n : Nat) : (intsOf f n).length = n := by simp [intsOf]
theorem intsOf_get {f : Nat → Int} {n k : Nat} (h : k < n) : (intsOf f n)[k]? = some (.int .i64 (f k)) := by simp [intsOf,h]
theorem intsOf_scalar (f : Nat → Int) (n : Nat) : allScalar (intsOf f n) = true := by
  unfold intsOf
  generalize List.range n = l
  induction l with
  | nil => rfl
  | cons a l ih => simp only [List.map_cons,allScalar,scalarV,ih,Bool.and_self]
theorem toListFrom_some {c : Tr Value} : ∀ (n i : Nat) (l : List Value),l.length = n → (∀ k,k < n → c.get (i + k) = l[k]?) → c.toListFrom i n = some l
  | 0,i,l,h,_ => by
    obtain rfl := List.eq_nil_of_length_eq_zero h
    rfl
  | n + 1,i,[],h,_ => by simp at h
  | n + 1,i,v :: l,h,g => by
    have h0 := g 0 (by omega)
    have := toListFrom_some n (i + 1) l (by simpa using h) (fun k hk => by
      have := g (k + 1) (by omega)
      rw [show i + 1 + k = i + (k + 1) by omega,this]
      simp)
    simp only [Nat.add_zero,List.getElem?_cons_zero] at h0
    simp only [Tr.toListFrom,h0,forceN_eq,this]
theorem range_ints {c : Tr Value} {n off len : Nat} {f : Nat → Int} (hl : 12 < len) (hn : off + len ≤ n) (hnl : n ≤ lim) (h : ∀ k,k < len → c.get (off + k) = some (.int .i64 (f k))) : range c n off len = some (intsOf f len) := by
  unfold range
  rw [show Nat.ble len 12 = false by
    cases e : Nat.ble len 12 with
    | false => rfl
    | true => have := Nat.le_of_ble_eq_true e; omega,cond_false]
  split
  · exact toListFrom_some len off _ (intsOf_len f len) fun k hk => by rw [h k hk,intsOf_get hk]
  · rename_i l hl2
    obtain ⟨g1,g2⟩ := toL_get hl2
    have e1 : Nat.ble (off + len) n = true := by rw [Nat.ble_eq]; exact hn
    have e2 : Nat.ble n lim = true := by rw [Nat.ble_eq]; exact hnl
    rw [e1,e2,Bool.and_self,cond_true]
    congr 1
    refine List.ext_getElem? fun k => ?_
    by_cases hk : k < len
    · rw [List.getElem?_take,if_pos hk,List.getElem?_drop,g2 _ (by omega) (by omega),h k hk,intsOf_get hk]
    · rw [List.getElem?_eq_none (by simp; omega),List.getElem?_eq_none (by rw [intsOf_len]; omega)]
/-- a table on its own -/
def Tbl (h : SHeap) (b : Nat) (f : Nat → Int) : Prop := ∃ c,h.t.get b = some (.cells c 3600 311 false false) ∧ ∀ k,k < 3600 → c.get k = some (.int .i64 (f k))
theorem Tbl.ld {h : SHeap} {b : Nat} {f : Nat → Int} (k : Tbl h b f) {i j : Nat} (hi : i < 60) (hj : j < 60) : opLoad (Eo O) 3 (some (.pointer (some ⟨b,0 + i * 60 + j,none⟩))) h = .ok (.value (.int .i64 (f (i * 60 + j))),h) := by
  obtain ⟨c,h1,h2⟩ := k
  refine load_one (E := Eo O) E3 rfl h1 ?_
  rw [show 0 + i * 60 + j = i * 60 + j by omega]
  exact h2 _ (by omega)
theorem Tbl.all {h : SHeap} {b : Nat} {f : Nat → Int} (k : Tbl h b f) : opLoad (Eo O) 311 (some (.pointer (some ⟨b,0,none⟩))) h = .ok (.value (.agg (intsOf f 3600).toArray),h) := by
  obtain ⟨c,h1,h2⟩ := k
  unfold opLoad loadAt
  simp only [E311,h1]
  rw [if_pos (show TI.agg ⟨.array 60 309,3600,Tab.t311.bytes,Tab.t311.zero⟩ = true from rfl)]
  have := range_ints (c := c) (n := 3600) (off := 0) (len := 3600) (f := f) (by omega) (by omega) (by unfold lim; omega) (fun k hk => by rw [Nat.zero_add]; exact h2 k hk)
  simp only [this]
  rfl
theorem Zon.all {h : SHeap} {b : Nat} {f : Nat → Int} (k : Zon h b f) : opLoad (Eo O) 311 (some (.pointer (some ⟨b,0 + 1,none⟩))) h = .ok (.value (.agg (intsOf f 3600).toArray),h) := by
  obtain ⟨c,h1,_,h2⟩ := k
  unfold opLoad loadAt
  simp only [E311,h1]
  rw [if_pos (show TI.agg ⟨.array 60 309,3600,Tab.t311.bytes,Tab.t311.zero⟩ = true from rfl)]
  have := range_ints (c := c) (n := 3601) (off := 0 + 1) (len := 3600) (f := f) (by omega) (by omega) (by unfold lim; omega) (fun k hk => by rw [Nat.zero_add]; exact h2 k hk)
  simp only [this]
  rfl

/-! ## settled -/
theorem body249 : Tryz.f249.body = some (cF Tryz.f249) := rfl
theorem fn249 : (Eo O).F 249 = some Tryz.f249 := by show Tab.funcs.get 249 = _; kernel_rfl
theorem nt249 {a : Value} : max Tryz.f249.ntmps (#[a] : Array Value).size = 18 := rfl
theorem res249 : Tryz.f249.results.toList = [.tmp 2] := rfl
noncomputable def seB : Code := cI (cI (cB (cA (cB (cF Tryz.f249)))))
noncomputable def zfields : List Field := match Tab.t313.desc with | .struct fs => fs.toList | _ => []
theorem zplaces : placesOf (Eo O) zfields = some [(0,1),(1,3600)] := by kernel_rfl
theorem build313 {l : List Value} (hl : l.length = 3600) {h : SHeap} : opBuild (Eo O) ((Eo O).T 313) (some [(1,.agg l.toArray)]) h = .ok (.value (.agg (.bool false :: l).toArray),h) := by
  have e : (Eo O).T 313 = some ⟨.struct zfields.toArray,3601,Tab.t313.bytes,some (.agg (.bool false :: List.replicate 3600 (.int .i64 0)).toArray)⟩ := by show Tab.types.get 313 = _; kernel_rfl
  rw [e]
  unfold opBuild
  simp only [zplaces]
  have hs : (Value.agg (.bool false :: List.replicate 3600 (.int .i64 0)).toArray).cells.size = 3601 := by simp [Value.cells]
  have hc : (Value.agg (.bool false :: List.replicate 3600 (.int .i64 0)).toArray).cells.toList = .bool false :: List.replicate 3600 (.int .i64 0) := by simp [Value.cells]
  have hl2 : (Value.agg l.toArray).cells.toList = l := by simp [Value.cells]
  have hb : Nat.beq l.length 3600 = true := by rw [hl]; rfl
  rw [hs,hc]
  simp only [fillS,List.getElem?_cons_succ,List.getElem?_cons_zero,hl2,hb,show Nat.ble (1 + 3600) 3601 = true from rfl,Bool.and_self,cond_true,show (Nat.beq 1 0 && Nat.beq 3600 3601) = false from rfl,cond_false,valR]
  have hd : (Value.bool false :: List.replicate 3600 (.int .i64 0)).drop (1 + 3600) = [] := List.drop_eq_nil_of_le (by simp)
  rw [hd]
  simp

structure SeI (b : Nat) (f : Nat → Int) (h0 : SHeap) (i : Nat) (st : St) : Prop where
  ds : st.defers = []
  h : st.h = h0
  t1 : st.tm.get 1 = some (.pointer (some ⟨b,0,none⟩))
  t4 : st.tm.get 4 = some (.int .i64 (.ofNat i))
theorem se_in {b : Nat} {f : Nat → Int} {h0 : SHeap} (hb : Tbl h0 b f) (hf : ∀ i,i < 60 → 0 ≤ f (i * 60 + i)) (i : Nat) (hi : i < 60) (st : St) (hI : SeI b f h0 i st) :
    ∃ st',codeS seB (Eo O) ih ⟨249,18,.normal,none⟩ st = .ok (.normal,st') ∧ SeI b f h0 (i + 1) st' := by
  obtain ⟨tm,h,dd⟩ := st
  obtain ⟨hd,hh,t1,t4⟩ := hI
  simp only at hd hh t1 t4
  subst hd hh
  have hsum := trivial
  have hk' : decide (Int.ofNat i < 60) = true := by simp; omega
  have hk2 : wrapF .i64 (Int.ofNat i + 1) = .ofNat (i + 1) := wrap_small (m := i + 1) (by omega)
  have hn : decide (f (i * 60 + i) < 0) = false := by have := hf i hi; simp; omega
  generalize hr : codeS seB (Eo O) ih ⟨249,18,.normal,none⟩ ⟨tm,h,[]⟩ = r
  unfold seB at hr
  simp only [Tryz.f249,cF,Option.getD,cA,cB,cI,codeS,cSeq_run,cCond_run,cRegion_run,cRegion_draw,cBlock_run,cSkip_run,cRet_run,cExit_run,opsS_nil,opsS_run,opS_free,thenS_normal,thenS_ret,thenS_exit,exitBlock_normal,exitBlock_ret,exitBlock_exit,normalS_ok,dispatch,dMove,opMove,evT_tmp,evT_int,evT_bool,evT_func,dBin,lss_i64,gtr_i64,geq_i64,neq_i64,eql_i64',add_i64,valR,afterS_value,putT_some,putT_none,get_put,lim,Nat.reduceLT,Nat.reduceEqDiff,and_true,if_true,if_false,reduceIte,false_and,true_and,cLoop_run,Nat.beq,cond_true,cond_false,
      dIndexAddr,dFieldAddr,dNilCheck,dLoad,dStore,dCall,nilCheck_ptr,fa313x0,fa313x1,Option.bind_some,natOf_int,addrAdd_free,drawS_nil',drawS_cons',dstep_pure',dstep_reads',dstep_eff',simOp_run,outVal_val,readAgain_nil,readAgain_cons,valEq_int,callOut_value,callOut_enter,call_fn en203,call_min,evList,List.getElem?_toArray,List.getElem?_cons_succ,List.getElem?_cons_zero,List.drop_succ_cons,List.drop_zero,opS_guard,wantedS,dPick,pick_true,pick_false,Bool.and_self,Bool.true_and,hsum,bqa,bqb,bqc,bqd,t1,t4,hk',hk2,hn,ia311 hi,ia309 hi,hb.ld hi hi] at hr
  subst hr
  refine ⟨_,rfl,rfl,rfl,?_,?_⟩ <;> simp [get_put,lim,t1]
theorem se_end {b : Nat} {f : Nat → Int} {h0 : SHeap} (st : St) (hI : SeI b f h0 60 st) : ∃ o st',o ≠ .normal ∧ codeS seB (Eo O) ih ⟨249,18,.normal,none⟩ st = .ok (o,st') ∧ (o = .exit 0 ∧ SeI b f h0 60 st') := by
  obtain ⟨tm,h,dd⟩ := st
  obtain ⟨hd,hh,t1,t4⟩ := hI
  simp only at hd hh t1 t4
  subst hd hh
  have hsum := trivial
  have hk' : decide (Int.ofNat 60 < 60) = false := rfl
  generalize hr : codeS seB (Eo O) ih ⟨249,18,.normal,none⟩ ⟨tm,h,[]⟩ = r
  unfold seB at hr
  simp only [Tryz.f249,cF,Option.getD,cA,cB,cI,codeS,cSeq_run,cCond_run,cRegion_run,cRegion_draw,cBlock_run,cSkip_run,cRet_run,cExit_run,opsS_nil,opsS_run,opS_free,thenS_normal,thenS_ret,thenS_exit,exitBlock_normal,exitBlock_ret,exitBlock_exit,normalS_ok,dispatch,dMove,opMove,evT_tmp,evT_int,evT_bool,evT_func,dBin,lss_i64,gtr_i64,geq_i64,neq_i64,eql_i64',add_i64,valR,afterS_value,putT_some,putT_none,get_put,lim,Nat.reduceLT,Nat.reduceEqDiff,and_true,if_true,if_false,reduceIte,false_and,true_and,cLoop_run,Nat.beq,cond_true,cond_false,
      dIndexAddr,dFieldAddr,dNilCheck,dLoad,dStore,dCall,nilCheck_ptr,fa313x0,fa313x1,Option.bind_some,natOf_int,addrAdd_free,drawS_nil',drawS_cons',dstep_pure',dstep_reads',dstep_eff',simOp_run,outVal_val,readAgain_nil,readAgain_cons,valEq_int,callOut_value,callOut_enter,call_fn en203,call_min,evList,List.getElem?_toArray,List.getElem?_cons_succ,List.getElem?_cons_zero,List.drop_succ_cons,List.drop_zero,opS_guard,wantedS,dPick,pick_true,pick_false,Bool.and_self,Bool.true_and,hsum,bqa,bqb,bqc,bqd,t4,hk'] at hr
  subst hr
  refine ⟨_,_,by simp,rfl,rfl,rfl,rfl,?_,?_⟩ <;> simp [get_put,lim,t1,t4]
theorem box_tbl {h : SHeap} {f : Nat → Int} (hn : h.next < lim) : Tbl (newCells h 311 (intsOf f 3600) false) h.next f := by
  refine ⟨Tr.ofL 33 (intsOf f 3600),?_,fun k hk => ?_⟩
  · simp only [newCells,SHeap.new,get_put]
    rw [if_pos ⟨trivial,hn⟩,intsOf_len]
  · rw [ofL_get_eq (by unfold lim; omega),intsOf_get hk]
theorem box_zon {h : SHeap} {f : Nat → Int} (hn : h.next < lim) : Zon (newCells h 313 (.bool false :: intsOf f 3600) false) h.next f := by
  refine ⟨Tr.ofL 33 (.bool false :: intsOf f 3600),?_,?_,fun k hk => ?_⟩
  · simp only [newCells,SHeap.new,get_put]
    rw [if_pos ⟨trivial,hn⟩,List.length_cons,intsOf_len]
  · rw [ofL_get_eq (by unfold lim; omega)]; rfl
  · rw [ofL_get_eq (by unfold lim; omega),show 1 + k = k + 1 by omega,List.getElem?_cons_succ,intsOf_get hk]
theorem new_other {h : SHeap} {e : TypeId} {l : List Value} {o : Bool} {d : Nat} (hd : d ≠ h.next) : (newCells h e l o).t.get d = h.t.get d := by
  simp only [newCells,SHeap.new,get_put]
  rw [if_neg (fun q => hd q.1)]
theorem settled_run {n : Nat} (hO : O 249 = none) {f : Nat → Int} (hf : ∀ i,i < 60 → 0 ≤ f (i * 60 + i)) {h : SHeap} (hn : h.next + 2 ≤ lim) :
    ∃ h',run (Eo O) (n + 1) (.call 249 #[.agg (intsOf f 3600).toArray] .normal) h = .ok (.pointer (some ⟨h.next + 1,0,none⟩),h') ∧ Zon h' (h.next + 1) f ∧ h'.next = h.next + 2 ∧ ∀ e,e < h.next → h'.t.get e = h.t.get e := by
  suffices hc : ∃ tm' h',codeS (cF Tryz.f249) (Eo O) (run (Eo O) n) ⟨249,18,.normal,none⟩ ⟨Tr.ofL 33 [.agg (intsOf f 3600).toArray],h,[]⟩ = .ok (.ret,⟨tm',h',[]⟩) ∧ tm'.get 2 = some (.pointer (some ⟨h.next + 1,0,none⟩)) ∧ Zon h' (h.next + 1) f ∧ h'.next = h.next + 2 ∧ ∀ e,e < h.next → h'.t.get e = h.t.get e by
    obtain ⟨tm',h',k1,k2,k3⟩ := hc
    exact ⟨h',(run_call (show (Eo O).O 249 = none from hO)).trans (enterS_ret (vs := [_]) fn249 body249 nt249 rfl res249 k1 (by simp only [resultsS,k2,need])),k3⟩
  generalize hr : codeS (cF Tryz.f249) (Eo O) (run (Eo O) n) ⟨249,18,.normal,none⟩ ⟨Tr.ofL 33 [.agg (intsOf f 3600).toArray],h,[]⟩ = r
  have t0 : (Tr.ofL 33 [Value.agg (intsOf f 3600).toArray]).get 0 = some (.agg (intsOf f 3600).toArray) := rfl
  generalize Tr.ofL 33 [Value.agg (intsOf f 3600).toArray] = tm at hr t0
  have hsum := trivial
  have bx : opBox 311 (some (.agg (intsOf f 3600).toArray)) h = .ok (.value (.pointer (some ⟨h.next,0,none⟩)),newCells h 311 (intsOf f 3600) false) := by
    simp only [opBox,opNew,Value.cells]
  have hT := box_tbl (h := h) (f := f) (by omega)
  obtain ⟨tmk,hk⟩ : ∃ tmk,tmk = (((tm.put 1 (some (.pointer (some ⟨h.next,0,none⟩)))).put 2 (some (.pointer none))).put 4 (some (.int .i64 0))) := ⟨_,rfl⟩
  have hin : SeI h.next f (newCells h 311 (intsOf f 3600) false) 0 ⟨tmk,newCells h 311 (intsOf f 3600) false,[]⟩ := by
    subst hk
    refine ⟨rfl,rfl,?_,?_⟩ <;> simp [get_put,lim]
  obtain ⟨o,⟨tm',h',dd'⟩,e0,e1,e2,e3⟩ := loopS_or (f := codeS seB (Eo O) (run (Eo O) n) ⟨249,18,.normal,none⟩) (I := fun j st => SeI h.next f (newCells h 311 (intsOf f 3600) false) j st) (N := 60)
    (P := fun o st => o = .exit 0 ∧ SeI h.next f (newCells h 311 (intsOf f 3600) false) 60 st)
    (fun j st hj hI => .inl (se_in hT hf j hj st hI)) (fun st hI => se_end st hI) 60 1000000 0 _ (by omega) (by omega) hin
  subst e2
  obtain ⟨hd,hh,r1,r4⟩ := e3
  simp only at hd hh r1 r4
  subst hd hh
  have bz : opBox 313 (some (.agg (.bool false :: intsOf f 3600).toArray)) (newCells h 311 (intsOf f 3600) false) = .ok (.value (.pointer (some ⟨h.next + 1,0,none⟩)),newCells (newCells h 311 (intsOf f 3600) false) 313 (.bool false :: intsOf f 3600) false) := by
    simp only [opBox,opNew,Value.cells]
    rfl
  unfold seB at e1
  simp only [Tryz.f249,cF,Option.getD,cA,cB,cI,codeS] at e1
  subst hk
  simp only [Tryz.f249,cF,Option.getD,cA,cB,cI,codeS,cSeq_run,cCond_run,cRegion_run,cRegion_draw,cBlock_run,cSkip_run,cRet_run,cExit_run,opsS_nil,opsS_run,opS_free,thenS_normal,thenS_ret,thenS_exit,exitBlock_normal,exitBlock_ret,exitBlock_exit,normalS_ok,dispatch,dMove,opMove,evT_tmp,evT_int,evT_bool,evT_func,dBin,lss_i64,gtr_i64,geq_i64,neq_i64,eql_i64',add_i64,valR,afterS_value,putT_some,putT_none,get_put,lim,Nat.reduceLT,Nat.reduceEqDiff,and_true,if_true,if_false,reduceIte,false_and,true_and,cLoop_run,Nat.beq,cond_true,cond_false,
      dIndexAddr,dFieldAddr,dNilCheck,dLoad,dStore,dCall,nilCheck_ptr,fa313x0,fa313x1,Option.bind_some,natOf_int,addrAdd_free,drawS_nil',drawS_cons',dstep_pure',dstep_reads',dstep_eff',simOp_run,outVal_val,readAgain_nil,readAgain_cons,valEq_int,callOut_value,callOut_enter,call_fn en203,call_min,evList,List.getElem?_toArray,List.getElem?_cons_succ,List.getElem?_cons_zero,List.drop_succ_cons,List.drop_zero,opS_guard,wantedS,dPick,pick_true,pick_false,Bool.and_self,Bool.true_and,hsum,bqa,bqb,bqc,bqd,dBox,dBuild,evParts,evT_nilptr,t0,bx,e1,r1,hT.all,build313 (intsOf_len f 3600),bz] at hr
  subst hr
  refine ⟨_,_,rfl,?_,box_zon (h := newCells h 311 (intsOf f 3600) false) (f := f) (by show h.next + 1 < lim; omega),rfl,fun e he => ?_⟩
  · simp [get_put,lim]
  · rw [new_other (by show e ≠ h.next + 1; omega),new_other (by omega)]

end Go.Proofs.YtgiompikfhhkmaaGreatDoor

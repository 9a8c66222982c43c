/- The simulator on Within. -/
import Derived.Test.YtgiompikfhhkmaaGreatDoorOrc2
set_option linter.unusedVariables false
set_option linter.unusedSimpArgs false
set_option linter.unusedSimpArgs false
set_option linter.unusedVariables false
namespace Go.Proofs.YtgiompikfhhkmaaGreatDoor
open Go Go.Sim
set_option maxRecDepth 100000
variable {O : Nat → Option (List Value → SHeap → Except String (Value × SHeap))} {ih : K} {ds : List Deferred}

noncomputable def wiOut : Code := cI (cI (cB (cA (cB (cB (cF Tryz.f149))))))
noncomputable def wiIn : Code := cI (cI (cB (cB (cI (cA (cB (cB wiOut)))))))
noncomputable def wiDraw : Code := cA (cB (cI (cA (cB (cB wiIn)))))

theorem E4 : (Eo O).T 4 = some ⟨.bool,1,Tab.t4.bytes,Tab.t4.zero⟩ := by show Tab.types.get 4 = _; kernel_rfl
theorem fa313x1 {a : Addr} {h : SHeap} : opFieldAddr (Eo O) ((Eo O).T 313) (some (.pointer (some a))) 1 h = .ok (.value (.pointer (some (addrAdd a 1))),h) := by kernel_rfl
theorem fa313x0 {a : Addr} {h : SHeap} : opFieldAddr (Eo O) ((Eo O).T 313) (some (.pointer (some a))) 0 h = .ok (.value (.pointer (some (addrAdd a 0))),h) := by kernel_rfl
theorem wi_plan : planOf (Eo O) (cOps wiDraw).toList = some ⟨[⟨0,.pure,0⟩,⟨1,.pure,0⟩,⟨2,.pure,0⟩,⟨3,.pure,0⟩,⟨4,.pure,0⟩,⟨5,.pure,0⟩,⟨6,.pure,0⟩,⟨7,.read,0⟩,⟨8,.pure,0⟩,⟨9,.pure,0⟩,⟨10,.pure,0⟩,⟨11,.pure,0⟩,⟨12,.pure,0⟩,⟨13,.pure,0⟩,⟨14,.pure,0⟩,⟨15,.read,0⟩],16,0⟩ := by kernel_rfl

structure WiI (h : SHeap) (b d i j : Nat) (st : St) : Prop where
  ds : st.defers = []
  h : st.h = h
  t0 : st.tm.get 0 = some (.pointer (some ⟨b,0,none⟩))
  t1 : st.tm.get 1 = some (.pointer (some ⟨d,0,none⟩))
  t21 : st.tm.get 21 = some (.int .i64 (.ofNat i))
  t5 : st.tm.get 5 = some (.int .i64 (.ofNat i))
  t24 : st.tm.get 24 = some (.int .i64 (.ofNat j))

/-- what is known of the two rows -/
structure WiH (h : SHeap) (b d : Nat) (l m : List Value) : Prop where
  next : h.next ≤ lim
  hb : ∃ c e o r,h.t.get b = some (.cells c 3601 e o r) ∧ ∀ k,k < 3600 → c.get (0 + 1 + k) = l[k]?
  hd : ∃ c e o r,h.t.get d = some (.cells c 3601 e o r) ∧ ∀ k,k < 3600 → c.get (0 + 1 + k) = m[k]?
  ll : l.length = 3600
  lm : m.length = 3600
  al : allI64 l = true
  am : allI64 m = true

def WiP (h : SHeap) (b d : Nat) (l m : List Value) (i : Nat) (o : Out) (st : St) : Prop :=
  st.defers = [] ∧ st.h = h ∧ ((o = .exit 2 ∧ WiI h b d i 60 st ∧ leAll2 l m = leAll2 (l.drop (i * 60 + 60)) (m.drop (i * 60 + 60))) ∨ (o = .ret ∧ leAll2 l m = false ∧ st.tm.get 4 = some (.bool false)))

theorem wi_in {h : SHeap} {b d : Nat} {l m : List Value} (hw : WiH h b d l m) (i j : Nat) (hi : i < 60) (hj : j < 60) (st : St) (hI : WiI h b d i j st ∧ leAll2 l m = leAll2 (l.drop (i * 60 + j)) (m.drop (i * 60 + j))) :
    (∃ st',codeS wiIn (Eo O) ih ⟨149,46,.normal,none⟩ st = .ok (.normal,st') ∧ WiI h b d i (j + 1) st' ∧ leAll2 l m = leAll2 (l.drop (i * 60 + (j + 1))) (m.drop (i * 60 + (j + 1)))) ∨
      ∃ o st',o ≠ .normal ∧ codeS wiIn (Eo O) ih ⟨149,46,.normal,none⟩ st = .ok (o,st') ∧ WiP h b d l m i o st' := by
  obtain ⟨tm,h,dd⟩ := st
  obtain ⟨⟨hd,rfl,h0,h1,h21,h5,h24⟩,hle⟩ := hI
  simp only at hd h0 h1 h21 h5 h24
  subst hd
  obtain ⟨hn,⟨cb,eb,ob,rb,hb,gb⟩,⟨cd,ed,od,rd,hdd,gd⟩,ll,lm,al,am⟩ := hw
  simp only at hn hb hdd
  have hk : i * 60 + j < 3600 := by omega
  obtain ⟨x,hx⟩ := allI64xget al (show i * 60 + j < l.length by omega)
  obtain ⟨y,hy⟩ := allI64xget am (show i * 60 + j < m.length by omega)
  have hj' : decide (Int.ofNat j < 60) = true := by simp; omega
  have hj2 : wrapF .i64 (Int.ofNat j + 1) = .ofNat (j + 1) := wrap_small (m := j + 1) (by omega)
  have ix : cb.get (0 + 1 + i * 60 + j) = some (.int .i64 x) := by rw [show 0 + 1 + i * 60 + j = 0 + 1 + (i * 60 + j) by omega,gb _ hk]; exact hx
  have iy : cd.get (0 + 1 + i * 60 + j) = some (.int .i64 y) := by rw [show 0 + 1 + i * 60 + j = 0 + 1 + (i * 60 + j) by omega,gd _ hk]; exact hy
  have st := leAll2xstep hx hy
  have lx := load_one (E := Eo O) E3 rfl hb ix
  have ly := load_one (E := Eo O) E3 rfl hdd iy
  generalize hr : codeS wiIn (Eo O) ih ⟨149,46,.normal,none⟩ ⟨tm,h,[]⟩ = r
  have pl := wi_plan (O := O)
  unfold wiDraw wiIn wiOut at pl
  unfold wiIn wiOut at hr
  simp only [Tryz.f149,cF,Option.getD,cA,cB,cI,cOps] at pl
  by_cases hxy : x > y
  · have hg : decide (x > y) = true := by simp; omega
    simp only [Tryz.f149,cF,Option.getD,cA,cB,cI,codeS,cSeq_run,cCond_run,cRegion_run,cRegion_draw,cBlock_run,cSkip_run,cRet_run,cExit_run,opsS_nil,opsS_run,opS_free,thenS_normal,thenS_ret,thenS_exit,exitBlock_normal,exitBlock_ret,exitBlock_exit,normalS_ok,dispatch,dMove,opMove,evT_tmp,evT_int,evT_bool,dBin,lss_i64,gtr_i64,add_i64,valR,afterS_value,putT_some,putT_none,get_put,lim,Nat.reduceLT,Nat.reduceEqDiff,and_true,if_true,if_false,reduceIte,false_and,true_and,cLoop_run,Nat.beq,cond_true,
      dIndexAddr,dFieldAddr,dNilCheck,dLoad,nilCheck_ptr,fa313x0,fa313x1,Option.bind_some,natOf_int,addrAdd_free,drawS_nil',drawS_cons',dstep_pure',dstep_read',simOp_run,outVal_val,List.getElem?_toArray,List.getElem?_cons_succ,List.getElem?_cons_zero,List.drop_succ_cons,List.drop_zero,
      bDraw_list pl hn,h0,h1,h5,h24,hj',hj2,ia311 hi,ia309 hj,lx,ly,hg] at hr
    subst hr
    refine .inr ⟨.ret,_,by simp,rfl,rfl,rfl,.inr ⟨rfl,?_,?_⟩⟩
    · rw [hle,st,show decide (x ≤ y) = false by simp; omega]; rfl
    · simp [get_put,lim]
  · have hg : decide (x > y) = false := by simp; omega
    simp only [Tryz.f149,cF,Option.getD,cA,cB,cI,codeS,cSeq_run,cCond_run,cRegion_run,cRegion_draw,cBlock_run,cSkip_run,cRet_run,cExit_run,opsS_nil,opsS_run,opS_free,thenS_normal,thenS_ret,thenS_exit,exitBlock_normal,exitBlock_ret,exitBlock_exit,normalS_ok,dispatch,dMove,opMove,evT_tmp,evT_int,evT_bool,dBin,lss_i64,gtr_i64,add_i64,valR,afterS_value,putT_some,putT_none,get_put,lim,Nat.reduceLT,Nat.reduceEqDiff,and_true,if_true,if_false,reduceIte,false_and,true_and,cLoop_run,Nat.beq,cond_true,
      dIndexAddr,dFieldAddr,dNilCheck,dLoad,nilCheck_ptr,fa313x0,fa313x1,Option.bind_some,natOf_int,addrAdd_free,drawS_nil',drawS_cons',dstep_pure',dstep_read',simOp_run,outVal_val,List.getElem?_toArray,List.getElem?_cons_succ,List.getElem?_cons_zero,List.drop_succ_cons,List.drop_zero,
      bDraw_list pl hn,h0,h1,h5,h24,hj',hj2,ia311 hi,ia309 hj,lx,ly,hg] at hr
    subst hr
    refine .inl ⟨_,rfl,?_,?_⟩
    · refine ⟨rfl,rfl,?_,?_,?_,?_,?_⟩
      · simp [get_put,lim,h0]
      · simp [get_put,lim,h1]
      · simp [get_put,lim,h21]
      · simp [get_put,lim,h5]
      · simp [get_put,lim]
    · rw [hle,st,show decide (x ≤ y) = true by simp; omega]; rfl

theorem wi_in_end {h : SHeap} {b d : Nat} {l m : List Value} (i : Nat) (st : St) (hI : WiI h b d i 60 st ∧ leAll2 l m = leAll2 (l.drop (i * 60 + 60)) (m.drop (i * 60 + 60))) :
    ∃ o st',o ≠ .normal ∧ codeS wiIn (Eo O) ih ⟨149,46,.normal,none⟩ st = .ok (o,st') ∧ WiP h b d l m i o st' := by
  obtain ⟨tm,h,dd⟩ := st
  obtain ⟨⟨hd,rfl,h0,h1,h21,h5,h24⟩,hle⟩ := hI
  simp only at hd h0 h1 h21 h5 h24
  subst hd
  have hj' : decide (Int.ofNat 60 < 60) = false := by decide
  generalize hr : codeS wiIn (Eo O) ih ⟨149,46,.normal,none⟩ ⟨tm,h,[]⟩ = r
  unfold wiIn wiOut at hr
  simp only [Tryz.f149,cF,Option.getD,cA,cB,cI,codeS,cSeq_run,cCond_run,cRegion_run,cRegion_draw,cBlock_run,cSkip_run,cRet_run,cExit_run,opsS_nil,opsS_run,opS_free,thenS_normal,thenS_ret,thenS_exit,exitBlock_normal,exitBlock_ret,exitBlock_exit,normalS_ok,dispatch,dMove,opMove,evT_tmp,evT_int,evT_bool,dBin,lss_i64,gtr_i64,add_i64,valR,afterS_value,putT_some,putT_none,get_put,lim,Nat.reduceLT,Nat.reduceEqDiff,and_true,if_true,if_false,reduceIte,false_and,true_and,cLoop_run,Nat.beq,cond_true,
      dIndexAddr,dFieldAddr,dNilCheck,dLoad,nilCheck_ptr,fa313x0,fa313x1,Option.bind_some,natOf_int,addrAdd_free,drawS_nil',drawS_cons',dstep_pure',dstep_read',simOp_run,outVal_val,List.getElem?_toArray,List.getElem?_cons_succ,List.getElem?_cons_zero,List.drop_succ_cons,List.drop_zero,h24,hj'] at hr
  subst hr
  refine ⟨.exit 2,_,by simp,rfl,rfl,rfl,.inl ⟨rfl,?_,hle⟩⟩
  refine ⟨rfl,rfl,?_,?_,?_,?_,?_⟩
  · simp [get_put,lim,h0]
  · simp [get_put,lim,h1]
  · simp [get_put,lim,h21]
  · simp [get_put,lim,h5]
  · simp [get_put,lim,h24]

structure WiJ (h : SHeap) (b d i : Nat) (st : St) : Prop where
  ds : st.defers = []
  h : st.h = h
  t0 : st.tm.get 0 = some (.pointer (some ⟨b,0,none⟩))
  t1 : st.tm.get 1 = some (.pointer (some ⟨d,0,none⟩))
  t21 : st.tm.get 21 = some (.int .i64 (.ofNat i))

def WiQ (h : SHeap) (b d : Nat) (l m : List Value) (o : Out) (st : St) : Prop :=
  st.defers = [] ∧ st.h = h ∧ ((o = .exit 0 ∧ leAll2 l m = true) ∨ (o = .ret ∧ leAll2 l m = false ∧ st.tm.get 4 = some (.bool false)))

theorem wi_out {h : SHeap} {b d : Nat} {l m : List Value} (hw : WiH h b d l m) (i : Nat) (hi : i < 60) (st : St) (hI : WiJ h b d i st ∧ leAll2 l m = leAll2 (l.drop (i * 60)) (m.drop (i * 60))) :
    (∃ st',codeS wiOut (Eo O) ih ⟨149,46,.normal,none⟩ st = .ok (.normal,st') ∧ WiJ h b d (i + 1) st' ∧ leAll2 l m = leAll2 (l.drop ((i + 1) * 60)) (m.drop ((i + 1) * 60))) ∨
      ∃ o st',o ≠ .normal ∧ codeS wiOut (Eo O) ih ⟨149,46,.normal,none⟩ st = .ok (o,st') ∧ WiQ h b d l m o st' := by
  obtain ⟨tm,h,dd⟩ := st
  obtain ⟨⟨hd,rfl,h0,h1,h21⟩,hle⟩ := hI
  simp only at hd h0 h1 h21
  subst hd
  have hj' : decide (Int.ofNat i < 60) = true := by simp; omega
  have hj2 : wrapF .i64 (Int.ofNat i + 1) = .ofNat (i + 1) := wrap_small (m := i + 1) (by omega)
  generalize hr : codeS wiOut (Eo O) ih ⟨149,46,.normal,none⟩ ⟨tm,h,[]⟩ = r
  have hin : WiI h b d i 0 ⟨((((tm.put 22 (some (.bool true))).put 23 (some (.int .i64 (.ofNat i)))).put 5 (some (.int .i64 (.ofNat i)))).put 24 (some (.int .i64 0))),h,[]⟩ := by
    refine ⟨rfl,rfl,?_,?_,?_,?_,?_⟩
    · simp [get_put,lim,h0]
    · simp [get_put,lim,h1]
    · simp [get_put,lim,h21]
    · simp [get_put,lim]
    · simp [get_put,lim]
  obtain ⟨o,⟨tm',h',dd'⟩,e0,e1,e2⟩ := loopS_or (f := codeS wiIn (Eo O) ih ⟨149,46,.normal,none⟩) (I := fun j st => WiI h b d i j st ∧ leAll2 l m = leAll2 (l.drop (i * 60 + j)) (m.drop (i * 60 + j))) (N := 60) (P := WiP h b d l m i)
    (fun j st hj hI => wi_in hw i j hi hj st hI) (fun st hI => wi_in_end i st hI) 60 1000000 0 _ (by omega) (by omega) ⟨hin,by simpa using hle⟩
  unfold wiIn wiOut at e1
  unfold wiOut at hr
  simp only [Tryz.f149,cF,Option.getD,cA,cB,cI,codeS] at e1
  obtain ⟨p1,p2,p3⟩ := e2
  simp only at p1 p2
  subst p1 p2
  rcases p3 with ⟨rfl,p4,p5⟩ | ⟨rfl,p4,p5⟩
  · obtain ⟨_,_,q0,q1,q2,_,_⟩ := p4
    simp only at q0 q1 q2
    simp only [Tryz.f149,cF,Option.getD,cA,cB,cI,codeS,cSeq_run,cCond_run,cRegion_run,cRegion_draw,cBlock_run,cSkip_run,cRet_run,cExit_run,opsS_nil,opsS_run,opS_free,thenS_normal,thenS_ret,thenS_exit,exitBlock_normal,exitBlock_ret,exitBlock_exit,normalS_ok,dispatch,dMove,opMove,evT_tmp,evT_int,evT_bool,dBin,lss_i64,gtr_i64,add_i64,valR,afterS_value,putT_some,putT_none,get_put,lim,Nat.reduceLT,Nat.reduceEqDiff,and_true,if_true,if_false,reduceIte,false_and,true_and,cLoop_run,Nat.beq,cond_true,
      dIndexAddr,dFieldAddr,dNilCheck,dLoad,nilCheck_ptr,fa313x0,fa313x1,Option.bind_some,natOf_int,addrAdd_free,drawS_nil',drawS_cons',dstep_pure',dstep_read',simOp_run,outVal_val,List.getElem?_toArray,List.getElem?_cons_succ,List.getElem?_cons_zero,List.drop_succ_cons,List.drop_zero,h21,hj',hj2,e1,q2] at hr
    subst hr
    refine .inl ⟨_,rfl,?_,?_⟩
    · refine ⟨rfl,rfl,?_,?_,?_⟩
      · simp [get_put,lim,q0]
      · simp [get_put,lim,q1]
      · simp [get_put,lim]
    · rw [p5,show (i + 1) * 60 = i * 60 + 60 by omega]
  · simp only at p5
    simp only [Tryz.f149,cF,Option.getD,cA,cB,cI,codeS,cSeq_run,cCond_run,cRegion_run,cRegion_draw,cBlock_run,cSkip_run,cRet_run,cExit_run,opsS_nil,opsS_run,opS_free,thenS_normal,thenS_ret,thenS_exit,exitBlock_normal,exitBlock_ret,exitBlock_exit,normalS_ok,dispatch,dMove,opMove,evT_tmp,evT_int,evT_bool,dBin,lss_i64,gtr_i64,add_i64,valR,afterS_value,putT_some,putT_none,get_put,lim,Nat.reduceLT,Nat.reduceEqDiff,and_true,if_true,if_false,reduceIte,false_and,true_and,cLoop_run,Nat.beq,cond_true,
      dIndexAddr,dFieldAddr,dNilCheck,dLoad,nilCheck_ptr,fa313x0,fa313x1,Option.bind_some,natOf_int,addrAdd_free,drawS_nil',drawS_cons',dstep_pure',dstep_read',simOp_run,outVal_val,List.getElem?_toArray,List.getElem?_cons_succ,List.getElem?_cons_zero,List.drop_succ_cons,List.drop_zero,h21,hj',hj2,e1] at hr
    subst hr
    exact .inr ⟨.ret,_,by simp,rfl,rfl,rfl,.inr ⟨rfl,p4,p5⟩⟩

theorem wi_out_end {h : SHeap} {b d : Nat} {l m : List Value} (hw : WiH h b d l m) (st : St) (hI : WiJ h b d 60 st ∧ leAll2 l m = leAll2 (l.drop (60 * 60)) (m.drop (60 * 60))) :
    ∃ o st',o ≠ .normal ∧ codeS wiOut (Eo O) ih ⟨149,46,.normal,none⟩ st = .ok (o,st') ∧ WiQ h b d l m o st' := by
  obtain ⟨tm,h,dd⟩ := st
  obtain ⟨⟨hd,rfl,h0,h1,h21⟩,hle⟩ := hI
  simp only at hd h0 h1 h21
  subst hd
  have hj' : decide (Int.ofNat 60 < 60) = false := by decide
  generalize hr : codeS wiOut (Eo O) ih ⟨149,46,.normal,none⟩ ⟨tm,h,[]⟩ = r
  unfold wiOut at hr
  simp only [Tryz.f149,cF,Option.getD,cA,cB,cI,codeS,cSeq_run,cCond_run,cRegion_run,cRegion_draw,cBlock_run,cSkip_run,cRet_run,cExit_run,opsS_nil,opsS_run,opS_free,thenS_normal,thenS_ret,thenS_exit,exitBlock_normal,exitBlock_ret,exitBlock_exit,normalS_ok,dispatch,dMove,opMove,evT_tmp,evT_int,evT_bool,dBin,lss_i64,gtr_i64,add_i64,valR,afterS_value,putT_some,putT_none,get_put,lim,Nat.reduceLT,Nat.reduceEqDiff,and_true,if_true,if_false,reduceIte,false_and,true_and,cLoop_run,Nat.beq,cond_true,
      dIndexAddr,dFieldAddr,dNilCheck,dLoad,nilCheck_ptr,fa313x0,fa313x1,Option.bind_some,natOf_int,addrAdd_free,drawS_nil',drawS_cons',dstep_pure',dstep_read',simOp_run,outVal_val,List.getElem?_toArray,List.getElem?_cons_succ,List.getElem?_cons_zero,List.drop_succ_cons,List.drop_zero,h21,hj'] at hr
  subst hr
  refine ⟨.exit 0,_,by simp,rfl,rfl,rfl,.inl ⟨rfl,?_⟩⟩
  rw [hle,List.drop_of_length_le (by have := hw.ll; omega),List.drop_of_length_le (by have := hw.lm; omega)]
  rfl

theorem wi_code {h : SHeap} {b d : Nat} {l m : List Value} {e e' : Bool} (hw : WiH h b d l m) (he : ∃ c q o r,h.t.get b = some (.cells c 3601 q o r) ∧ c.get (0 + 0) = some (.bool e)) (he' : ∃ c q o r,h.t.get d = some (.cells c 3601 q o r) ∧ c.get (0 + 0) = some (.bool e'))
    {tm : Tr Value} (h0 : tm.get 0 = some (.pointer (some ⟨b,0,none⟩))) (h1 : tm.get 1 = some (.pointer (some ⟨d,0,none⟩))) :
    ∃ tm',codeS (cF Tryz.f149) (Eo O) ih ⟨149,46,.normal,none⟩ ⟨tm,h,[]⟩ = .ok (.ret,⟨tm',h,[]⟩) ∧ tm'.get 4 = some (.bool (bif e then true else bif e' then false else leAll2 l m)) := by
  obtain ⟨c1,q1,o1,r1,g1,g2⟩ := he
  obtain ⟨c2,q2,o2,r2,g3,g4⟩ := he'
  have lx := load_one (E := Eo O) E4 rfl g1 g2
  have ly := load_one (E := Eo O) E4 rfl g3 g4
  generalize hr : codeS (cF Tryz.f149) (Eo O) ih ⟨149,46,.normal,none⟩ ⟨tm,h,[]⟩ = r
  cases e with
  | true =>
    simp only [Tryz.f149,cF,Option.getD,cA,cB,cI,codeS,cSeq_run,cCond_run,cRegion_run,cRegion_draw,cBlock_run,cSkip_run,cRet_run,cExit_run,opsS_nil,opsS_run,opS_free,thenS_normal,thenS_ret,thenS_exit,exitBlock_normal,exitBlock_ret,exitBlock_exit,normalS_ok,dispatch,dMove,opMove,evT_tmp,evT_int,evT_bool,dBin,lss_i64,gtr_i64,add_i64,valR,afterS_value,putT_some,putT_none,get_put,lim,Nat.reduceLT,Nat.reduceEqDiff,and_true,if_true,if_false,reduceIte,false_and,true_and,cLoop_run,Nat.beq,cond_true,
      dIndexAddr,dFieldAddr,dNilCheck,dLoad,nilCheck_ptr,fa313x0,fa313x1,Option.bind_some,natOf_int,addrAdd_free,drawS_nil',drawS_cons',dstep_pure',dstep_read',simOp_run,outVal_val,List.getElem?_toArray,List.getElem?_cons_succ,List.getElem?_cons_zero,List.drop_succ_cons,List.drop_zero,opS_guard,wantedS,Option.bind_some,dPick,pick_true,pick_false,h0,h1,lx,ly,show (true == false) = false from rfl] at hr
    subst hr
    exact ⟨_,rfl,by simp [get_put,lim]⟩
  | false =>
    cases e' with
    | true =>
      simp only [Tryz.f149,cF,Option.getD,cA,cB,cI,codeS,cSeq_run,cCond_run,cRegion_run,cRegion_draw,cBlock_run,cSkip_run,cRet_run,cExit_run,opsS_nil,opsS_run,opS_free,thenS_normal,thenS_ret,thenS_exit,exitBlock_normal,exitBlock_ret,exitBlock_exit,normalS_ok,dispatch,dMove,opMove,evT_tmp,evT_int,evT_bool,dBin,lss_i64,gtr_i64,add_i64,valR,afterS_value,putT_some,putT_none,get_put,lim,Nat.reduceLT,Nat.reduceEqDiff,and_true,if_true,if_false,reduceIte,false_and,true_and,cLoop_run,Nat.beq,cond_true,
      dIndexAddr,dFieldAddr,dNilCheck,dLoad,nilCheck_ptr,fa313x0,fa313x1,Option.bind_some,natOf_int,addrAdd_free,drawS_nil',drawS_cons',dstep_pure',dstep_read',simOp_run,outVal_val,List.getElem?_toArray,List.getElem?_cons_succ,List.getElem?_cons_zero,List.drop_succ_cons,List.drop_zero,opS_guard,wantedS,Option.bind_some,dPick,pick_true,pick_false,h0,h1,lx,ly,show (false == false) = true from rfl] at hr
      subst hr
      exact ⟨_,rfl,by simp [get_put,lim]⟩
    | false =>
      obtain ⟨tmk,hk⟩ : ∃ tmk,tmk = (((((((((((((tm.put 4 (some (.bool false))).put 7 (some (.pointer (some ⟨b,0,none⟩)))).put 8 (some (.pointer (some ⟨b,0,none⟩)))).put 9 (some (.pointer (some ⟨b,0 + 0,none⟩)))).put 10 (some (.bool false))).put 11 (some (.bool false))).put 12 (some (.pointer (some ⟨d,0,none⟩)))).put 13 (some (.pointer (some ⟨d,0,none⟩)))).put 14 (some (.pointer (some ⟨d,0 + 0,none⟩)))).put 15 (some (.bool false))).put 16 (some (.bool false))).put 21 (some (.int .i64 0)))) := ⟨_,rfl⟩
      have hin : WiJ h b d 0 ⟨tmk,h,[]⟩ := by
        subst hk
        refine ⟨rfl,rfl,?_,?_,?_⟩
        · simp [get_put,lim,h0]
        · simp [get_put,lim,h1]
        · simp [get_put,lim]
      obtain ⟨o,⟨tm',h',dd'⟩,e0,e1,e2⟩ := loopS_or (f := codeS wiOut (Eo O) ih ⟨149,46,.normal,none⟩) (I := fun j st => WiJ h b d j st ∧ leAll2 l m = leAll2 (l.drop (j * 60)) (m.drop (j * 60))) (N := 60) (P := WiQ h b d l m)
        (fun j st hj hI => wi_out hw j hj st hI) (fun st hI => wi_out_end hw st hI) 60 1000000 0 _ (by omega) (by omega) ⟨hin,by simp⟩
      unfold wiOut at e1
      simp only [Tryz.f149,cF,Option.getD,cA,cB,cI,codeS] at e1
      subst hk
      obtain ⟨p1,p2,p3⟩ := e2
      simp only at p1 p2
      subst p1 p2
      rcases p3 with ⟨rfl,p4⟩ | ⟨rfl,p4,p5⟩
      · simp only [Tryz.f149,cF,Option.getD,cA,cB,cI,codeS,cSeq_run,cCond_run,cRegion_run,cRegion_draw,cBlock_run,cSkip_run,cRet_run,cExit_run,opsS_nil,opsS_run,opS_free,thenS_normal,thenS_ret,thenS_exit,exitBlock_normal,exitBlock_ret,exitBlock_exit,normalS_ok,dispatch,dMove,opMove,evT_tmp,evT_int,evT_bool,dBin,lss_i64,gtr_i64,add_i64,valR,afterS_value,putT_some,putT_none,get_put,lim,Nat.reduceLT,Nat.reduceEqDiff,and_true,if_true,if_false,reduceIte,false_and,true_and,cLoop_run,Nat.beq,cond_true,
      dIndexAddr,dFieldAddr,dNilCheck,dLoad,nilCheck_ptr,fa313x0,fa313x1,Option.bind_some,natOf_int,addrAdd_free,drawS_nil',drawS_cons',dstep_pure',dstep_read',simOp_run,outVal_val,List.getElem?_toArray,List.getElem?_cons_succ,List.getElem?_cons_zero,List.drop_succ_cons,List.drop_zero,opS_guard,wantedS,Option.bind_some,dPick,pick_true,pick_false,h0,h1,lx,ly,show (false == false) = true from rfl,e1] at hr
        subst hr
        exact ⟨_,rfl,by simp [get_put,lim,p4]⟩
      · simp only at p5
        simp only [Tryz.f149,cF,Option.getD,cA,cB,cI,codeS,cSeq_run,cCond_run,cRegion_run,cRegion_draw,cBlock_run,cSkip_run,cRet_run,cExit_run,opsS_nil,opsS_run,opS_free,thenS_normal,thenS_ret,thenS_exit,exitBlock_normal,exitBlock_ret,exitBlock_exit,normalS_ok,dispatch,dMove,opMove,evT_tmp,evT_int,evT_bool,dBin,lss_i64,gtr_i64,add_i64,valR,afterS_value,putT_some,putT_none,get_put,lim,Nat.reduceLT,Nat.reduceEqDiff,and_true,if_true,if_false,reduceIte,false_and,true_and,cLoop_run,Nat.beq,cond_true,
      dIndexAddr,dFieldAddr,dNilCheck,dLoad,nilCheck_ptr,fa313x0,fa313x1,Option.bind_some,natOf_int,addrAdd_free,drawS_nil',drawS_cons',dstep_pure',dstep_read',simOp_run,outVal_val,List.getElem?_toArray,List.getElem?_cons_succ,List.getElem?_cons_zero,List.drop_succ_cons,List.drop_zero,opS_guard,wantedS,Option.bind_some,dPick,pick_true,pick_false,h0,h1,lx,ly,show (false == false) = true from rfl,e1] at hr
        subst hr
        exact ⟨_,rfl,by simp [p4,p5]⟩

theorem toL_row {c : Tr Value} {e : Bool} {l : List Value} (h : c.toL 32 3601 = some (.bool e :: l)) : c.get (0 + 0) = some (.bool e) ∧ l.length = 3600 ∧ ∀ k,k < 3600 → c.get (0 + 1 + k) = l[k]? := by
  obtain ⟨h1,h2⟩ := toL_get h
  refine ⟨?_,by simpa using h1,fun k hk => ?_⟩
  · rw [← h2 0 (by omega) (by unfold lim; omega)]; rfl
  · have := h2 (k + 1) (by omega) (by unfold lim; omega)
    rw [show 0 + 1 + k = k + 1 by omega,← this]
    simp

theorem body149 : Tryz.f149.body = some (cF Tryz.f149) := rfl
theorem fn149 : (Eo O).F 149 = some Tryz.f149 := by show Tab.funcs.get 149 = _; kernel_rfl
theorem nt149 {a b : Value} : max Tryz.f149.ntmps (#[a,b] : Array Value).size = 46 := rfl
theorem res149 : Tryz.f149.results.toList = [.tmp 4] := rfl

theorem within_run {n : Nat} (hO : O 149 = none) {args : Array Value} {h h' : SHeap} {v : Value} (hok : withinQ args.toList h = .ok (v,h')) : run (Eo O) (n + 1) (.call 149 args .normal) h = .ok (v,h') := by
  unfold withinQ at hok
  split at hok
  · rename_i b d hargs
    unfold withinB at hok
    split at hok
    · rename_i c n1 q1 o1 r1 hb
      split at hok
      · rename_i c' n2 q2 o2 r2 hd
        cases hc : (Nat.beq n1 3601 && Nat.beq n2 3601 && Nat.ble h.next lim) with
        | false => rw [hc] at hok; simp at hok
        | true =>
          rw [hc,cond_true] at hok
          simp only [Bool.and_eq_true] at hc
          obtain ⟨⟨x1,x2⟩,x3⟩ := hc
          obtain rfl := Nat.eq_of_beq_eq_true x1
          obtain rfl := Nat.eq_of_beq_eq_true x2
          have x3 := Nat.le_of_ble_eq_true x3
          unfold withinA at hok
          split at hok
          · rename_i e l hl
            split at hok
            · rename_i e' l' hl'
              cases ha : (allI64 l && allI64 l') with
              | false => rw [ha] at hok; simp at hok
              | true =>
                rw [ha,cond_true] at hok
                simp only [Except.ok.injEq,Prod.mk.injEq] at hok
                obtain ⟨rfl,rfl⟩ := hok
                simp only [Bool.and_eq_true] at ha
                obtain ⟨y1,y2,y3⟩ := toL_row hl
                obtain ⟨z1,z2,z3⟩ := toL_row hl'
                have harr : args = #[.pointer (some ⟨b,0,none⟩),.pointer (some ⟨d,0,none⟩)] := Array.toList_inj.1 hargs
                subst harr
                obtain ⟨tm',k1,k2⟩ := wi_code (O := O) (ih := run (Eo O) n) (e := e) (e' := e') ⟨x3,⟨c,q1,o1,r1,hb,y3⟩,⟨c',q2,o2,r2,hd,z3⟩,y2,z2,ha.1,ha.2⟩ ⟨c,q1,o1,r1,hb,y1⟩ ⟨c',q2,o2,r2,hd,z1⟩
                  (tm := Tr.ofL 33 [.pointer (some ⟨b,0,none⟩),.pointer (some ⟨d,0,none⟩)]) rfl rfl
                refine (run_call (show (Eo O).O 149 = none from hO)).trans (enterS_ret (vs := [_]) fn149 body149 nt149 rfl res149 k1 ?_)
                simp only [resultsS,k2,need]
            · simp at hok
          · simp at hok
      · simp at hok
    · simp at hok
  · simp at hok

theorem within_ok (KE : EnvOK (Eo O)) (hdraw : DrawOK (Eo O)) (hOK : ∀ f g,(Eo O).O f = some g → OrcOK (Eo O) f g) (hO : O 149 = none) : OrcOK (Eo O) 149 withinQ :=
  orc_of_run (run_ok KE hdraw hOK 1) fun args h v h' _ hok => ⟨h',within_run hO hok,rfl,fun _ o h => ⟨o,h,ObjLe.refl o⟩⟩

end Go.Proofs.YtgiompikfhhkmaaGreatDoor

/- The simulator on zone.isVar and zone.Bound. (Written by genbq.py.) -/
import Derived.Test.YtgiompikfhhkmaaGreatDoorPutB
import Derived.Test.YtgiompikfhhkmaaGreatDoorQA
set_option linter.unusedVariables false
set_option linter.unusedSimpArgs false
set_option linter.unusedSimpArgs false
set_option linter.unusedVariables false
namespace Go.Proofs.YtgiompikfhhkmaaGreatDoor
open Go Go.Sim
set_option maxRecDepth 100000
set_option maxHeartbeats 1000000
variable {O : Nat → Option (List Value → SHeap → Except String (Value × SHeap))} {ih : K}

theorem body162 : Tryz.f162.body = some (cF Tryz.f162) := rfl
theorem fn162 : (Eo O).F 162 = some Tryz.f162 := by show Tab.funcs.get 162 = _; kernel_rfl
theorem nt162 {a : Value} : max Tryz.f162.ntmps (#[a] : Array Value).size = 9 := rfl
theorem res162 : Tryz.f162.results.toList = [.tmp 2] := rfl
theorem isVar_run {n : Nat} (hO : O 162 = none) (x : Nat) (hx : x < 60) (h : SHeap) : run (Eo O) (n + 1) (.call 162 #[.int .i64 (.ofNat x)] .normal) h = .ok (.bool true,h) := by
  suffices hcc : ∃ tm',codeS (cF Tryz.f162) (Eo O) (run (Eo O) n) ⟨162,9,.normal,none⟩ ⟨Tr.ofL 33 [.int .i64 (.ofNat x)],h,[]⟩ = .ok (.ret,⟨tm',h,[]⟩) ∧ tm'.get 2 = some (.bool true) by
    obtain ⟨tm',k1,k2⟩ := hcc
    exact (run_call (show (Eo O).O 162 = none from hO)).trans (enterS_ret (vs := [_]) fn162 body162 nt162 rfl res162 k1 (by simp only [resultsS,k2,need]))
  generalize hr : codeS (cF Tryz.f162) (Eo O) (run (Eo O) n) ⟨162,9,.normal,none⟩ ⟨Tr.ofL 33 [.int .i64 (.ofNat x)],h,[]⟩ = r
  have t0 : (Tr.ofL 33 [Value.int .i64 (.ofNat x)]).get 0 = some (.int .i64 (.ofNat x)) := rfl
  generalize Tr.ofL 33 [Value.int .i64 (.ofNat x)] = tm at hr t0
  have e1 : decide (Int.ofNat x ≥ 0) = true := by simp
  have e2 : decide (Int.ofNat x < 60) = true := by simp; omega
  simp only [Tryz.f162,cF,Option.getD,cA,cB,cI,codeS,cSeq_run,cCond_run,cRegion_run,cRegion_draw,cBlock_run,cSkip_run,cRet_run,cExit_run,opsS_nil,opsS_run,opS_free,thenS_normal,thenS_ret,thenS_exit,exitBlock_normal,exitBlock_ret,exitBlock_exit,normalS_ok,dispatch,dMove,opMove,evT_tmp,evT_int,evT_bool,evT_func,dBin,lss_i64,gtr_i64,geq_i64,neq_i64,eql_i64',add_i64,valR,afterS_value,putT_some,putT_none,get_put,lim,Nat.reduceLT,Nat.reduceEqDiff,and_true,if_true,if_false,reduceIte,false_and,true_and,cLoop_run,Nat.beq,cond_true,cond_false,
      dIndexAddr,dFieldAddr,dNilCheck,dLoad,dStore,dCall,nilCheck_ptr,fa313x0,fa313x1,Option.bind_some,natOf_int,addrAdd_free,drawS_nil',drawS_cons',dstep_pure',dstep_reads',dstep_eff',simOp_run,outVal_val,readAgain_nil,readAgain_cons,valEq_int,callOut_value,callOut_enter,call_min,evList,List.getElem?_toArray,List.getElem?_cons_succ,List.getElem?_cons_zero,List.drop_succ_cons,List.drop_zero,opS_guard,wantedS,dPick,pick_true,pick_false,Bool.and_self,Bool.true_and,bqa,bqb,bqc,bqd,t0,e1,e2] at hr
  subst hr
  exact ⟨_,rfl,by simp [get_put,lim]⟩

theorem body83 : Tryz.f83.body = some (cF Tryz.f83) := rfl
theorem fn83 : (Eo O).F 83 = some Tryz.f83 := by show Tab.funcs.get 83 = _; kernel_rfl
theorem nt83 {a b c : Value} : max Tryz.f83.ntmps (#[a,b,c] : Array Value).size = 42 := rfl
theorem res83 : Tryz.f83.results.toList = [.cell 6 218] := rfl
theorem en162 : EntersS (Eo O) 162 := fun _ _ => by kernel_rfl
theorem bld218x0 {h : SHeap} : opBuild (Eo O) ((Eo O).T 218) (some []) h = .ok (.value (.agg #[.bool false,.int .i64 0]),h) := by kernel_rfl
theorem bld218x1 {v : Int} {h : SHeap} : opBuild (Eo O) ((Eo O).T 218) (some [(0,.bool true),(1,.int .i64 v)]) h = .ok (.value (.agg #[.bool true,.int .i64 v]),h) := by kernel_rfl
theorem isNone_eq {v : Int} : isNone61 v = (v == 2305843009213693952) := by
  unfold isNone61
  cases v with
  | ofNat m =>
    simp only
    cases e : Nat.beq m 2305843009213693952 with
    | true => rw [Nat.eq_of_beq_eq_true e]; rfl
    | false =>
      have : m ≠ 2305843009213693952 := fun q => by rw [q] at e; simp at e
      symm
      rw [beq_eq_false_iff_ne]
      intro q
      exact this (by simpa using Int.ofNat.inj (q.trans (show (2305843009213693952 : Int) = Int.ofNat 2305843009213693952 from rfl)))
  | negSucc m => rfl
theorem bound_run {n : Nat} (hO : O 83 = none) (hO2 : O 162 = none) {b x y c1 e : Nat} {o r : Bool} {c : Tr Value} {v : Int} {h : SHeap} (hz : h.t.get b = some (.cells c c1 e o r)) (hb : b < h.next) (hn : h.next < lim) (hx : x < 60) (hy : y < 60)
    (z0 : c.get 0 = some (.bool false)) (zk : c.get (1 + (x * 60 + y)) = some (.int .i64 v)) :
    ∃ h2,run (Eo O) (n + 2) (.call 83 #[.pointer (some ⟨b,0,none⟩),.int .i64 (.ofNat x),.int .i64 (.ofNat y)] .normal) h = .ok (bndV v,h2) ∧ h2.next = h.next + 1 ∧ ∀ d,d ≠ h.next → h2.t.get d = h.t.get d := by
  suffices hcc : ∃ tm' h2,codeS (cF Tryz.f83) (Eo O) (run (Eo O) (n + 1)) ⟨83,42,.normal,none⟩ ⟨Tr.ofL 33 [.pointer (some ⟨b,0,none⟩),.int .i64 (.ofNat x),.int .i64 (.ofNat y)],h,[]⟩ = .ok (.ret,⟨tm',h2,[]⟩) ∧ tm'.get 6 = some (.pointer (some ⟨h.next,0,none⟩)) ∧
      loadAt (Eo O) h2 218 ⟨h.next,0,none⟩ = .ok (bndV v) ∧ h2.next = h.next + 1 ∧ ∀ d,d ≠ h.next → h2.t.get d = h.t.get d by
    obtain ⟨tm',h2,k1,k2,k3,k4,k5⟩ := hcc
    exact ⟨h2,(run_call (show (Eo O).O 83 = none from hO)).trans (enterS_ret (vs := [bndV v]) fn83 body83 nt83 rfl res83 k1 (by simp only [resultsS,k2,k3])),k4,k5⟩
  have hv : ∀ (i : Nat) (h : SHeap),i < 60 → run (Eo O) (n + 1) (.call 162 #[.int .i64 (.ofNat i)] .normal) h = .ok (.bool true,h) := fun i h hi => isVar_run hO2 i hi h
  have v1 := fun h => hv x h hx
  have v2 := fun h => hv y h hy
  generalize run (Eo O) (n + 1) = ih at v1 v2 ⊢
  generalize hr : codeS (cF Tryz.f83) (Eo O) ih ⟨83,42,.normal,none⟩ ⟨Tr.ofL 33 [.pointer (some ⟨b,0,none⟩),.int .i64 (.ofNat x),.int .i64 (.ofNat y)],h,[]⟩ = q
  have t0 : (Tr.ofL 33 [Value.pointer (some ⟨b,0,none⟩),.int .i64 (.ofNat x),.int .i64 (.ofNat y)]).get 0 = some (.pointer (some ⟨b,0,none⟩)) := rfl
  have t1 : (Tr.ofL 33 [Value.pointer (some ⟨b,0,none⟩),.int .i64 (.ofNat x),.int .i64 (.ofNat y)]).get 1 = some (.int .i64 (.ofNat x)) := rfl
  have t2 : (Tr.ofL 33 [Value.pointer (some ⟨b,0,none⟩),.int .i64 (.ofNat x),.int .i64 (.ofNat y)]).get 2 = some (.int .i64 (.ofNat y)) := rfl
  generalize Tr.ofL 33 [Value.pointer (some ⟨b,0,none⟩),.int .i64 (.ofNat x),.int .i64 (.ofNat y)] = tm at hr t0 t1 t2
  have hz' : (newCells h 218 [.bool false,.int .i64 0] false).t.get b = some (.cells c c1 e o r) := (new_other (by omega)).trans hz
  have l0 := load_one (E := Eo O) (k := 0 + 0) E4 rfl hz' z0
  have lk := load_one (E := Eo O) (k := 0 + 1 + x * 60 + y) E3 rfl hz' (by rw [show 0 + 1 + x * 60 + y = 1 + (x * 60 + y) by omega]; exact zk)
  have ld : ∀ (h2 : SHeap) (is : Bool) (w : Int),(∃ t,h2.t.get h.next = some (.cells t 2 218 false false) ∧ t.get 0 = some (.bool is) ∧ t.get 1 = some (.int .i64 w)) → loadAt (Eo O) h2 218 ⟨h.next,0,none⟩ = .ok (.agg #[.bool is,.int .i64 w]) := by
    intro h2 is w ⟨t,a0,a1,a2⟩
    unfold loadAt
    simp only [E218,a0]
    rw [if_pos agg218]
    have : range t 2 0 2 = some [.bool is,.int .i64 w] := by
      unfold range
      rw [show Nat.ble 2 12 = true from rfl,cond_true]
      simp only [Tr.toListFrom,a1,a2,forceN_eq]
    simp only [this]
  cases hc : (v == 2305843009213693952) with
  | true =>
    obtain ⟨h1,s1,a,nx1,o1⟩ := alst (O := O) (h := h) hn false 0
    simp only [Tryz.f83,cF,Option.getD,cA,cB,cI,codeS,cSeq_run,cCond_run,cRegion_run,cRegion_draw,cBlock_run,cSkip_run,cRet_run,cExit_run,opsS_nil,opsS_run,opS_free,thenS_normal,thenS_ret,thenS_exit,exitBlock_normal,exitBlock_ret,exitBlock_exit,normalS_ok,dispatch,dMove,opMove,evT_tmp,evT_int,evT_bool,evT_func,dBin,lss_i64,gtr_i64,geq_i64,neq_i64,eql_i64',add_i64,valR,afterS_value,putT_some,putT_none,get_put,lim,Nat.reduceLT,Nat.reduceEqDiff,and_true,if_true,if_false,reduceIte,false_and,true_and,cLoop_run,Nat.beq,cond_true,cond_false,
      dIndexAddr,dFieldAddr,dNilCheck,dLoad,dStore,dCall,nilCheck_ptr,fa313x0,fa313x1,Option.bind_some,natOf_int,addrAdd_free,drawS_nil',drawS_cons',dstep_pure',dstep_reads',dstep_eff',simOp_run,outVal_val,readAgain_nil,readAgain_cons,valEq_int,callOut_value,callOut_enter,call_min,evList,List.getElem?_toArray,List.getElem?_cons_succ,List.getElem?_cons_zero,List.drop_succ_cons,List.drop_zero,opS_guard,wantedS,dPick,pick_true,pick_false,Bool.and_self,Bool.true_and,bqa,bqb,bqc,bqd,dAlloc,dUn,not_b,dBuild,evParts,bld218x0,afterS_enter,call_fn en162,ia311 hx,ia309 hy,v1,v2,alc218,s1,l0,lk,hc,t0,t1,t2] at hr
    subst hr
    refine ⟨_,h1,rfl,?_,?_,nx1,o1⟩
    · simp [get_put,lim]
    · rw [ld h1 _ _ a]
      unfold bndV
      rw [isNone_eq,hc]
      rfl
  | false =>
    obtain ⟨h1,s1,a,nx1,o1⟩ := alst (O := O) (h := h) hn true v
    simp only [Tryz.f83,cF,Option.getD,cA,cB,cI,codeS,cSeq_run,cCond_run,cRegion_run,cRegion_draw,cBlock_run,cSkip_run,cRet_run,cExit_run,opsS_nil,opsS_run,opS_free,thenS_normal,thenS_ret,thenS_exit,exitBlock_normal,exitBlock_ret,exitBlock_exit,normalS_ok,dispatch,dMove,opMove,evT_tmp,evT_int,evT_bool,evT_func,dBin,lss_i64,gtr_i64,geq_i64,neq_i64,eql_i64',add_i64,valR,afterS_value,putT_some,putT_none,get_put,lim,Nat.reduceLT,Nat.reduceEqDiff,and_true,if_true,if_false,reduceIte,false_and,true_and,cLoop_run,Nat.beq,cond_true,cond_false,
      dIndexAddr,dFieldAddr,dNilCheck,dLoad,dStore,dCall,nilCheck_ptr,fa313x0,fa313x1,Option.bind_some,natOf_int,addrAdd_free,drawS_nil',drawS_cons',dstep_pure',dstep_reads',dstep_eff',simOp_run,outVal_val,readAgain_nil,readAgain_cons,valEq_int,callOut_value,callOut_enter,call_min,evList,List.getElem?_toArray,List.getElem?_cons_succ,List.getElem?_cons_zero,List.drop_succ_cons,List.drop_zero,opS_guard,wantedS,dPick,pick_true,pick_false,Bool.and_self,Bool.true_and,bqa,bqb,bqc,bqd,dAlloc,dUn,not_b,dBuild,evParts,bld218x1,afterS_enter,call_fn en162,ia311 hx,ia309 hy,v1,v2,alc218,s1,l0,lk,hc,t0,t1,t2] at hr
    subst hr
    refine ⟨_,h1,rfl,?_,?_,nx1,o1⟩
    · simp [get_put,lim]
    · rw [ld h1 _ _ a]
      unfold bndV
      rw [isNone_eq,hc]
      rfl

theorem bound_ok (KE : EnvOK (Eo O)) (hdraw : DrawOK (Eo O)) (hOK : ∀ f g,(Eo O).O f = some g → OrcOK (Eo O) f g) (hO : O 83 = none) (hO2 : O 162 = none) : OrcOK (Eo O) 83 boundQ :=
  orc_of_run (run_ok KE hdraw hOK 2) fun args h v h' hlow hok => by
    obtain ⟨l⟩ := args
    unfold boundQ at hok
    split at hok
    · rename_i b x y e
      have e : l = [.pointer (some ⟨b,0,none⟩),.int .i64 (.ofNat x),.int .i64 (.ofNat y)] := e
      subst e
      unfold bndB at hok
      split at hok
      · rename_i c n e o r hz
        cases hc : Nat.beq n 3601 && Nat.blt x 60 && Nat.blt y 60 && Nat.blt h.next lim with
        | false => rw [hc] at hok; simp at hok
        | true =>
          rw [hc,cond_true] at hok
          simp only [Bool.and_eq_true] at hc
          obtain ⟨⟨⟨_,f1⟩,f2⟩,f3⟩ := hc
          have f1 := of_blt f1
          have f2 := of_blt f2
          have f3 := of_blt f3
          split at hok
          · rename_i z0
            split at hok
            · rename_i u zk
              obtain ⟨rfl,rfl⟩ := ok_inj hok
              obtain ⟨h2,k1,k2,k3⟩ := bound_run (O := O) (n := 0) hO hO2 hz (hlow _ _ hz) f3 f1 f2 z0 zk
              refine ⟨h2,k1,k2,fun d o hd => ⟨o,?_,ObjLe.refl o⟩⟩
              have := hlow d o hd
              rw [k3 d (by omega)]
              exact hd
            · simp at hok
          · simp at hok
      · simp at hok
    · simp at hok

/-! ## plus,lesser -/
def Bd (h : SHeap) (b : Nat) (is : Bool) (v : Int) : Prop := ∃ t,h.t.get b = some (.cells t 2 218 false false) ∧ t.get 0 = some (.bool is) ∧ t.get 1 = some (.int .i64 v)
theorem bd_new {h : SHeap} {is : Bool} {v : Int} (hn : h.next < lim) : Bd (newCells h 218 [.bool is,.int .i64 v] false) h.next is v := by
  refine ⟨Tr.ofL 33 [.bool is,.int .i64 v],?_,rfl,rfl⟩
  simp only [newCells,SHeap.new,get_put]
  rw [if_pos ⟨trivial,hn⟩]
  rfl
theorem Bd.keep {h : SHeap} {b : Nat} {is : Bool} {v : Int} {l : List Value} (k : Bd h b is v) (hb : b ≠ h.next) : Bd (newCells h 218 l false) b is v := let ⟨t,a,c,d⟩ := k; ⟨t,(new_other hb).trans a,c,d⟩
theorem Bd.l0 {h : SHeap} {b : Nat} {is : Bool} {v : Int} (k : Bd h b is v) : opLoad (Eo O) 4 (some (.pointer (some ⟨b,0 + 0,none⟩))) h = .ok (.value (.bool is),h) := let ⟨_,a,c,d⟩ := k; (cell_ld a c d).1
theorem Bd.l1 {h : SHeap} {b : Nat} {is : Bool} {v : Int} (k : Bd h b is v) : opLoad (Eo O) 3 (some (.pointer (some ⟨b,0 + 1,none⟩))) h = .ok (.value (.int .i64 v),h) := let ⟨_,a,c,d⟩ := k; (cell_ld a c d).2
theorem Bd.at_ {h : SHeap} {b : Nat} {is : Bool} {v : Int} (k : Bd h b is v) : loadAt (Eo O) h 218 ⟨b,0,none⟩ = .ok (.agg #[.bool is,.int .i64 v]) := by
  obtain ⟨t,a0,a1,a2⟩ := k
  unfold loadAt
  simp only [E218,a0]
  rw [if_pos agg218]
  have : range t 2 0 2 = some [.bool is,.int .i64 v] := by
    unfold range
    rw [show Nat.ble 2 12 = true from rfl,cond_true]
    simp only [Tr.toListFrom,a1,a2,forceN_eq]
  simp only [this]
theorem Bd.ld {h : SHeap} {b : Nat} {is : Bool} {v : Int} (k : Bd h b is v) : opLoad (Eo O) 218 (some (.pointer (some ⟨b,0,none⟩))) h = .ok (.value (.agg #[.bool is,.int .i64 v]),h) := by
  unfold opLoad
  simp only [k.at_]
  rfl
theorem box218 {h : SHeap} {is : Bool} {v : Int} : opBox 218 (some (.agg #[.bool is,.int .i64 v])) h = .ok (.value (.pointer (some ⟨h.next,0,none⟩)),newCells h 218 [.bool is,.int .i64 v] false) := (id rfl)
theorem new_nx {h : SHeap} {l : List Value} : (newCells h 218 l false).next = h.next + 1 := (id rfl)
theorem call_max {E : Env} {G : Nat} {tm : Tr Value} {o : Oper} {a b : Operand} {ats : Array TypeId} {h : SHeap} : opCall E (evT G tm) o ⟨.builtin .max,#[a,b],ats⟩ h = (match evT G tm a,evT G tm b with
    | some (.int .i64 x),some (.int .i64 y) => .ok (.value (.int .i64 (bif decide (y > x) then y else x)),h)
    | _,_ => opCall E (evT G tm) o ⟨.builtin .max,#[a,b],ats⟩ h) := by
  split
  · rename_i x y h1 h2
    simp only [opCall,evList,h1,h2]
    rfl
  · rfl
theorem body307 : Tryz.f307.body = some (cF Tryz.f307) := rfl
theorem fn307 : (Eo O).F 307 = some Tryz.f307 := by show Tab.funcs.get 307 = _; kernel_rfl
theorem nt307 {a b : Value} : max Tryz.f307.ntmps (#[a,b] : Array Value).size = 27 := rfl
theorem res307 : Tryz.f307.results.toList = [.cell 4 218] := rfl
theorem body306 : Tryz.f306.body = some (cF Tryz.f306) := rfl
theorem fn306 : (Eo O).F 306 = some Tryz.f306 := by show Tab.funcs.get 306 = _; kernel_rfl
theorem nt306 {a b : Value} : max Tryz.f306.ntmps (#[a,b] : Array Value).size = 21 := rfl
theorem res306 : Tryz.f306.results.toList = [.cell 4 218] := rfl
theorem store_bd {h : SHeap} (hn : h.next < lim) (is : Bool) (v : Int) : ∃ h',opStore (Eo O) 218 (some (.pointer (some ⟨h.next,0,none⟩))) (some (.agg #[.bool is,.int .i64 v])) (newCells h 218 [.bool false,.int .i64 0] false) = .ok (.value (.tuple #[]),h') ∧
    Bd h' h.next is v ∧ h'.next = h.next + 1 ∧ ∀ d,d ≠ h.next → h'.t.get d = h.t.get d := alst hn is v

theorem plus_run {n : Nat} (hO : O 307 = none) {a b : Bool} {x y : Int} {h : SHeap} (hn : h.next + 2 < lim) :
    ∃ h2,run (Eo O) (n + 1) (.call 307 #[.agg #[.bool a,.int .i64 x],.agg #[.bool b,.int .i64 y]] .normal) h = .ok (plusV a x b y,h2) ∧ h2.next = h.next + 3 ∧ ∀ d,d < h.next → h2.t.get d = h.t.get d := by
  suffices hcc : ∃ tm' h2 is v,codeS (cF Tryz.f307) (Eo O) (run (Eo O) n) ⟨307,27,.normal,none⟩ ⟨Tr.ofL 33 [.agg #[.bool a,.int .i64 x],.agg #[.bool b,.int .i64 y]],h,[]⟩ = .ok (.ret,⟨tm',h2,[]⟩) ∧ tm'.get 4 = some (.pointer (some ⟨h.next + 1 + 1,0,none⟩)) ∧
      Bd h2 (h.next + 1 + 1) is v ∧ plusV a x b y = .agg #[.bool is,.int .i64 v] ∧ h2.next = h.next + 1 + 1 + 1 ∧ ∀ d,d < h.next → h2.t.get d = h.t.get d by
    obtain ⟨tm',h2,is,v,k1,k2,k3,k4,k5,k6⟩ := hcc
    rw [k4]
    exact ⟨h2,(run_call (show (Eo O).O 307 = none from hO)).trans (enterS_ret (vs := [.agg #[.bool is,.int .i64 v]]) fn307 body307 nt307 rfl res307 k1 (by simp only [resultsS,k2,k3.at_])),k5,k6⟩
  generalize run (Eo O) n = ih
  generalize hr : codeS (cF Tryz.f307) (Eo O) ih ⟨307,27,.normal,none⟩ ⟨Tr.ofL 33 [.agg #[.bool a,.int .i64 x],.agg #[.bool b,.int .i64 y]],h,[]⟩ = q
  have t0 : (Tr.ofL 33 [Value.agg #[.bool a,.int .i64 x],.agg #[.bool b,.int .i64 y]]).get 0 = some (.agg #[.bool a,.int .i64 x]) := rfl
  have t1 : (Tr.ofL 33 [Value.agg #[.bool a,.int .i64 x],.agg #[.bool b,.int .i64 y]]).get 1 = some (.agg #[.bool b,.int .i64 y]) := rfl
  generalize Tr.ofL 33 [Value.agg #[.bool a,.int .i64 x],.agg #[.bool b,.int .i64 y]] = tm at hr t0 t1
  have A1 := bd_new (h := h) (is := a) (v := x) (by omega)
  have A2 := A1.keep (l := [.bool b,.int .i64 y]) (by rw [new_nx]; omega)
  have A3 := A2.keep (l := [.bool false,.int .i64 0]) (by simp only [new_nx]; omega)
  have B2 := bd_new (h := newCells h 218 [.bool a,.int .i64 x] false) (is := b) (v := y) (by rw [new_nx]; omega)
  have B3 := B2.keep (l := [.bool false,.int .i64 0]) (by simp only [new_nx]; omega)
  have hst := fun is v => store_bd (O := O) (h := newCells (newCells h 218 [.bool a,.int .i64 x] false) 218 [.bool b,.int .i64 y] false) (by simp only [new_nx]; omega) is v
  have hkp : ∀ d,d < h.next → (newCells (newCells h 218 [.bool a,.int .i64 x] false) 218 [.bool b,.int .i64 y] false).t.get d = h.t.get d := fun d hd => (new_other (by rw [new_nx]; omega)).trans (new_other (by omega))
  have a0 := A3.l0 (O := O)
  have a1 := A3.l1 (O := O)
  have b0 := B3.l0 (O := O)
  have b1 := B3.l1 (O := O)
  have a2 := A3.ld (O := O)
  have b2 := B3.ld (O := O)
  simp only [new_nx] at b0 b1 b2 hst
  generalize hs : wrapF .i64 (x + y) = s at hr
  have fin : ∀ is v h2,Bd h2 (h.next + 1 + 1) is v ∧ h2.next = h.next + 1 + 1 + 1 ∧ (∀ d,d ≠ h.next + 1 + 1 → h2.t.get d = (newCells (newCells h 218 [.bool a,.int .i64 x] false) 218 [.bool b,.int .i64 y] false).t.get d) →
      Bd h2 (h.next + 1 + 1) is v ∧ h2.next = h.next + 1 + 1 + 1 ∧ ∀ d,d < h.next → h2.t.get d = h.t.get d := fun is v h2 ⟨p1,p2,p3⟩ => ⟨p1,p2,fun d hd => (p3 d (by omega)).trans (hkp d hd)⟩
  have go : ∀ is v,plusV a x b y = .agg #[.bool is,.int .i64 v] → (∀ h2,opStore (Eo O) 218 (some (.pointer (some ⟨h.next + 1 + 1,0,none⟩))) (some (.agg #[.bool is,.int .i64 v])) (newCells (newCells (newCells h 218 [.bool a,.int .i64 x] false) 218 [.bool b,.int .i64 y] false) 218 [.bool false,.int .i64 0] false) = .ok (.value (.tuple #[]),h2) → ∃ tm',q = .ok (.ret,⟨tm',h2,[]⟩) ∧ tm'.get 4 = some (.pointer (some ⟨h.next + 1 + 1,0,none⟩))) →
      ∃ tm' h2 is v,q = .ok (.ret,⟨tm',h2,[]⟩) ∧ tm'.get 4 = some (.pointer (some ⟨h.next + 1 + 1,0,none⟩)) ∧ Bd h2 (h.next + 1 + 1) is v ∧ plusV a x b y = .agg #[.bool is,.int .i64 v] ∧ h2.next = h.next + 1 + 1 + 1 ∧ ∀ d,d < h.next → h2.t.get d = h.t.get d := by
    intro is v hv hq
    obtain ⟨h2,s1,s2⟩ := hst is v
    obtain ⟨tm',e1,e2⟩ := hq h2 s1
    obtain ⟨f1,f2,f3⟩ := fin is v h2 s2
    exact ⟨tm',h2,is,v,e1,e2,f1,hv,f2,f3⟩
  cases a with
  | false =>
    refine go false 0 (by simp [plusV]) fun h2 s1 => ?_
    simp only [Tryz.f307,cF,Option.getD,cA,cB,cI,codeS,cSeq_run,cCond_run,cRegion_run,cRegion_draw,cBlock_run,cSkip_run,cRet_run,cExit_run,opsS_nil,opsS_run,opS_free,thenS_normal,thenS_ret,thenS_exit,exitBlock_normal,exitBlock_ret,exitBlock_exit,normalS_ok,dispatch,dMove,opMove,evT_tmp,evT_int,evT_bool,evT_func,dBin,lss_i64,gtr_i64,geq_i64,neq_i64,eql_i64',add_i64,valR,afterS_value,putT_some,putT_none,get_put,lim,Nat.reduceLT,Nat.reduceEqDiff,and_true,if_true,if_false,reduceIte,false_and,true_and,cLoop_run,Nat.beq,cond_true,cond_false,
      dIndexAddr,dFieldAddr,dNilCheck,dLoad,dStore,dCall,nilCheck_ptr,fa313x0,fa313x1,Option.bind_some,natOf_int,addrAdd_free,drawS_nil',drawS_cons',dstep_pure',dstep_reads',dstep_eff',simOp_run,outVal_val,readAgain_nil,readAgain_cons,valEq_int,callOut_value,callOut_enter,call_min,evList,List.getElem?_toArray,List.getElem?_cons_succ,List.getElem?_cons_zero,List.drop_succ_cons,List.drop_zero,opS_guard,wantedS,dPick,pick_true,pick_false,Bool.and_self,Bool.true_and,bqa,bqb,bqc,bqd,dAlloc,dBox,dUn,not_b,dBuild,evParts,bld218x0,bld218x1,fa218x0,fa218x1,box218,alc218,new_nx,call_max,a0,a1,b0,b1,hs,s1,t0,t1] at hr
    subst hr
    exact ⟨_,rfl,by simp [get_put,lim]⟩
  | true =>
    cases b with
    | false =>
      refine go false 0 (by simp [plusV]) fun h2 s1 => ?_
      simp only [Tryz.f307,cF,Option.getD,cA,cB,cI,codeS,cSeq_run,cCond_run,cRegion_run,cRegion_draw,cBlock_run,cSkip_run,cRet_run,cExit_run,opsS_nil,opsS_run,opS_free,thenS_normal,thenS_ret,thenS_exit,exitBlock_normal,exitBlock_ret,exitBlock_exit,normalS_ok,dispatch,dMove,opMove,evT_tmp,evT_int,evT_bool,evT_func,dBin,lss_i64,gtr_i64,geq_i64,neq_i64,eql_i64',add_i64,valR,afterS_value,putT_some,putT_none,get_put,lim,Nat.reduceLT,Nat.reduceEqDiff,and_true,if_true,if_false,reduceIte,false_and,true_and,cLoop_run,Nat.beq,cond_true,cond_false,
      dIndexAddr,dFieldAddr,dNilCheck,dLoad,dStore,dCall,nilCheck_ptr,fa313x0,fa313x1,Option.bind_some,natOf_int,addrAdd_free,drawS_nil',drawS_cons',dstep_pure',dstep_reads',dstep_eff',simOp_run,outVal_val,readAgain_nil,readAgain_cons,valEq_int,callOut_value,callOut_enter,call_min,evList,List.getElem?_toArray,List.getElem?_cons_succ,List.getElem?_cons_zero,List.drop_succ_cons,List.drop_zero,opS_guard,wantedS,dPick,pick_true,pick_false,Bool.and_self,Bool.true_and,bqa,bqb,bqc,bqd,dAlloc,dBox,dUn,not_b,dBuild,evParts,bld218x0,bld218x1,fa218x0,fa218x1,box218,alc218,new_nx,call_max,a0,a1,b0,b1,hs,s1,t0,t1] at hr
      subst hr
      exact ⟨_,rfl,by simp [get_put,lim]⟩
    | true =>
      cases c : decide (s > 1152921504606846976) with
      | true =>
        refine go false 0 (by simp only [plusV,forceI_eq,hs,c,Bool.and_self,cond_true]) fun h2 s1 => ?_
        simp only [Tryz.f307,cF,Option.getD,cA,cB,cI,codeS,cSeq_run,cCond_run,cRegion_run,cRegion_draw,cBlock_run,cSkip_run,cRet_run,cExit_run,opsS_nil,opsS_run,opS_free,thenS_normal,thenS_ret,thenS_exit,exitBlock_normal,exitBlock_ret,exitBlock_exit,normalS_ok,dispatch,dMove,opMove,evT_tmp,evT_int,evT_bool,evT_func,dBin,lss_i64,gtr_i64,geq_i64,neq_i64,eql_i64',add_i64,valR,afterS_value,putT_some,putT_none,get_put,lim,Nat.reduceLT,Nat.reduceEqDiff,and_true,if_true,if_false,reduceIte,false_and,true_and,cLoop_run,Nat.beq,cond_true,cond_false,
      dIndexAddr,dFieldAddr,dNilCheck,dLoad,dStore,dCall,nilCheck_ptr,fa313x0,fa313x1,Option.bind_some,natOf_int,addrAdd_free,drawS_nil',drawS_cons',dstep_pure',dstep_reads',dstep_eff',simOp_run,outVal_val,readAgain_nil,readAgain_cons,valEq_int,callOut_value,callOut_enter,call_min,evList,List.getElem?_toArray,List.getElem?_cons_succ,List.getElem?_cons_zero,List.drop_succ_cons,List.drop_zero,opS_guard,wantedS,dPick,pick_true,pick_false,Bool.and_self,Bool.true_and,bqa,bqb,bqc,bqd,dAlloc,dBox,dUn,not_b,dBuild,evParts,bld218x0,bld218x1,fa218x0,fa218x1,box218,alc218,new_nx,call_max,a0,a1,b0,b1,hs,c,s1,t0,t1] at hr
        subst hr
        exact ⟨_,rfl,by simp [get_put,lim]⟩
      | false =>
        refine go true (bif decide (-1152921504606846976 > s) then -1152921504606846976 else s) (by simp only [plusV,forceI_eq,hs,c,Bool.and_self,cond_true,cond_false]) fun h2 s1 => ?_
        simp only [Tryz.f307,cF,Option.getD,cA,cB,cI,codeS,cSeq_run,cCond_run,cRegion_run,cRegion_draw,cBlock_run,cSkip_run,cRet_run,cExit_run,opsS_nil,opsS_run,opS_free,thenS_normal,thenS_ret,thenS_exit,exitBlock_normal,exitBlock_ret,exitBlock_exit,normalS_ok,dispatch,dMove,opMove,evT_tmp,evT_int,evT_bool,evT_func,dBin,lss_i64,gtr_i64,geq_i64,neq_i64,eql_i64',add_i64,valR,afterS_value,putT_some,putT_none,get_put,lim,Nat.reduceLT,Nat.reduceEqDiff,and_true,if_true,if_false,reduceIte,false_and,true_and,cLoop_run,Nat.beq,cond_true,cond_false,
      dIndexAddr,dFieldAddr,dNilCheck,dLoad,dStore,dCall,nilCheck_ptr,fa313x0,fa313x1,Option.bind_some,natOf_int,addrAdd_free,drawS_nil',drawS_cons',dstep_pure',dstep_reads',dstep_eff',simOp_run,outVal_val,readAgain_nil,readAgain_cons,valEq_int,callOut_value,callOut_enter,call_min,evList,List.getElem?_toArray,List.getElem?_cons_succ,List.getElem?_cons_zero,List.drop_succ_cons,List.drop_zero,opS_guard,wantedS,dPick,pick_true,pick_false,Bool.and_self,Bool.true_and,bqa,bqb,bqc,bqd,dAlloc,dBox,dUn,not_b,dBuild,evParts,bld218x0,bld218x1,fa218x0,fa218x1,box218,alc218,new_nx,call_max,a0,a1,b0,b1,hs,c,s1,t0,t1] at hr
        subst hr
        exact ⟨_,rfl,by simp [get_put,lim]⟩

theorem plus_ok (KE : EnvOK (Eo O)) (hdraw : DrawOK (Eo O)) (hOK : ∀ f g,(Eo O).O f = some g → OrcOK (Eo O) f g) (hO : O 307 = none) : OrcOK (Eo O) 307 plusQ :=
  orc_of_run (run_ok KE hdraw hOK 1) fun args h v h' hlow hok => by
    obtain ⟨l⟩ := args
    unfold plusQ at hok
    split at hok
    · rename_i a x b y e
      have e : l = [.agg #[.bool a,.int .i64 x],.agg #[.bool b,.int .i64 y]] := e
      subst e
      cases hc : Nat.blt (h.next + 2) lim with
      | false => rw [hc] at hok; simp at hok
      | true =>
        rw [hc,cond_true] at hok
        obtain ⟨rfl,rfl⟩ := ok_inj hok
        obtain ⟨h2,k1,k2,k3⟩ := plus_run (O := O) (n := 0) hO (a := a) (b := b) (x := x) (y := y) (h := h) (of_blt hc)
        refine ⟨h2,k1,k2,fun d o hd => ⟨o,?_,ObjLe.refl o⟩⟩
        rw [k3 d (hlow d o hd)]
        exact hd
    · simp at hok

theorem lesser_run {n : Nat} (hO : O 306 = none) {a b : Bool} {x y : Int} {h : SHeap} (hn : h.next + 2 < lim) :
    ∃ h2,run (Eo O) (n + 1) (.call 306 #[.agg #[.bool a,.int .i64 x],.agg #[.bool b,.int .i64 y]] .normal) h = .ok (lessV a x b y,h2) ∧ h2.next = h.next + 3 ∧ ∀ d,d < h.next → h2.t.get d = h.t.get d := by
  suffices hcc : ∃ tm' h2 is v,codeS (cF Tryz.f306) (Eo O) (run (Eo O) n) ⟨306,21,.normal,none⟩ ⟨Tr.ofL 33 [.agg #[.bool a,.int .i64 x],.agg #[.bool b,.int .i64 y]],h,[]⟩ = .ok (.ret,⟨tm',h2,[]⟩) ∧ tm'.get 4 = some (.pointer (some ⟨h.next + 1 + 1,0,none⟩)) ∧
      Bd h2 (h.next + 1 + 1) is v ∧ lessV a x b y = .agg #[.bool is,.int .i64 v] ∧ h2.next = h.next + 1 + 1 + 1 ∧ ∀ d,d < h.next → h2.t.get d = h.t.get d by
    obtain ⟨tm',h2,is,v,k1,k2,k3,k4,k5,k6⟩ := hcc
    rw [k4]
    exact ⟨h2,(run_call (show (Eo O).O 306 = none from hO)).trans (enterS_ret (vs := [.agg #[.bool is,.int .i64 v]]) fn306 body306 nt306 rfl res306 k1 (by simp only [resultsS,k2,k3.at_])),k5,k6⟩
  generalize run (Eo O) n = ih
  generalize hr : codeS (cF Tryz.f306) (Eo O) ih ⟨306,21,.normal,none⟩ ⟨Tr.ofL 33 [.agg #[.bool a,.int .i64 x],.agg #[.bool b,.int .i64 y]],h,[]⟩ = q
  have t0 : (Tr.ofL 33 [Value.agg #[.bool a,.int .i64 x],.agg #[.bool b,.int .i64 y]]).get 0 = some (.agg #[.bool a,.int .i64 x]) := rfl
  have t1 : (Tr.ofL 33 [Value.agg #[.bool a,.int .i64 x],.agg #[.bool b,.int .i64 y]]).get 1 = some (.agg #[.bool b,.int .i64 y]) := rfl
  generalize Tr.ofL 33 [Value.agg #[.bool a,.int .i64 x],.agg #[.bool b,.int .i64 y]] = tm at hr t0 t1
  have A1 := bd_new (h := h) (is := a) (v := x) (by omega)
  have A2 := A1.keep (l := [.bool b,.int .i64 y]) (by rw [new_nx]; omega)
  have A3 := A2.keep (l := [.bool false,.int .i64 0]) (by simp only [new_nx]; omega)
  have B2 := bd_new (h := newCells h 218 [.bool a,.int .i64 x] false) (is := b) (v := y) (by rw [new_nx]; omega)
  have B3 := B2.keep (l := [.bool false,.int .i64 0]) (by simp only [new_nx]; omega)
  have hst := fun is v => store_bd (O := O) (h := newCells (newCells h 218 [.bool a,.int .i64 x] false) 218 [.bool b,.int .i64 y] false) (by simp only [new_nx]; omega) is v
  have hkp : ∀ d,d < h.next → (newCells (newCells h 218 [.bool a,.int .i64 x] false) 218 [.bool b,.int .i64 y] false).t.get d = h.t.get d := fun d hd => (new_other (by rw [new_nx]; omega)).trans (new_other (by omega))
  have a0 := A3.l0 (O := O)
  have a1 := A3.l1 (O := O)
  have b0 := B3.l0 (O := O)
  have b1 := B3.l1 (O := O)
  have a2 := A3.ld (O := O)
  have b2 := B3.ld (O := O)
  simp only [new_nx] at b0 b1 b2 hst
  have fin : ∀ is v h2,Bd h2 (h.next + 1 + 1) is v ∧ h2.next = h.next + 1 + 1 + 1 ∧ (∀ d,d ≠ h.next + 1 + 1 → h2.t.get d = (newCells (newCells h 218 [.bool a,.int .i64 x] false) 218 [.bool b,.int .i64 y] false).t.get d) →
      Bd h2 (h.next + 1 + 1) is v ∧ h2.next = h.next + 1 + 1 + 1 ∧ ∀ d,d < h.next → h2.t.get d = h.t.get d := fun is v h2 ⟨p1,p2,p3⟩ => ⟨p1,p2,fun d hd => (p3 d (by omega)).trans (hkp d hd)⟩
  have go : ∀ is v,lessV a x b y = .agg #[.bool is,.int .i64 v] → (∀ h2,opStore (Eo O) 218 (some (.pointer (some ⟨h.next + 1 + 1,0,none⟩))) (some (.agg #[.bool is,.int .i64 v])) (newCells (newCells (newCells h 218 [.bool a,.int .i64 x] false) 218 [.bool b,.int .i64 y] false) 218 [.bool false,.int .i64 0] false) = .ok (.value (.tuple #[]),h2) → ∃ tm',q = .ok (.ret,⟨tm',h2,[]⟩) ∧ tm'.get 4 = some (.pointer (some ⟨h.next + 1 + 1,0,none⟩))) →
      ∃ tm' h2 is v,q = .ok (.ret,⟨tm',h2,[]⟩) ∧ tm'.get 4 = some (.pointer (some ⟨h.next + 1 + 1,0,none⟩)) ∧ Bd h2 (h.next + 1 + 1) is v ∧ lessV a x b y = .agg #[.bool is,.int .i64 v] ∧ h2.next = h.next + 1 + 1 + 1 ∧ ∀ d,d < h.next → h2.t.get d = h.t.get d := by
    intro is v hv hq
    obtain ⟨h2,s1,s2⟩ := hst is v
    obtain ⟨tm',e1,e2⟩ := hq h2 s1
    obtain ⟨f1,f2,f3⟩ := fin is v h2 s2
    exact ⟨tm',h2,is,v,e1,e2,f1,hv,f2,f3⟩
  cases a with
  | false =>
    refine go b y (by simp [lessV]) fun h2 s1 => ?_
    simp only [Tryz.f306,cF,Option.getD,cA,cB,cI,codeS,cSeq_run,cCond_run,cRegion_run,cRegion_draw,cBlock_run,cSkip_run,cRet_run,cExit_run,opsS_nil,opsS_run,opS_free,thenS_normal,thenS_ret,thenS_exit,exitBlock_normal,exitBlock_ret,exitBlock_exit,normalS_ok,dispatch,dMove,opMove,evT_tmp,evT_int,evT_bool,evT_func,dBin,lss_i64,gtr_i64,geq_i64,neq_i64,eql_i64',add_i64,valR,afterS_value,putT_some,putT_none,get_put,lim,Nat.reduceLT,Nat.reduceEqDiff,and_true,if_true,if_false,reduceIte,false_and,true_and,cLoop_run,Nat.beq,cond_true,cond_false,
      dIndexAddr,dFieldAddr,dNilCheck,dLoad,dStore,dCall,nilCheck_ptr,fa313x0,fa313x1,Option.bind_some,natOf_int,addrAdd_free,drawS_nil',drawS_cons',dstep_pure',dstep_reads',dstep_eff',simOp_run,outVal_val,readAgain_nil,readAgain_cons,valEq_int,callOut_value,callOut_enter,call_min,evList,List.getElem?_toArray,List.getElem?_cons_succ,List.getElem?_cons_zero,List.drop_succ_cons,List.drop_zero,opS_guard,wantedS,dPick,pick_true,pick_false,Bool.and_self,Bool.true_and,bqa,bqb,bqc,bqd,dAlloc,dBox,dUn,not_b,fa218x0,fa218x1,box218,alc218,new_nx,a0,a1,b0,b1,a2,b2,s1,t0,t1] at hr
    subst hr
    exact ⟨_,rfl,by simp [get_put,lim]⟩
  | true =>
    cases b with
    | false =>
      refine go true x (by simp [lessV]) fun h2 s1 => ?_
      simp only [Tryz.f306,cF,Option.getD,cA,cB,cI,codeS,cSeq_run,cCond_run,cRegion_run,cRegion_draw,cBlock_run,cSkip_run,cRet_run,cExit_run,opsS_nil,opsS_run,opS_free,thenS_normal,thenS_ret,thenS_exit,exitBlock_normal,exitBlock_ret,exitBlock_exit,normalS_ok,dispatch,dMove,opMove,evT_tmp,evT_int,evT_bool,evT_func,dBin,lss_i64,gtr_i64,geq_i64,neq_i64,eql_i64',add_i64,valR,afterS_value,putT_some,putT_none,get_put,lim,Nat.reduceLT,Nat.reduceEqDiff,and_true,if_true,if_false,reduceIte,false_and,true_and,cLoop_run,Nat.beq,cond_true,cond_false,
      dIndexAddr,dFieldAddr,dNilCheck,dLoad,dStore,dCall,nilCheck_ptr,fa313x0,fa313x1,Option.bind_some,natOf_int,addrAdd_free,drawS_nil',drawS_cons',dstep_pure',dstep_reads',dstep_eff',simOp_run,outVal_val,readAgain_nil,readAgain_cons,valEq_int,callOut_value,callOut_enter,call_min,evList,List.getElem?_toArray,List.getElem?_cons_succ,List.getElem?_cons_zero,List.drop_succ_cons,List.drop_zero,opS_guard,wantedS,dPick,pick_true,pick_false,Bool.and_self,Bool.true_and,bqa,bqb,bqc,bqd,dAlloc,dBox,dUn,not_b,fa218x0,fa218x1,box218,alc218,new_nx,a0,a1,b0,b1,a2,b2,s1,t0,t1] at hr
      subst hr
      exact ⟨_,rfl,by simp [get_put,lim]⟩
    | true =>
      cases c : decide (y < x) with
      | true =>
        refine go true y (by simp only [lessV,c,cond_true]) fun h2 s1 => ?_
        simp only [Tryz.f306,cF,Option.getD,cA,cB,cI,codeS,cSeq_run,cCond_run,cRegion_run,cRegion_draw,cBlock_run,cSkip_run,cRet_run,cExit_run,opsS_nil,opsS_run,opS_free,thenS_normal,thenS_ret,thenS_exit,exitBlock_normal,exitBlock_ret,exitBlock_exit,normalS_ok,dispatch,dMove,opMove,evT_tmp,evT_int,evT_bool,evT_func,dBin,lss_i64,gtr_i64,geq_i64,neq_i64,eql_i64',add_i64,valR,afterS_value,putT_some,putT_none,get_put,lim,Nat.reduceLT,Nat.reduceEqDiff,and_true,if_true,if_false,reduceIte,false_and,true_and,cLoop_run,Nat.beq,cond_true,cond_false,
      dIndexAddr,dFieldAddr,dNilCheck,dLoad,dStore,dCall,nilCheck_ptr,fa313x0,fa313x1,Option.bind_some,natOf_int,addrAdd_free,drawS_nil',drawS_cons',dstep_pure',dstep_reads',dstep_eff',simOp_run,outVal_val,readAgain_nil,readAgain_cons,valEq_int,callOut_value,callOut_enter,call_min,evList,List.getElem?_toArray,List.getElem?_cons_succ,List.getElem?_cons_zero,List.drop_succ_cons,List.drop_zero,opS_guard,wantedS,dPick,pick_true,pick_false,Bool.and_self,Bool.true_and,bqa,bqb,bqc,bqd,dAlloc,dBox,dUn,not_b,fa218x0,fa218x1,box218,alc218,new_nx,a0,a1,b0,b1,a2,b2,c,s1,t0,t1] at hr
        subst hr
        exact ⟨_,rfl,by simp [get_put,lim]⟩
      | false =>
        refine go true x (by simp only [lessV,c,cond_true,cond_false]) fun h2 s1 => ?_
        simp only [Tryz.f306,cF,Option.getD,cA,cB,cI,codeS,cSeq_run,cCond_run,cRegion_run,cRegion_draw,cBlock_run,cSkip_run,cRet_run,cExit_run,opsS_nil,opsS_run,opS_free,thenS_normal,thenS_ret,thenS_exit,exitBlock_normal,exitBlock_ret,exitBlock_exit,normalS_ok,dispatch,dMove,opMove,evT_tmp,evT_int,evT_bool,evT_func,dBin,lss_i64,gtr_i64,geq_i64,neq_i64,eql_i64',add_i64,valR,afterS_value,putT_some,putT_none,get_put,lim,Nat.reduceLT,Nat.reduceEqDiff,and_true,if_true,if_false,reduceIte,false_and,true_and,cLoop_run,Nat.beq,cond_true,cond_false,
      dIndexAddr,dFieldAddr,dNilCheck,dLoad,dStore,dCall,nilCheck_ptr,fa313x0,fa313x1,Option.bind_some,natOf_int,addrAdd_free,drawS_nil',drawS_cons',dstep_pure',dstep_reads',dstep_eff',simOp_run,outVal_val,readAgain_nil,readAgain_cons,valEq_int,callOut_value,callOut_enter,call_min,evList,List.getElem?_toArray,List.getElem?_cons_succ,List.getElem?_cons_zero,List.drop_succ_cons,List.drop_zero,opS_guard,wantedS,dPick,pick_true,pick_false,Bool.and_self,Bool.true_and,bqa,bqb,bqc,bqd,dAlloc,dBox,dUn,not_b,fa218x0,fa218x1,box218,alc218,new_nx,a0,a1,b0,b1,a2,b2,c,s1,t0,t1] at hr
        subst hr
        exact ⟨_,rfl,by simp [get_put,lim]⟩

theorem lesser_ok (KE : EnvOK (Eo O)) (hdraw : DrawOK (Eo O)) (hOK : ∀ f g,(Eo O).O f = some g → OrcOK (Eo O) f g) (hO : O 306 = none) : OrcOK (Eo O) 306 lessQ :=
  orc_of_run (run_ok KE hdraw hOK 1) fun args h v h' hlow hok => by
    obtain ⟨l⟩ := args
    unfold lessQ at hok
    split at hok
    · rename_i a x b y e
      have e : l = [.agg #[.bool a,.int .i64 x],.agg #[.bool b,.int .i64 y]] := e
      subst e
      cases hc : Nat.blt (h.next + 2) lim with
      | false => rw [hc] at hok; simp at hok
      | true =>
        rw [hc,cond_true] at hok
        obtain ⟨rfl,rfl⟩ := ok_inj hok
        obtain ⟨h2,k1,k2,k3⟩ := lesser_run (O := O) (n := 0) hO (a := a) (b := b) (x := x) (y := y) (h := h) (of_blt hc)
        refine ⟨h2,k1,k2,fun d o hd => ⟨o,?_,ObjLe.refl o⟩⟩
        rw [k3 d (hlow d o hd)]
        exact hd
    · simp at hok

end Go.Proofs.YtgiompikfhhkmaaGreatDoor

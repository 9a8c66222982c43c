/- The document's answer of tell (warrantref21): numbers, names, tags, constraints. (Written by genref.py.) The document's answer of tell (warrantref21): tags and constraints. (Written by genref1.py.) The document's answer of tell (warrantref21): constraints. (Written by genref2.py.) The document's answer of tell (warrantref21): a claim's lines. (Written by genref3.py.) The document's answer of tell (warrantref21): a claim's lines, put together. (Written by genref4.py.) The document's answer of tell (warrantref21): a claim's text. (Written by genref5.py.) -/
import Derived.Test.YtaclddcneogolaaGreatDoorPa0
set_option linter.unusedVariables false
set_option linter.unusedSimpArgs false
set_option linter.unusedSimpArgs false
set_option linter.unusedVariables false
namespace Go.Proofs.YtaclddcneogolaaGreatDoor
open Go Go.Sim
set_option maxRecDepth 100000
set_option maxHeartbeats 1000000
variable {O : Nat → Option (List Value → SHeap → Except String (Value × SHeap))} {ih : K}

/-- a call says so,with so many names,and leaves what is there -/
def Says (ih : K) (f : Nat) (a : List Value) (s : List UInt8) (N : Nat) : Prop :=
  ∀ g : SHeap,tabOK (g.t.get 0) = true → 0 < g.next → g.next + 5000 ≤ lim → ∃ g',ih (.call f a.toArray .normal) g = .ok (.string ⟨s.toArray⟩,g') ∧ g.next ≤ g'.next ∧ g'.next ≤ g.next + N ∧ ∀ x,x < g.next → g'.t.get x = g.t.get x
def i64 (v : Int) : Prop := -9223372036854775808 ≤ v ∧ v ≤ 9223372036854775807

theorem en36 : EntersS (Eo O) 36 := fun _ _ => by kernel_rfl
theorem en37 : EntersS (Eo O) 37 := fun _ _ => by kernel_rfl
theorem en38 : EntersS (Eo O) 38 := fun _ _ => by kernel_rfl
theorem en67 : EntersS (Eo O) 67 := fun _ _ => by kernel_rfl
theorem sub_i64 {E : Env} {ev : Ev} {o : Oper} {t : TypeId} {x y : Int} {h : SHeap} : opBin E ev o .sub t (some (.int .i64 x)) (some (.int .i64 y)) h = .ok (.value (.int .i64 (wrapF .i64 (x - y))),h) := bin_i64 rfl
theorem rem_two {E : Env} {ev : Ev} {o : Oper} {t : TypeId} {n : Nat} {h : SHeap} : opBin E ev o .rem t (some (.int .i64 (.ofNat n))) (some (.int .i64 2)) h = .ok (.value (.int .i64 (.ofNat (n % 2))),h) := bin_i64 rfl
theorem quo_two {E : Env} {ev : Ev} {o : Oper} {t : TypeId} {n : Nat} {h : SHeap} : opBin E ev o .quo t (some (.int .i64 (.ofNat n))) (some (.int .i64 2)) h = .ok (.value (.int .i64 (wrapF .i64 (.ofNat (n / 2)))),h) := bin_i64 rfl

theorem itoa_says {k : Nat} (o56 : O 56 = some itoaQ) {v : Int} (hv : i64 v) : Says (run (Eo O) (k + 1)) 56 [.int .i64 v] (Lib.itoa v) 10 := by
  intro g ht h0 hl
  rw [run_orc (E := Eo O) (show (Eo O).O 56 = some itoaQ from o56)]
  have hb : Nat.ble (g.next + 10) lim = true := by rw [Nat.ble_eq]; omega
  simp only [itoaQ,ht,decide_eq_true hv.1,decide_eq_true hv.2,hb,Bool.and_true,cond_true]
  cases decide (0 ≤ v) && decide (v < 100) with
  | true => exact ⟨_,rfl,Nat.le_refl _,by show g.next ≤ g.next + 10; omega,fun _ _ => rfl⟩
  | false => exact ⟨_,rfl,by show g.next ≤ g.next + 1; omega,by show g.next + 1 ≤ g.next + 10; omega,fun _ _ => rfl⟩

/-! ## Num -/
theorem body67 : Tryz.f67.body = some (cF Tryz.f67) := rfl
theorem fn67 : (Eo O).F 67 = some Tryz.f67 := by show Tab.funcs.get 67 = _; kernel_rfl
theorem nt67 {a : Value} : max Tryz.f67.ntmps (#[a] : Array Value).size = 5 := rfl
theorem res67 : Tryz.f67.results.toList = [.tmp 2] := rfl
theorem num_says {k : Nat} (o56 : O 56 = some itoaQ) (o67 : O 67 = none) {v : Int} (hv : i64 v) : Says (run (Eo O) (k + 2)) 67 [.int .i64 v] (Lib.itoa v) 10 := by
  intro g ht h0 hl
  obtain ⟨g',i1,i2,i3,i4⟩ := itoa_says (k := k) o56 hv g ht h0 hl
  suffices hc : ∃ tm',codeS (cF Tryz.f67) (Eo O) (run (Eo O) (k + 1)) ⟨67,5,.normal,none⟩ ⟨Tr.ofL 33 [.int .i64 v],g,[]⟩ = .ok (.ret,⟨tm',g',[]⟩) ∧ tm'.get 2 = some (.string ⟨(Lib.itoa v).toArray⟩) by
    obtain ⟨tm',k1,k2⟩ := hc
    exact ⟨g',(run_call (show (Eo O).O 67 = none from o67)).trans (enterS_ret (vs := [_]) fn67 body67 nt67 rfl res67 k1 (by simp only [resultsS,k2,need])),i2,i3,i4⟩
  generalize hr : codeS (cF Tryz.f67) (Eo O) (run (Eo O) (k + 1)) ⟨67,5,.normal,none⟩ ⟨Tr.ofL 33 [.int .i64 v],g,[]⟩ = r
  have t0 : (Tr.ofL 33 [Value.int .i64 v]).get 0 = some (.int .i64 v) := rfl
  generalize Tr.ofL 33 [Value.int .i64 v] = tm at hr t0
  simp only [Tryz.f67,cF,Option.getD,cA,cB,cI,codeS,cSeq_run,cCond_run,cRegion_run,cRegion_draw,cBlock_run,cSkip_run,cRet_run,cExit_run,opsS_nil,opsS_run,opS_free,thenS_normal,thenS_ret,thenS_exit,exitBlock_normal,exitBlock_ret,exitBlock_exit,normalS_ok,dispatch,dMove,opMove,evT_tmp,evT_int,evT_bool,evT_str,dBin,dUn,dAlloc,lss_i64,geq_i64,eql_i64,neq_i64,add_i64,valR,afterS_value,putT_some,putT_none,get_put,lim,Nat.reduceLT,Nat.reduceEqDiff,and_true,if_true,if_false,reduceIte,false_and,true_and,Nat.beq,cond_true,cond_false,cLoop_run,
      dIndexAddr,dFieldAddr,dLoad,dStore,dBox,Option.bind_some,natOf_int,addrAdd_free,drawS_nil',drawS_cons',dstep_pure',dstep_reads',dstep_eff',readAgain_nil,readAgain_cons,valEq_int,callOut_enter,simOp_run,outVal_val,List.getElem?_toArray,List.getElem?_cons_succ,List.getElem?_cons_zero,List.drop_succ_cons,List.drop_zero,dPick,pick_true,pick_false,opS_guard,wantedS,dIndex,dBuild,dBuildSlice,dCall,evParts,evList,bqa,bqb,bqc,bqd,Bool.and_self,Bool.not_true,Bool.not_false,not_b,afterS_enter,call_fn en36,call_fn en37,call_fn en38,call_fn en67,call_fn en56,sub_i64,i1,t0] at hr
  subst hr
  exact ⟨_,rfl,by simp [get_put,lim]⟩

/-! ## Name -/
theorem body36 : Tryz.f36.body = some (cF Tryz.f36) := rfl
theorem fn36 : (Eo O).F 36 = some Tryz.f36 := by show Tab.funcs.get 36 = _; kernel_rfl
theorem nt36 {a : Value} : max Tryz.f36.ntmps (#[a] : Array Value).size = 63 := rfl
theorem res36 : Tryz.f36.results.toList = [.tmp 2] := rfl
theorem itoa_nat (n : Nat) : Lib.itoa (.ofNat n) = Lib.decDigits n := by
  unfold Lib.itoa
  rw [if_neg (by simp)]
  rfl
theorem name_text {v : Int} (hv : v < 0 ∨ 60 ≤ v) : nameT v = 118 :: Lib.itoa v := by
  cases v with
  | ofNat n =>
    have : ¬ n < 60 := by rcases hv with h | h; exact absurd h (by simp); have : (60 : Int) ≤ (n : Int) := h; omega
    simp only [nameT,blt_not this,cond_false]
  | negSucc n => rfl
theorem name_code {k : Nat} (o56 : O 56 = some itoaQ) (o67 : O 67 = none) {v : Int} (hv : i64 v) {g : SHeap} (ht : tabOK (g.t.get 0) = true) (h0 : 0 < g.next) (hl : g.next + 5000 ≤ lim) {tm : Tr Value} (t0 : tm.get 0 = some (.int .i64 v)) :
    ∃ tm' g',codeS (cF Tryz.f36) (Eo O) (run (Eo O) (k + 2)) ⟨36,63,.normal,none⟩ ⟨tm,g,[]⟩ = .ok (.ret,⟨tm',g',[]⟩) ∧ tm'.get 2 = some (.string ⟨(nameT v).toArray⟩) ∧ g.next ≤ g'.next ∧ g'.next ≤ g.next + 10 ∧ ∀ x,x < g.next → g'.t.get x = g.t.get x := by
  have hc1 : ∀ (c : UInt8) (G : Nat) (tm : Tr Value),evT G tm (.const (.string ⟨#[c]⟩)) = some (.string ⟨([c] : List UInt8).toArray⟩) := fun _ _ _ => rfl
  generalize hr : codeS (cF Tryz.f36) (Eo O) (run (Eo O) (k + 2)) ⟨36,63,.normal,none⟩ ⟨tm,g,[]⟩ = r
  rcases v with n | n
  · have nn : (Int.ofNat n : Int) = (n : Int) := rfl
    have hn : n < 9223372036854775808 := by have := hv.2; rw [nn] at this; omega
    by_cases z0 : n = 0
    · subst z0
      simp only [Tryz.f36,cF,Option.getD,cA,cB,cI,codeS,cSeq_run,cCond_run,cRegion_run,cRegion_draw,cBlock_run,cSkip_run,cRet_run,cExit_run,opsS_nil,opsS_run,opS_free,thenS_normal,thenS_ret,thenS_exit,exitBlock_normal,exitBlock_ret,exitBlock_exit,normalS_ok,dispatch,dMove,opMove,evT_tmp,evT_int,evT_bool,evT_str,dBin,dUn,dAlloc,lss_i64,geq_i64,eql_i64,neq_i64,add_i64,valR,afterS_value,putT_some,putT_none,get_put,lim,Nat.reduceLT,Nat.reduceEqDiff,and_true,if_true,if_false,reduceIte,false_and,true_and,Nat.beq,cond_true,cond_false,cLoop_run,
      dIndexAddr,dFieldAddr,dLoad,dStore,dBox,Option.bind_some,natOf_int,addrAdd_free,drawS_nil',drawS_cons',dstep_pure',dstep_reads',dstep_eff',readAgain_nil,readAgain_cons,valEq_int,callOut_enter,simOp_run,outVal_val,List.getElem?_toArray,List.getElem?_cons_succ,List.getElem?_cons_zero,List.drop_succ_cons,List.drop_zero,dPick,pick_true,pick_false,opS_guard,wantedS,dIndex,dBuild,dBuildSlice,dCall,evParts,evList,bqa,bqb,bqc,bqd,Bool.and_self,Bool.not_true,Bool.not_false,not_b,afterS_enter,call_fn en36,call_fn en37,call_fn en38,call_fn en67,call_fn en56,sub_i64,t0,show ((Int.ofNat 0 : Int) == 0) = true from rfl] at hr
      subst hr
      exact ⟨_,g,rfl,by simp [get_put,lim]; rfl,Nat.le_refl _,by omega,fun _ _ => rfl⟩
    by_cases z1 : n = 1
    · subst z1
      simp only [Tryz.f36,cF,Option.getD,cA,cB,cI,codeS,cSeq_run,cCond_run,cRegion_run,cRegion_draw,cBlock_run,cSkip_run,cRet_run,cExit_run,opsS_nil,opsS_run,opS_free,thenS_normal,thenS_ret,thenS_exit,exitBlock_normal,exitBlock_ret,exitBlock_exit,normalS_ok,dispatch,dMove,opMove,evT_tmp,evT_int,evT_bool,evT_str,dBin,dUn,dAlloc,lss_i64,geq_i64,eql_i64,neq_i64,add_i64,valR,afterS_value,putT_some,putT_none,get_put,lim,Nat.reduceLT,Nat.reduceEqDiff,and_true,if_true,if_false,reduceIte,false_and,true_and,Nat.beq,cond_true,cond_false,cLoop_run,
      dIndexAddr,dFieldAddr,dLoad,dStore,dBox,Option.bind_some,natOf_int,addrAdd_free,drawS_nil',drawS_cons',dstep_pure',dstep_reads',dstep_eff',readAgain_nil,readAgain_cons,valEq_int,callOut_enter,simOp_run,outVal_val,List.getElem?_toArray,List.getElem?_cons_succ,List.getElem?_cons_zero,List.drop_succ_cons,List.drop_zero,dPick,pick_true,pick_false,opS_guard,wantedS,dIndex,dBuild,dBuildSlice,dCall,evParts,evList,bqa,bqb,bqc,bqd,Bool.and_self,Bool.not_true,Bool.not_false,not_b,afterS_enter,call_fn en36,call_fn en37,call_fn en38,call_fn en67,call_fn en56,sub_i64,t0,show ((Int.ofNat 1 : Int) == 0) = false from rfl,show ((Int.ofNat 1 : Int) == 1) = true from rfl] at hr
      subst hr
      exact ⟨_,g,rfl,by simp [get_put,lim]; rfl,Nat.le_refl _,by omega,fun _ _ => rfl⟩
    have e0 : ((Int.ofNat n : Int) == 0) = false := by simp; omega
    have e1 : ((Int.ofNat n : Int) == 1) = false := by simp; omega
    have G2 : decide ((Int.ofNat n : Int) ≥ 2) = true := decide_eq_true (by show (2 : Int) ≤ (n : Int); omega)
    by_cases z2 : n < 12
    · have L12 : decide ((Int.ofNat n : Int) < 12) = true := decide_eq_true (by show (n : Int) < 12; omega)
      have sb : wrapF .i64 (Int.ofNat n - 2) = Int.ofNat (n - 2) := by rw [show (Int.ofNat n - 2 : Int) = Int.ofNat (n - 2) by simp only [Int.ofNat_eq_natCast]; omega]; exact Go.Sim.wrap_small (by omega)
      have hi : i64 (Int.ofNat (n - 2)) := ⟨by show -9223372036854775808 ≤ ((n - 2 : Nat) : Int); omega,by show ((n - 2 : Nat) : Int) ≤ 9223372036854775807; omega⟩
      obtain ⟨g',i1,i2,i3,i4⟩ := num_says (k := k) o56 o67 hi g ht h0 hl
      have ad := fun (ev : Ev) (o : Oper) => add_str (E := Eo O) (ev := ev) (o := o) (t := 9) (x := [114]) (y := Lib.itoa (Int.ofNat (n - 2))) (h := g') (by have := itoa_len hi.1 hi.2; simp only [List.length_cons,List.length_nil]; omega)
      simp only [Tryz.f36,cF,Option.getD,cA,cB,cI,codeS,cSeq_run,cCond_run,cRegion_run,cRegion_draw,cBlock_run,cSkip_run,cRet_run,cExit_run,opsS_nil,opsS_run,opS_free,thenS_normal,thenS_ret,thenS_exit,exitBlock_normal,exitBlock_ret,exitBlock_exit,normalS_ok,dispatch,dMove,opMove,evT_tmp,evT_int,evT_bool,evT_str,dBin,dUn,dAlloc,lss_i64,geq_i64,eql_i64,neq_i64,add_i64,valR,afterS_value,putT_some,putT_none,get_put,lim,Nat.reduceLT,Nat.reduceEqDiff,and_true,if_true,if_false,reduceIte,false_and,true_and,Nat.beq,cond_true,cond_false,cLoop_run,
      dIndexAddr,dFieldAddr,dLoad,dStore,dBox,Option.bind_some,natOf_int,addrAdd_free,drawS_nil',drawS_cons',dstep_pure',dstep_reads',dstep_eff',readAgain_nil,readAgain_cons,valEq_int,callOut_enter,simOp_run,outVal_val,List.getElem?_toArray,List.getElem?_cons_succ,List.getElem?_cons_zero,List.drop_succ_cons,List.drop_zero,dPick,pick_true,pick_false,opS_guard,wantedS,dIndex,dBuild,dBuildSlice,dCall,evParts,evList,bqa,bqb,bqc,bqd,Bool.and_self,Bool.not_true,Bool.not_false,not_b,afterS_enter,call_fn en36,call_fn en37,call_fn en38,call_fn en67,call_fn en56,sub_i64,t0,e0,e1,G2,L12,sb,i1,ad] at hr
      subst hr
      refine ⟨_,g',rfl,?_,i2,i3,i4⟩
      have : nameT (Int.ofNat n) = 114 :: Lib.itoa (Int.ofNat (n - 2)) := by
        rw [itoa_nat]; simp only [nameT,blt_of (show n < 60 by omega),cond_true,nameS,blt_of z2,show Nat.beq n 0 = false from by cases hx : Nat.beq n 0 with | false => rfl | true => exact absurd (Nat.eq_of_beq_eq_true hx) z0,show Nat.beq n 1 = false from by cases hx : Nat.beq n 1 with | false => rfl | true => exact absurd (Nat.eq_of_beq_eq_true hx) z1,cond_false]
      rw [this]
      simp [get_put,lim]
    have L12 : decide ((Int.ofNat n : Int) < 12) = false := decide_eq_false (by show ¬ (n : Int) < 12; omega)
    have G12 : decide ((Int.ofNat n : Int) ≥ 12) = true := decide_eq_true (by show (12 : Int) ≤ (n : Int); omega)
    by_cases z3 : n < 44
    · have L44 : decide ((Int.ofNat n : Int) < 44) = true := decide_eq_true (by show (n : Int) < 44; omega)
      have sb : wrapF .i64 (Int.ofNat n - 12) = Int.ofNat (n - 12) := by rw [show (Int.ofNat n - 12 : Int) = Int.ofNat (n - 12) by simp only [Int.ofNat_eq_natCast]; omega]; exact Go.Sim.wrap_small (by omega)
      have hi : i64 (Int.ofNat (n - 12)) := ⟨by show -9223372036854775808 ≤ ((n - 12 : Nat) : Int); omega,by show ((n - 12 : Nat) : Int) ≤ 9223372036854775807; omega⟩
      obtain ⟨g',i1,i2,i3,i4⟩ := num_says (k := k) o56 o67 hi g ht h0 hl
      have ad := fun (ev : Ev) (o : Oper) => add_str (E := Eo O) (ev := ev) (o := o) (t := 9) (x := [115]) (y := Lib.itoa (Int.ofNat (n - 12))) (h := g') (by have := itoa_len hi.1 hi.2; simp only [List.length_cons,List.length_nil]; omega)
      simp only [Tryz.f36,cF,Option.getD,cA,cB,cI,codeS,cSeq_run,cCond_run,cRegion_run,cRegion_draw,cBlock_run,cSkip_run,cRet_run,cExit_run,opsS_nil,opsS_run,opS_free,thenS_normal,thenS_ret,thenS_exit,exitBlock_normal,exitBlock_ret,exitBlock_exit,normalS_ok,dispatch,dMove,opMove,evT_tmp,evT_int,evT_bool,evT_str,dBin,dUn,dAlloc,lss_i64,geq_i64,eql_i64,neq_i64,add_i64,valR,afterS_value,putT_some,putT_none,get_put,lim,Nat.reduceLT,Nat.reduceEqDiff,and_true,if_true,if_false,reduceIte,false_and,true_and,Nat.beq,cond_true,cond_false,cLoop_run,
      dIndexAddr,dFieldAddr,dLoad,dStore,dBox,Option.bind_some,natOf_int,addrAdd_free,drawS_nil',drawS_cons',dstep_pure',dstep_reads',dstep_eff',readAgain_nil,readAgain_cons,valEq_int,callOut_enter,simOp_run,outVal_val,List.getElem?_toArray,List.getElem?_cons_succ,List.getElem?_cons_zero,List.drop_succ_cons,List.drop_zero,dPick,pick_true,pick_false,opS_guard,wantedS,dIndex,dBuild,dBuildSlice,dCall,evParts,evList,bqa,bqb,bqc,bqd,Bool.and_self,Bool.not_true,Bool.not_false,not_b,afterS_enter,call_fn en36,call_fn en37,call_fn en38,call_fn en67,call_fn en56,sub_i64,t0,e0,e1,G2,L12,G12,L44,sb,i1,ad] at hr
      subst hr
      refine ⟨_,g',rfl,?_,i2,i3,i4⟩
      have : nameT (Int.ofNat n) = 115 :: Lib.itoa (Int.ofNat (n - 12)) := by
        rw [itoa_nat]; simp only [nameT,blt_of (show n < 60 by omega),cond_true,nameS,blt_not z2,blt_of z3,show Nat.beq n 0 = false from by cases hx : Nat.beq n 0 with | false => rfl | true => exact absurd (Nat.eq_of_beq_eq_true hx) z0,show Nat.beq n 1 = false from by cases hx : Nat.beq n 1 with | false => rfl | true => exact absurd (Nat.eq_of_beq_eq_true hx) z1,cond_false]
      rw [this]
      simp [get_put,lim]
    have L44 : decide ((Int.ofNat n : Int) < 44) = false := decide_eq_false (by show ¬ (n : Int) < 44; omega)
    have G44 : decide ((Int.ofNat n : Int) ≥ 44) = true := decide_eq_true (by show (44 : Int) ≤ (n : Int); omega)
    by_cases z4 : n < 60
    · have L60 : decide ((Int.ofNat n : Int) < 60) = true := decide_eq_true (by show (n : Int) < 60; omega)
      have sb : wrapF .i64 (Int.ofNat n - 44) = Int.ofNat (n - 44) := by rw [show (Int.ofNat n - 44 : Int) = Int.ofNat (n - 44) by simp only [Int.ofNat_eq_natCast]; omega]; exact Go.Sim.wrap_small (by omega)
      have qo : wrapF .i64 (Int.ofNat ((n - 44) / 2)) = Int.ofNat ((n - 44) / 2) := Go.Sim.wrap_small (by omega)
      have hi : i64 (Int.ofNat ((n - 44) / 2)) := ⟨by show -9223372036854775808 ≤ (((n - 44) / 2 : Nat) : Int); omega,by show (((n - 44) / 2 : Nat) : Int) ≤ 9223372036854775807; omega⟩
      obtain ⟨g',i1,i2,i3,i4⟩ := num_says (k := k) o56 o67 hi g ht h0 hl
      have ad := fun (c : UInt8) (ev : Ev) (o : Oper) => add_str (E := Eo O) (ev := ev) (o := o) (t := 9) (x := [c]) (y := Lib.itoa (Int.ofNat ((n - 44) / 2))) (h := g') (by have := itoa_len hi.1 hi.2; simp only [List.length_cons,List.length_nil]; omega)
      by_cases z5 : n % 2 = 0
      · have R0 : ((Int.ofNat (n % 2) : Int) == 0) = true := by rw [z5]; rfl
        simp only [Tryz.f36,cF,Option.getD,cA,cB,cI,codeS,cSeq_run,cCond_run,cRegion_run,cRegion_draw,cBlock_run,cSkip_run,cRet_run,cExit_run,opsS_nil,opsS_run,opS_free,thenS_normal,thenS_ret,thenS_exit,exitBlock_normal,exitBlock_ret,exitBlock_exit,normalS_ok,dispatch,dMove,opMove,evT_tmp,evT_int,evT_bool,evT_str,dBin,dUn,dAlloc,lss_i64,geq_i64,eql_i64,neq_i64,add_i64,valR,afterS_value,putT_some,putT_none,get_put,lim,Nat.reduceLT,Nat.reduceEqDiff,and_true,if_true,if_false,reduceIte,false_and,true_and,Nat.beq,cond_true,cond_false,cLoop_run,
      dIndexAddr,dFieldAddr,dLoad,dStore,dBox,Option.bind_some,natOf_int,addrAdd_free,drawS_nil',drawS_cons',dstep_pure',dstep_reads',dstep_eff',readAgain_nil,readAgain_cons,valEq_int,callOut_enter,simOp_run,outVal_val,List.getElem?_toArray,List.getElem?_cons_succ,List.getElem?_cons_zero,List.drop_succ_cons,List.drop_zero,dPick,pick_true,pick_false,opS_guard,wantedS,dIndex,dBuild,dBuildSlice,dCall,evParts,evList,bqa,bqb,bqc,bqd,Bool.and_self,Bool.not_true,Bool.not_false,not_b,afterS_enter,call_fn en36,call_fn en37,call_fn en38,call_fn en67,call_fn en56,sub_i64,t0,e0,e1,G2,L12,G12,L44,G44,L60,rem_two,quo_two,sb,qo,R0,i1,ad] at hr
        subst hr
        refine ⟨_,g',rfl,?_,i2,i3,i4⟩
        have : nameT (Int.ofNat n) = 97 :: Lib.itoa (Int.ofNat ((n - 44) / 2)) := by
          rw [itoa_nat]; simp only [nameT,blt_of z4,cond_true,nameS,blt_not z2,blt_not z3,show Nat.beq ((n - 44) % 2) 0 = true from by rw [show (n - 44) % 2 = 0 by omega]; rfl,show Nat.beq n 0 = false from by cases hx : Nat.beq n 0 with | false => rfl | true => exact absurd (Nat.eq_of_beq_eq_true hx) z0,show Nat.beq n 1 = false from by cases hx : Nat.beq n 1 with | false => rfl | true => exact absurd (Nat.eq_of_beq_eq_true hx) z1,cond_false]
        rw [this]
        simp [get_put,lim]
      · have R0 : ((Int.ofNat (n % 2) : Int) == 0) = false := by rw [show n % 2 = 1 by omega]; rfl
        simp only [Tryz.f36,cF,Option.getD,cA,cB,cI,codeS,cSeq_run,cCond_run,cRegion_run,cRegion_draw,cBlock_run,cSkip_run,cRet_run,cExit_run,opsS_nil,opsS_run,opS_free,thenS_normal,thenS_ret,thenS_exit,exitBlock_normal,exitBlock_ret,exitBlock_exit,normalS_ok,dispatch,dMove,opMove,evT_tmp,evT_int,evT_bool,evT_str,dBin,dUn,dAlloc,lss_i64,geq_i64,eql_i64,neq_i64,add_i64,valR,afterS_value,putT_some,putT_none,get_put,lim,Nat.reduceLT,Nat.reduceEqDiff,and_true,if_true,if_false,reduceIte,false_and,true_and,Nat.beq,cond_true,cond_false,cLoop_run,
      dIndexAddr,dFieldAddr,dLoad,dStore,dBox,Option.bind_some,natOf_int,addrAdd_free,drawS_nil',drawS_cons',dstep_pure',dstep_reads',dstep_eff',readAgain_nil,readAgain_cons,valEq_int,callOut_enter,simOp_run,outVal_val,List.getElem?_toArray,List.getElem?_cons_succ,List.getElem?_cons_zero,List.drop_succ_cons,List.drop_zero,dPick,pick_true,pick_false,opS_guard,wantedS,dIndex,dBuild,dBuildSlice,dCall,evParts,evList,bqa,bqb,bqc,bqd,Bool.and_self,Bool.not_true,Bool.not_false,not_b,afterS_enter,call_fn en36,call_fn en37,call_fn en38,call_fn en67,call_fn en56,sub_i64,t0,e0,e1,G2,L12,G12,L44,G44,L60,rem_two,quo_two,sb,qo,R0,i1,ad] at hr
        subst hr
        refine ⟨_,g',rfl,?_,i2,i3,i4⟩
        have : nameT (Int.ofNat n) = 98 :: Lib.itoa (Int.ofNat ((n - 44) / 2)) := by
          rw [itoa_nat]; simp only [nameT,blt_of z4,cond_true,nameS,blt_not z2,blt_not z3,show Nat.beq ((n - 44) % 2) 0 = false from by rw [show (n - 44) % 2 = 1 by omega]; rfl,show Nat.beq n 0 = false from by cases hx : Nat.beq n 0 with | false => rfl | true => exact absurd (Nat.eq_of_beq_eq_true hx) z0,show Nat.beq n 1 = false from by cases hx : Nat.beq n 1 with | false => rfl | true => exact absurd (Nat.eq_of_beq_eq_true hx) z1,cond_false]
        rw [this]
        simp [get_put,lim]
    have L60 : decide ((Int.ofNat n : Int) < 60) = false := decide_eq_false (by show ¬ (n : Int) < 60; omega)
    obtain ⟨g',i1,i2,i3,i4⟩ := num_says (k := k) o56 o67 hv g ht h0 hl
    have ad := fun (ev : Ev) (o : Oper) => add_str (E := Eo O) (ev := ev) (o := o) (t := 9) (x := [118]) (y := Lib.itoa (Int.ofNat n)) (h := g') (by have := itoa_len hv.1 hv.2; simp only [List.length_cons,List.length_nil]; omega)
    simp only [Tryz.f36,cF,Option.getD,cA,cB,cI,codeS,cSeq_run,cCond_run,cRegion_run,cRegion_draw,cBlock_run,cSkip_run,cRet_run,cExit_run,opsS_nil,opsS_run,opS_free,thenS_normal,thenS_ret,thenS_exit,exitBlock_normal,exitBlock_ret,exitBlock_exit,normalS_ok,dispatch,dMove,opMove,evT_tmp,evT_int,evT_bool,evT_str,dBin,dUn,dAlloc,lss_i64,geq_i64,eql_i64,neq_i64,add_i64,valR,afterS_value,putT_some,putT_none,get_put,lim,Nat.reduceLT,Nat.reduceEqDiff,and_true,if_true,if_false,reduceIte,false_and,true_and,Nat.beq,cond_true,cond_false,cLoop_run,
      dIndexAddr,dFieldAddr,dLoad,dStore,dBox,Option.bind_some,natOf_int,addrAdd_free,drawS_nil',drawS_cons',dstep_pure',dstep_reads',dstep_eff',readAgain_nil,readAgain_cons,valEq_int,callOut_enter,simOp_run,outVal_val,List.getElem?_toArray,List.getElem?_cons_succ,List.getElem?_cons_zero,List.drop_succ_cons,List.drop_zero,dPick,pick_true,pick_false,opS_guard,wantedS,dIndex,dBuild,dBuildSlice,dCall,evParts,evList,bqa,bqb,bqc,bqd,Bool.and_self,Bool.not_true,Bool.not_false,not_b,afterS_enter,call_fn en36,call_fn en37,call_fn en38,call_fn en67,call_fn en56,sub_i64,t0,e0,e1,G2,L12,G12,L44,G44,L60,i1,ad] at hr
    subst hr
    refine ⟨_,g',rfl,?_,i2,i3,i4⟩
    rw [name_text (.inr (by show (60 : Int) ≤ (n : Int); omega))]
    simp [get_put,lim]
  · have e0 : ((Int.negSucc n : Int) == 0) = false := rfl
    have e1 : ((Int.negSucc n : Int) == 1) = false := rfl
    have G2 : decide ((Int.negSucc n : Int) ≥ 2) = false := by simp; omega
    have G12 : decide ((Int.negSucc n : Int) ≥ 12) = false := by simp; omega
    have G44 : decide ((Int.negSucc n : Int) ≥ 44) = false := by simp; omega
    obtain ⟨g',i1,i2,i3,i4⟩ := num_says (k := k) o56 o67 hv g ht h0 hl
    have ad := fun (ev : Ev) (o : Oper) => add_str (E := Eo O) (ev := ev) (o := o) (t := 9) (x := [118]) (y := Lib.itoa (Int.negSucc n)) (h := g') (by have := itoa_len hv.1 hv.2; simp only [List.length_cons,List.length_nil]; omega)
    simp only [Tryz.f36,cF,Option.getD,cA,cB,cI,codeS,cSeq_run,cCond_run,cRegion_run,cRegion_draw,cBlock_run,cSkip_run,cRet_run,cExit_run,opsS_nil,opsS_run,opS_free,thenS_normal,thenS_ret,thenS_exit,exitBlock_normal,exitBlock_ret,exitBlock_exit,normalS_ok,dispatch,dMove,opMove,evT_tmp,evT_int,evT_bool,evT_str,dBin,dUn,dAlloc,lss_i64,geq_i64,eql_i64,neq_i64,add_i64,valR,afterS_value,putT_some,putT_none,get_put,lim,Nat.reduceLT,Nat.reduceEqDiff,and_true,if_true,if_false,reduceIte,false_and,true_and,Nat.beq,cond_true,cond_false,cLoop_run,
      dIndexAddr,dFieldAddr,dLoad,dStore,dBox,Option.bind_some,natOf_int,addrAdd_free,drawS_nil',drawS_cons',dstep_pure',dstep_reads',dstep_eff',readAgain_nil,readAgain_cons,valEq_int,callOut_enter,simOp_run,outVal_val,List.getElem?_toArray,List.getElem?_cons_succ,List.getElem?_cons_zero,List.drop_succ_cons,List.drop_zero,dPick,pick_true,pick_false,opS_guard,wantedS,dIndex,dBuild,dBuildSlice,dCall,evParts,evList,bqa,bqb,bqc,bqd,Bool.and_self,Bool.not_true,Bool.not_false,not_b,afterS_enter,call_fn en36,call_fn en37,call_fn en38,call_fn en67,call_fn en56,sub_i64,t0,e0,e1,G2,G12,G44,i1,ad] at hr
    subst hr
    refine ⟨_,g',rfl,?_,i2,i3,i4⟩
    rw [name_text (.inl (by omega))]
    simp [get_put,lim]
theorem rname_says {k : Nat} (o56 : O 56 = some itoaQ) (o67 : O 67 = none) (o36 : O 36 = none) {v : Int} (hv : i64 v) : Says (run (Eo O) (k + 3)) 36 [.int .i64 v] (nameT v) 10 := by
  intro g ht h0 hl
  obtain ⟨tm',g',k1,k2,k3,k4,k5⟩ := name_code (k := k) o56 o67 hv ht h0 hl (tm := Tr.ofL 33 [.int .i64 v]) rfl
  exact ⟨g',(run_call (show (Eo O).O 36 = none from o36)).trans (enterS_ret (vs := [_]) fn36 body36 nt36 rfl res36 k1 (by simp only [resultsS,k2,need])),k3,k4,k5⟩
end Go.Proofs.YtaclddcneogolaaGreatDoor

set_option linter.unusedSimpArgs false
set_option linter.unusedVariables false
namespace Go.Proofs.YtaclddcneogolaaGreatDoor
open Go Go.Sim
set_option maxRecDepth 100000
set_option maxHeartbeats 1000000
variable {O : Nat → Option (List Value → SHeap → Except String (Value × SHeap))} {ih : K}

theorem join2 (x y : List UInt8) : Lib.join [x,y] [32] = x ++ 32 :: y := by simp [Lib.join]
theorem body37 : Tryz.f37.body = some (cF Tryz.f37) := rfl
theorem fn37 : (Eo O).F 37 = some Tryz.f37 := by show Tab.funcs.get 37 = _; kernel_rfl
theorem nt37 {a : Value} : max Tryz.f37.ntmps (#[a] : Array Value).size = 36 := rfl
theorem res37 : Tryz.f37.results.toList = [.tmp 2] := rfl
theorem kind_text {k t m : Int} (h0 : k ≠ 0) (h1 : k ≠ 1) (h2 : k ≠ 2) (h3 : k ≠ 3) (h4 : k ≠ 4) (h5 : k ≠ 5) (h6 : k ≠ 6) : kindT k t m = [107,105,110,100] ++ 32 :: Lib.itoa k := by
  have : kindP k t m = [.str ⟨#[107,105,110,100]⟩,.num k] := by unfold kindP; split <;> simp_all
  have e : kindT k t m = wordsT (kindP k t m) := by unfold kindT; split <;> simp_all
  rw [e,this]
  exact join2 _ _

theorem tag_code {k : Nat} (o56 : O 56 = some itoaQ) (o67 : O 67 = none) {t : Tg} (hf : t.fits) {g : SHeap} (ht : tabOK (g.t.get 0) = true) (h0 : 0 < g.next) (hl : g.next + 6000 ≤ lim) {tm : Tr Value} (t0 : tm.get 0 = some (tgA t)) :
    ∃ tm' g',codeS (cF Tryz.f37) (Eo O) (run (Eo O) (k + 2)) ⟨37,36,.normal,none⟩ ⟨tm,g,[]⟩ = .ok (.ret,⟨tm',g',[]⟩) ∧ tm'.get 2 = some (.string ⟨(kindT t.1 t.2.1 t.2.2).toArray⟩) ∧ g.next ≤ g'.next ∧ g'.next ≤ g.next + 20 ∧ ∀ x,x < g.next → g'.t.get x = g.t.get x := by
  obtain ⟨K,T,M⟩ := t
  obtain ⟨fK,fT,fM⟩ := hf
  simp only at fK fT fM
  obtain ⟨gA,eA⟩ : ∃ gA,gA = newCells g 24 [.int .i64 K,.int .i64 T,.int .i64 M] false := ⟨_,rfl⟩
  have nA : gA.next = g.next + 1 := by rw [eA]; rfl
  have hg : gA.t.get g.next = some (.cells (Tr.ofL 33 [.int .i64 K,.int .i64 T,.int .i64 M]) 3 24 false false) := by
    rw [eA]; exact box_get (t := 24) (l := [.int .i64 K,.int .i64 T,.int .i64 M]) (o := false) (h := g) (by omega)
  have low : ∀ x,x < g.next → gA.t.get x = g.t.get x := fun x hx => by rw [eA]; exact new_low (by omega)
  have tabA : tabOK (gA.t.get 0) = true := by rw [low 0 h0]; exact ht
  have bx : opBox 24 (some (tgA (K,T,M))) g = .ok (.value (.pointer (some ⟨g.next,0,none⟩)),gA) := by rw [eA]; rfl
  have lK : ∀ g2 : SHeap,g2.t.get g.next = some (.cells (Tr.ofL 33 [.int .i64 K,.int .i64 T,.int .i64 M]) 3 24 false false) → opLoad (Eo O) 3 (some (.pointer (some ⟨g.next,0 + 0,none⟩))) g2 = .ok (.value (.int .i64 K),g2) := fun g2 h2 => load_one (E := Eo O) (h := g2) E3 rfl h2 (show (Tr.ofL 33 [Value.int .i64 K,.int .i64 T,.int .i64 M]).get (0 + 0) = some (.int .i64 K) from rfl)
  have lT : opLoad (Eo O) 3 (some (.pointer (some ⟨g.next,0 + 1,none⟩))) gA = .ok (.value (.int .i64 T),gA) := load_one (E := Eo O) (h := gA) E3 rfl hg (show (Tr.ofL 33 [Value.int .i64 K,.int .i64 T,.int .i64 M]).get (0 + 1) = some (.int .i64 T) from rfl)
  have lM : opLoad (Eo O) 3 (some (.pointer (some ⟨g.next,0 + 2,none⟩))) gA = .ok (.value (.int .i64 M),gA) := load_one (E := Eo O) (h := gA) E3 rfl hg (show (Tr.ofL 33 [Value.int .i64 K,.int .i64 T,.int .i64 M]).get (0 + 2) = some (.int .i64 M) from rfl)
  have lK := lK gA hg
  have fin : ∀ {g' : SHeap},gA.next ≤ g'.next → g'.next ≤ gA.next + 10 → (∀ x,x < gA.next → g'.t.get x = gA.t.get x) → g.next ≤ g'.next ∧ g'.next ≤ g.next + 20 ∧ ∀ x,x < g.next → g'.t.get x = g.t.get x := fun a b c => ⟨by omega,by omega,fun x hx => by rw [c x (by omega),low x hx]⟩
  generalize hr : codeS (cF Tryz.f37) (Eo O) (run (Eo O) (k + 2)) ⟨37,36,.normal,none⟩ ⟨tm,g,[]⟩ = r
  by_cases z0 : K = 0
  · subst z0
    obtain ⟨g',i1,i2,i3,i4⟩ := num_says (k := k) o56 o67 fM gA tabA (by omega) (by omega)
    have il := itoa_len fM.1 fM.2
    have ad := fun (ev : Ev) (o : Oper) => add_str (E := Eo O) (ev := ev) (o := o) (t := 9) (x := [98,121,116,101,115,32]) (y := Lib.itoa M) (h := g') (by simp only [List.length_cons,List.length_nil]; omega)
    simp only [Tryz.f37,cF,Option.getD,cA,cB,cI,codeS,cSeq_run,cCond_run,cRegion_run,cRegion_draw,cBlock_run,cSkip_run,cRet_run,cExit_run,opsS_nil,opsS_run,opS_free,thenS_normal,thenS_ret,thenS_exit,exitBlock_normal,exitBlock_ret,exitBlock_exit,normalS_ok,dispatch,dMove,opMove,evT_tmp,evT_int,evT_bool,evT_str,dBin,dUn,dAlloc,lss_i64,geq_i64,eql_i64,neq_i64,add_i64,valR,afterS_value,putT_some,putT_none,get_put,lim,Nat.reduceLT,Nat.reduceEqDiff,and_true,if_true,if_false,reduceIte,false_and,true_and,Nat.beq,cond_true,cond_false,cLoop_run,
      dIndexAddr,dFieldAddr,dLoad,dStore,dBox,Option.bind_some,natOf_int,addrAdd_free,drawS_nil',drawS_cons',dstep_pure',dstep_reads',dstep_eff',readAgain_nil,readAgain_cons,valEq_int,callOut_enter,simOp_run,outVal_val,List.getElem?_toArray,List.getElem?_cons_succ,List.getElem?_cons_zero,List.drop_succ_cons,List.drop_zero,dPick,pick_true,pick_false,opS_guard,wantedS,dIndex,dBuild,dBuildSlice,dCall,evParts,evList,bqa,bqb,bqc,bqd,Bool.and_self,Bool.not_true,Bool.not_false,not_b,afterS_enter,call_fn en36,call_fn en37,call_fn en38,call_fn en67,call_fn en56,sub_i64,bx,fa24,fa24x,fa24y,lK,lM,t0,i1,ad,show ((0 : Int) == 0) = true from rfl] at hr
    subst hr
    refine ⟨_,g',rfl,?_,fin i2 i3 i4⟩
    have : kindT 0 T M = [98,121,116,101,115,32] ++ Lib.itoa M := by
      show Lib.join _ [32] = _
      simp [kindP,Part.txt,join2]
    rw [this]
    simp [get_put,lim]
  by_cases z1 : K = 1
  · subst z1
    simp only [Tryz.f37,cF,Option.getD,cA,cB,cI,codeS,cSeq_run,cCond_run,cRegion_run,cRegion_draw,cBlock_run,cSkip_run,cRet_run,cExit_run,opsS_nil,opsS_run,opS_free,thenS_normal,thenS_ret,thenS_exit,exitBlock_normal,exitBlock_ret,exitBlock_exit,normalS_ok,dispatch,dMove,opMove,evT_tmp,evT_int,evT_bool,evT_str,dBin,dUn,dAlloc,lss_i64,geq_i64,eql_i64,neq_i64,add_i64,valR,afterS_value,putT_some,putT_none,get_put,lim,Nat.reduceLT,Nat.reduceEqDiff,and_true,if_true,if_false,reduceIte,false_and,true_and,Nat.beq,cond_true,cond_false,cLoop_run,
      dIndexAddr,dFieldAddr,dLoad,dStore,dBox,Option.bind_some,natOf_int,addrAdd_free,drawS_nil',drawS_cons',dstep_pure',dstep_reads',dstep_eff',readAgain_nil,readAgain_cons,valEq_int,callOut_enter,simOp_run,outVal_val,List.getElem?_toArray,List.getElem?_cons_succ,List.getElem?_cons_zero,List.drop_succ_cons,List.drop_zero,dPick,pick_true,pick_false,opS_guard,wantedS,dIndex,dBuild,dBuildSlice,dCall,evParts,evList,bqa,bqb,bqc,bqd,Bool.and_self,Bool.not_true,Bool.not_false,not_b,afterS_enter,call_fn en36,call_fn en37,call_fn en38,call_fn en67,call_fn en56,sub_i64,bx,fa24,fa24x,fa24y,lK,t0,show ((1 : Int) == 0) = false from rfl,show ((1 : Int) == 1) = true from rfl] at hr
    subst hr
    refine ⟨_,gA,rfl,by simp [get_put,lim]; rfl,fin (Nat.le_refl _) (by omega) (fun _ _ => rfl)⟩
  by_cases z2 : K = 2
  · subst z2
    simp only [Tryz.f37,cF,Option.getD,cA,cB,cI,codeS,cSeq_run,cCond_run,cRegion_run,cRegion_draw,cBlock_run,cSkip_run,cRet_run,cExit_run,opsS_nil,opsS_run,opS_free,thenS_normal,thenS_ret,thenS_exit,exitBlock_normal,exitBlock_ret,exitBlock_exit,normalS_ok,dispatch,dMove,opMove,evT_tmp,evT_int,evT_bool,evT_str,dBin,dUn,dAlloc,lss_i64,geq_i64,eql_i64,neq_i64,add_i64,valR,afterS_value,putT_some,putT_none,get_put,lim,Nat.reduceLT,Nat.reduceEqDiff,and_true,if_true,if_false,reduceIte,false_and,true_and,Nat.beq,cond_true,cond_false,cLoop_run,
      dIndexAddr,dFieldAddr,dLoad,dStore,dBox,Option.bind_some,natOf_int,addrAdd_free,drawS_nil',drawS_cons',dstep_pure',dstep_reads',dstep_eff',readAgain_nil,readAgain_cons,valEq_int,callOut_enter,simOp_run,outVal_val,List.getElem?_toArray,List.getElem?_cons_succ,List.getElem?_cons_zero,List.drop_succ_cons,List.drop_zero,dPick,pick_true,pick_false,opS_guard,wantedS,dIndex,dBuild,dBuildSlice,dCall,evParts,evList,bqa,bqb,bqc,bqd,Bool.and_self,Bool.not_true,Bool.not_false,not_b,afterS_enter,call_fn en36,call_fn en37,call_fn en38,call_fn en67,call_fn en56,sub_i64,bx,fa24,fa24x,fa24y,lK,t0,show ((2 : Int) == 0) = false from rfl,show ((2 : Int) == 1) = false from rfl,show ((2 : Int) == 2) = true from rfl] at hr
    subst hr
    refine ⟨_,gA,rfl,by simp [get_put,lim]; rfl,fin (Nat.le_refl _) (by omega) (fun _ _ => rfl)⟩
  by_cases z3 : K = 3
  · subst z3
    simp only [Tryz.f37,cF,Option.getD,cA,cB,cI,codeS,cSeq_run,cCond_run,cRegion_run,cRegion_draw,cBlock_run,cSkip_run,cRet_run,cExit_run,opsS_nil,opsS_run,opS_free,thenS_normal,thenS_ret,thenS_exit,exitBlock_normal,exitBlock_ret,exitBlock_exit,normalS_ok,dispatch,dMove,opMove,evT_tmp,evT_int,evT_bool,evT_str,dBin,dUn,dAlloc,lss_i64,geq_i64,eql_i64,neq_i64,add_i64,valR,afterS_value,putT_some,putT_none,get_put,lim,Nat.reduceLT,Nat.reduceEqDiff,and_true,if_true,if_false,reduceIte,false_and,true_and,Nat.beq,cond_true,cond_false,cLoop_run,
      dIndexAddr,dFieldAddr,dLoad,dStore,dBox,Option.bind_some,natOf_int,addrAdd_free,drawS_nil',drawS_cons',dstep_pure',dstep_reads',dstep_eff',readAgain_nil,readAgain_cons,valEq_int,callOut_enter,simOp_run,outVal_val,List.getElem?_toArray,List.getElem?_cons_succ,List.getElem?_cons_zero,List.drop_succ_cons,List.drop_zero,dPick,pick_true,pick_false,opS_guard,wantedS,dIndex,dBuild,dBuildSlice,dCall,evParts,evList,bqa,bqb,bqc,bqd,Bool.and_self,Bool.not_true,Bool.not_false,not_b,afterS_enter,call_fn en36,call_fn en37,call_fn en38,call_fn en67,call_fn en56,sub_i64,bx,fa24,fa24x,fa24y,lK,t0,show ((3 : Int) == 0) = false from rfl,show ((3 : Int) == 1) = false from rfl,show ((3 : Int) == 2) = false from rfl,show ((3 : Int) == 3) = true from rfl] at hr
    subst hr
    refine ⟨_,gA,rfl,by simp [get_put,lim]; rfl,fin (Nat.le_refl _) (by omega) (fun _ _ => rfl)⟩
  by_cases z4 : K = 4
  · subst z4
    simp only [Tryz.f37,cF,Option.getD,cA,cB,cI,codeS,cSeq_run,cCond_run,cRegion_run,cRegion_draw,cBlock_run,cSkip_run,cRet_run,cExit_run,opsS_nil,opsS_run,opS_free,thenS_normal,thenS_ret,thenS_exit,exitBlock_normal,exitBlock_ret,exitBlock_exit,normalS_ok,dispatch,dMove,opMove,evT_tmp,evT_int,evT_bool,evT_str,dBin,dUn,dAlloc,lss_i64,geq_i64,eql_i64,neq_i64,add_i64,valR,afterS_value,putT_some,putT_none,get_put,lim,Nat.reduceLT,Nat.reduceEqDiff,and_true,if_true,if_false,reduceIte,false_and,true_and,Nat.beq,cond_true,cond_false,cLoop_run,
      dIndexAddr,dFieldAddr,dLoad,dStore,dBox,Option.bind_some,natOf_int,addrAdd_free,drawS_nil',drawS_cons',dstep_pure',dstep_reads',dstep_eff',readAgain_nil,readAgain_cons,valEq_int,callOut_enter,simOp_run,outVal_val,List.getElem?_toArray,List.getElem?_cons_succ,List.getElem?_cons_zero,List.drop_succ_cons,List.drop_zero,dPick,pick_true,pick_false,opS_guard,wantedS,dIndex,dBuild,dBuildSlice,dCall,evParts,evList,bqa,bqb,bqc,bqd,Bool.and_self,Bool.not_true,Bool.not_false,not_b,afterS_enter,call_fn en36,call_fn en37,call_fn en38,call_fn en67,call_fn en56,sub_i64,bx,fa24,fa24x,fa24y,lK,t0,show ((4 : Int) == 0) = false from rfl,show ((4 : Int) == 1) = false from rfl,show ((4 : Int) == 2) = false from rfl,show ((4 : Int) == 3) = false from rfl,show ((4 : Int) == 4) = true from rfl] at hr
    subst hr
    refine ⟨_,gA,rfl,by simp [get_put,lim]; rfl,fin (Nat.le_refl _) (by omega) (fun _ _ => rfl)⟩
  by_cases z5 : K = 5
  · subst z5
    obtain ⟨g',i1,i2,i3,i4⟩ := num_says (k := k) o56 o67 fT gA tabA (by omega) (by omega)
    have il := itoa_len fT.1 fT.2
    have ad := fun (ev : Ev) (o : Oper) => add_str (E := Eo O) (ev := ev) (o := o) (t := 9) (x := [114,111,119,32,111,102,32,116,97,98,108,101,32]) (y := Lib.itoa T) (h := g') (by simp only [List.length_cons,List.length_nil]; omega)
    simp only [Tryz.f37,cF,Option.getD,cA,cB,cI,codeS,cSeq_run,cCond_run,cRegion_run,cRegion_draw,cBlock_run,cSkip_run,cRet_run,cExit_run,opsS_nil,opsS_run,opS_free,thenS_normal,thenS_ret,thenS_exit,exitBlock_normal,exitBlock_ret,exitBlock_exit,normalS_ok,dispatch,dMove,opMove,evT_tmp,evT_int,evT_bool,evT_str,dBin,dUn,dAlloc,lss_i64,geq_i64,eql_i64,neq_i64,add_i64,valR,afterS_value,putT_some,putT_none,get_put,lim,Nat.reduceLT,Nat.reduceEqDiff,and_true,if_true,if_false,reduceIte,false_and,true_and,Nat.beq,cond_true,cond_false,cLoop_run,
      dIndexAddr,dFieldAddr,dLoad,dStore,dBox,Option.bind_some,natOf_int,addrAdd_free,drawS_nil',drawS_cons',dstep_pure',dstep_reads',dstep_eff',readAgain_nil,readAgain_cons,valEq_int,callOut_enter,simOp_run,outVal_val,List.getElem?_toArray,List.getElem?_cons_succ,List.getElem?_cons_zero,List.drop_succ_cons,List.drop_zero,dPick,pick_true,pick_false,opS_guard,wantedS,dIndex,dBuild,dBuildSlice,dCall,evParts,evList,bqa,bqb,bqc,bqd,Bool.and_self,Bool.not_true,Bool.not_false,not_b,afterS_enter,call_fn en36,call_fn en37,call_fn en38,call_fn en67,call_fn en56,sub_i64,bx,fa24,fa24x,fa24y,lK,lT,t0,i1,ad,show ((5 : Int) == 0) = false from rfl,show ((5 : Int) == 1) = false from rfl,show ((5 : Int) == 2) = false from rfl,show ((5 : Int) == 3) = false from rfl,show ((5 : Int) == 4) = false from rfl,show ((5 : Int) == 5) = true from rfl] at hr
    subst hr
    refine ⟨_,g',rfl,?_,fin i2 i3 i4⟩
    have : kindT 5 T M = [114,111,119,32,111,102,32,116,97,98,108,101,32] ++ Lib.itoa T := by
      show Lib.join _ [32] = _
      simp [kindP,Part.txt,join2]
    rw [this]
    simp [get_put,lim]
  by_cases z6 : K = 6
  · subst z6
    obtain ⟨g',i1,i2,i3,i4⟩ := num_says (k := k) o56 o67 fT gA tabA (by omega) (by omega)
    have il := itoa_len fT.1 fT.2
    have ad := fun (ev : Ev) (o : Oper) => add_str (E := Eo O) (ev := ev) (o := o) (t := 9) (x := [114,111,119,32,111,102,32,116,97,98,108,101,32]) (y := Lib.itoa T) (h := g') (by simp only [List.length_cons,List.length_nil]; omega)
    have ad2 := fun (ev : Ev) (o : Oper) => add_str (E := Eo O) (ev := ev) (o := o) (t := 9) (x := [114,111,119,32,111,102,32,116,97,98,108,101,32] ++ Lib.itoa T) (y := [32,111,114,32,48]) (h := g') (by simp only [List.length_append,List.length_cons,List.length_nil]; omega)
    simp only [Tryz.f37,cF,Option.getD,cA,cB,cI,codeS,cSeq_run,cCond_run,cRegion_run,cRegion_draw,cBlock_run,cSkip_run,cRet_run,cExit_run,opsS_nil,opsS_run,opS_free,thenS_normal,thenS_ret,thenS_exit,exitBlock_normal,exitBlock_ret,exitBlock_exit,normalS_ok,dispatch,dMove,opMove,evT_tmp,evT_int,evT_bool,evT_str,dBin,dUn,dAlloc,lss_i64,geq_i64,eql_i64,neq_i64,add_i64,valR,afterS_value,putT_some,putT_none,get_put,lim,Nat.reduceLT,Nat.reduceEqDiff,and_true,if_true,if_false,reduceIte,false_and,true_and,Nat.beq,cond_true,cond_false,cLoop_run,
      dIndexAddr,dFieldAddr,dLoad,dStore,dBox,Option.bind_some,natOf_int,addrAdd_free,drawS_nil',drawS_cons',dstep_pure',dstep_reads',dstep_eff',readAgain_nil,readAgain_cons,valEq_int,callOut_enter,simOp_run,outVal_val,List.getElem?_toArray,List.getElem?_cons_succ,List.getElem?_cons_zero,List.drop_succ_cons,List.drop_zero,dPick,pick_true,pick_false,opS_guard,wantedS,dIndex,dBuild,dBuildSlice,dCall,evParts,evList,bqa,bqb,bqc,bqd,Bool.and_self,Bool.not_true,Bool.not_false,not_b,afterS_enter,call_fn en36,call_fn en37,call_fn en38,call_fn en67,call_fn en56,sub_i64,bx,fa24,fa24x,fa24y,lK,lT,t0,i1,ad,ad2,show ((6 : Int) == 0) = false from rfl,show ((6 : Int) == 1) = false from rfl,show ((6 : Int) == 2) = false from rfl,show ((6 : Int) == 3) = false from rfl,show ((6 : Int) == 4) = false from rfl,show ((6 : Int) == 5) = false from rfl,show ((6 : Int) == 6) = true from rfl] at hr
    subst hr
    refine ⟨_,g',rfl,?_,fin i2 i3 i4⟩
    have : kindT 6 T M = [114,111,119,32,111,102,32,116,97,98,108,101,32] ++ Lib.itoa T ++ [32,111,114,32,48] := by
      show Lib.join _ [32] = _
      simp [kindP,Part.txt,join3]
    rw [this]
    simp [get_put,lim]
  obtain ⟨g',i1,i2,i3,i4⟩ := num_says (k := k) o56 o67 fK gA tabA (by omega) (by omega)
  have il := itoa_len fK.1 fK.2
  have ad := fun (ev : Ev) (o : Oper) => add_str (E := Eo O) (ev := ev) (o := o) (t := 9) (x := [107,105,110,100,32]) (y := Lib.itoa K) (h := g') (by simp only [List.length_cons,List.length_nil]; omega)
  have e0 : (K == 0) = false := by simp [z0]
  have e1 : (K == 1) = false := by simp [z1]
  have e2 : (K == 2) = false := by simp [z2]
  have e3 : (K == 3) = false := by simp [z3]
  have e4 : (K == 4) = false := by simp [z4]
  have e5 : (K == 5) = false := by simp [z5]
  have e6 : (K == 6) = false := by simp [z6]
  simp only [Tryz.f37,cF,Option.getD,cA,cB,cI,codeS,cSeq_run,cCond_run,cRegion_run,cRegion_draw,cBlock_run,cSkip_run,cRet_run,cExit_run,opsS_nil,opsS_run,opS_free,thenS_normal,thenS_ret,thenS_exit,exitBlock_normal,exitBlock_ret,exitBlock_exit,normalS_ok,dispatch,dMove,opMove,evT_tmp,evT_int,evT_bool,evT_str,dBin,dUn,dAlloc,lss_i64,geq_i64,eql_i64,neq_i64,add_i64,valR,afterS_value,putT_some,putT_none,get_put,lim,Nat.reduceLT,Nat.reduceEqDiff,and_true,if_true,if_false,reduceIte,false_and,true_and,Nat.beq,cond_true,cond_false,cLoop_run,
      dIndexAddr,dFieldAddr,dLoad,dStore,dBox,Option.bind_some,natOf_int,addrAdd_free,drawS_nil',drawS_cons',dstep_pure',dstep_reads',dstep_eff',readAgain_nil,readAgain_cons,valEq_int,callOut_enter,simOp_run,outVal_val,List.getElem?_toArray,List.getElem?_cons_succ,List.getElem?_cons_zero,List.drop_succ_cons,List.drop_zero,dPick,pick_true,pick_false,opS_guard,wantedS,dIndex,dBuild,dBuildSlice,dCall,evParts,evList,bqa,bqb,bqc,bqd,Bool.and_self,Bool.not_true,Bool.not_false,not_b,afterS_enter,call_fn en36,call_fn en37,call_fn en38,call_fn en67,call_fn en56,sub_i64,bx,fa24,fa24x,fa24y,lK,t0,i1,ad,e0,e1,e2,e3,e4,e5,e6] at hr
  subst hr
  refine ⟨_,g',rfl,?_,fin i2 i3 i4⟩
  simp only
  rw [kind_text z0 z1 z2 z3 z4 z5 z6]
  simp [get_put,lim]
theorem rtag_says {k : Nat} (o56 : O 56 = some itoaQ) (o67 : O 67 = none) (o37 : O 37 = none) {t : Tg} (hf : t.fits) {g : SHeap} (ht : tabOK (g.t.get 0) = true) (h0 : 0 < g.next) (hl : g.next + 6000 ≤ lim) :
    ∃ g',run (Eo O) (k + 3) (.call 37 #[tgA t] .normal) g = .ok (.string ⟨(kindT t.1 t.2.1 t.2.2).toArray⟩,g') ∧ g.next ≤ g'.next ∧ g'.next ≤ g.next + 20 ∧ ∀ x,x < g.next → g'.t.get x = g.t.get x := by
  obtain ⟨tm',g',k1,k2,k3,k4,k5⟩ := tag_code (k := k) o56 o67 hf ht h0 hl (tm := Tr.ofL 33 [tgA t]) rfl
  exact ⟨g',(run_call (show (Eo O).O 37 = none from o37)).trans (enterS_ret (vs := [_]) fn37 body37 nt37 rfl res37 k1 (by simp only [resultsS,k2,need])),k3,k4,k5⟩
end Go.Proofs.YtaclddcneogolaaGreatDoor

set_option linter.unusedSimpArgs false
set_option linter.unusedVariables false
namespace Go.Proofs.YtaclddcneogolaaGreatDoor
open Go Go.Sim
set_option maxRecDepth 100000
set_option maxHeartbeats 1000000
variable {O : Nat → Option (List Value → SHeap → Except String (Value × SHeap))} {ih : K}

theorem pl38a : planOf (Eo O) (nthD (drawsOf (cF Tryz.f38)) 0).toList = some ⟨[⟨0,.pure,0⟩,⟨1,.read,0⟩,⟨2,.eff,0⟩,⟨4,.pure,0⟩,⟨5,.read,0⟩,⟨6,.eff,1⟩,⟨3,.pure,1⟩],7,0⟩ := by kernel_rfl
theorem pl38b : planOf (Eo O) (nthD (drawsOf (cF Tryz.f38)) 1).toList = some ⟨[⟨0,.pure,0⟩,⟨1,.read,0⟩,⟨2,.eff,0⟩,⟨4,.pure,0⟩,⟨5,.read,0⟩,⟨6,.pure,0⟩,⟨7,.eff,1⟩,⟨3,.pure,1⟩],8,0⟩ := by kernel_rfl
theorem pl38c : planOf (Eo O) (nthD (drawsOf (cF Tryz.f38)) 2).toList = some ⟨[⟨0,.pure,0⟩,⟨1,.read,0⟩,⟨2,.eff,0⟩,⟨4,.pure,0⟩,⟨5,.read,0⟩,⟨6,.eff,1⟩,⟨9,.pure,0⟩,⟨10,.read,0⟩,⟨11,.eff,2⟩,⟨3,.pure,1⟩,⟨7,.pure,2⟩,⟨8,.pure,2⟩],12,0⟩ := by kernel_rfl
theorem body38 : Tryz.f38.body = some (cF Tryz.f38) := rfl
theorem fn38 : (Eo O).F 38 = some Tryz.f38 := by show Tab.funcs.get 38 = _; kernel_rfl
theorem nt38 {a : Value} : max Tryz.f38.ntmps (#[a] : Array Value).size = 44 := rfl
theorem res38 : Tryz.f38.results.toList = [.tmp 2] := rfl

theorem con_code {k : Nat} (o56 : O 56 = some itoaQ) (o67 : O 67 = none) (o36 : O 36 = none) {c : Tg} (hf : c.fits) {g : SHeap} (ht : tabOK (g.t.get 0) = true) (h0 : 0 < g.next) (hl : g.next + 6000 ≤ lim) {tm : Tr Value} (t0 : tm.get 0 = some (cnA c)) :
    ∃ tm' g',codeS (cF Tryz.f38) (Eo O) (run (Eo O) (k + 3)) ⟨38,44,.normal,none⟩ ⟨tm,g,[]⟩ = .ok (.ret,⟨tm',g',[]⟩) ∧ tm'.get 2 = some (.string ⟨(boundT c.1 c.2.1 c.2.2).toArray⟩) ∧ g.next ≤ g'.next ∧ g'.next ≤ g.next + 40 ∧ ∀ x,x < g.next → g'.t.get x = g.t.get x := by
  obtain ⟨I,J,C⟩ := c
  obtain ⟨fI,fJ,fC⟩ := hf
  simp only at fI fJ fC
  obtain ⟨gA,eA⟩ : ∃ gA,gA = newCells g 32 [.int .i64 I,.int .i64 J,.int .i64 C] false := ⟨_,rfl⟩
  have nA : gA.next = g.next + 1 := by rw [eA]; rfl
  have hg : gA.t.get g.next = some (.cells (Tr.ofL 33 [.int .i64 I,.int .i64 J,.int .i64 C]) 3 32 false false) := by
    rw [eA]; exact box_get (t := 32) (l := [.int .i64 I,.int .i64 J,.int .i64 C]) (o := false) (h := g) (by omega)
  have low : ∀ x,x < g.next → gA.t.get x = g.t.get x := fun x hx => by rw [eA]; exact new_low (by omega)
  have tabA : tabOK (gA.t.get 0) = true := by rw [low 0 h0]; exact ht
  have bx : opBox 32 (some (cnA (I,J,C))) g = .ok (.value (.pointer (some ⟨g.next,0,none⟩)),gA) := by rw [eA]; rfl
  have ld : ∀ g2 : SHeap,g2.t.get g.next = some (.cells (Tr.ofL 33 [.int .i64 I,.int .i64 J,.int .i64 C]) 3 32 false false) →
      opLoad (Eo O) 3 (some (.pointer (some ⟨g.next,0 + 0,none⟩))) g2 = .ok (.value (.int .i64 I),g2) ∧ opLoad (Eo O) 3 (some (.pointer (some ⟨g.next,0 + 1,none⟩))) g2 = .ok (.value (.int .i64 J),g2) ∧ opLoad (Eo O) 3 (some (.pointer (some ⟨g.next,0 + 2,none⟩))) g2 = .ok (.value (.int .i64 C),g2) := fun g2 h2 =>
    ⟨load_one (E := Eo O) (h := g2) E3 rfl h2 (show (Tr.ofL 33 [Value.int .i64 I,.int .i64 J,.int .i64 C]).get (0 + 0) = some (.int .i64 I) from rfl),load_one (E := Eo O) (h := g2) E3 rfl h2 (show (Tr.ofL 33 [Value.int .i64 I,.int .i64 J,.int .i64 C]).get (0 + 1) = some (.int .i64 J) from rfl),load_one (E := Eo O) (h := g2) E3 rfl h2 (show (Tr.ofL 33 [Value.int .i64 I,.int .i64 J,.int .i64 C]).get (0 + 2) = some (.int .i64 C) from rfl)⟩
  obtain ⟨aI,aJ,aC⟩ := ld gA hg
  have hgl : gA.next ≤ lim := by omega
  have hlim : lim = 4294967296 := rfl
  have nI := name_len fI.1 fI.2
  have nJ := name_len fJ.1 fJ.2
  have il := itoa_len fC.1 fC.2
  generalize hr : codeS (cF Tryz.f38) (Eo O) (run (Eo O) (k + 3)) ⟨38,44,.normal,none⟩ ⟨tm,g,[]⟩ = r
  by_cases hj : J = 0
  · have e0 : (J == 0) = true := by simp [hj]
    obtain ⟨g1,i1,i2,i3,i4⟩ := rname_says (k := k) o56 o67 o36 fI gA tabA (by omega) (by omega)
    obtain ⟨bI,bJ,bC⟩ := ld g1 (by rw [i4 g.next (by omega)]; exact hg)
    have tab1 : tabOK (g1.t.get 0) = true := by rw [i4 0 (by omega)]; exact tabA
    obtain ⟨g2,j1,j2,j3,j4⟩ := num_says (k := k + 1) o56 o67 fC g1 tab1 (by omega) (by omega)
    have bl1 : Nat.ble g1.next 4294967296 = true := by rw [Nat.ble_eq]; omega
    have bl2 : Nat.ble g2.next 4294967296 = true := by rw [Nat.ble_eq]; omega
    have ad := fun (ev : Ev) (o : Oper) (h : SHeap) => add_str (E := Eo O) (ev := ev) (o := o) (t := 9) (x := nameT I) (y := [32,60,61,32]) (h := h) (by simp only [List.length_cons,List.length_nil]; omega)
    have ad2 := fun (ev : Ev) (o : Oper) (h : SHeap) => add_str (E := Eo O) (ev := ev) (o := o) (t := 9) (x := nameT I ++ [32,60,61,32]) (y := Lib.itoa C) (h := h) (by simp only [List.length_append,List.length_cons,List.length_nil]; omega)
    have pl := pl38a (O := O)
    simp only [Tryz.f38,cF,Option.getD,drawsOf,List.append_nil,List.nil_append,List.cons_append,List.singleton_append,nthD] at pl
    simp only [Tryz.f38,cF,Option.getD,cA,cB,cI,codeS,cSeq_run,cCond_run,cRegion_run,cRegion_draw,cBlock_run,cSkip_run,cRet_run,cExit_run,opsS_nil,opsS_run,opS_free,thenS_normal,thenS_ret,thenS_exit,exitBlock_normal,exitBlock_ret,exitBlock_exit,normalS_ok,dispatch,dMove,opMove,evT_tmp,evT_int,evT_bool,evT_str,dBin,dUn,dAlloc,lss_i64,geq_i64,eql_i64,neq_i64,add_i64,valR,afterS_value,putT_some,putT_none,get_put,lim,Nat.reduceLT,Nat.reduceEqDiff,and_true,if_true,if_false,reduceIte,false_and,true_and,Nat.beq,cond_true,cond_false,cLoop_run,
      dIndexAddr,dFieldAddr,dLoad,dStore,dBox,Option.bind_some,natOf_int,addrAdd_free,drawS_nil',drawS_cons',dstep_pure',dstep_reads',dstep_eff',readAgain_nil,readAgain_cons,valEq_int,callOut_enter,simOp_run,outVal_val,List.getElem?_toArray,List.getElem?_cons_succ,List.getElem?_cons_zero,List.drop_succ_cons,List.drop_zero,dPick,pick_true,pick_false,opS_guard,wantedS,dIndex,dBuild,dBuildSlice,dCall,evParts,evList,bqa,bqb,bqc,bqd,Bool.and_self,Bool.not_true,Bool.not_false,not_b,afterS_enter,call_fn en36,call_fn en37,call_fn en38,call_fn en67,call_fn en56,sub_i64,bx,fa32,fa32x,fa32y,bDraw_list pl hgl,t0,aI,aJ,aC,bI,bJ,bC,i1,j1,bl1,bl2,ad,ad2,e0] at hr
    subst hr
    refine ⟨_,g2,rfl,?_,by omega,by omega,fun x hx => by rw [j4 x (by omega),i4 x (by omega),low x hx]⟩
    have : boundT I J C = nameT I ++ [32,60,61,32] ++ Lib.itoa C := by
      have hP : boundP I J C = [.str ⟨(nameT I).toArray⟩,.str ⟨#[60,61]⟩,.num C] := by simp only [boundP,hj,decide_true,cond_true]
      unfold boundT
      rw [hP]
      show Lib.join [nameT I,[60,61],Lib.itoa C] [32] = _
      rw [join3]; simp
    simp only
    rw [this]
    simp [get_put,lim]
  · have e0 : (J == 0) = false := by simp [hj]
    have d0 : decide (J = 0) = false := by simp [hj]
    by_cases hi : I = 0 ∧ C ≠ -9223372036854775808
    · obtain ⟨hi,hc⟩ := hi
      have e1 : (I == 0) = true := by simp [hi]
      have e2 : (C != -9223372036854775808) = true := by simp [hc]
      have d1 : (decide (I = 0) && !decide (C = -9223372036854775808)) = true := by simp [hi,hc]
      have hneg : wrapF .i64 (0 - C) = -C := by rw [Int.zero_sub]; exact wrapF_in (by omega) (by omega)
      have fN : i64 (-C) := ⟨by omega,by omega⟩
      have iln := itoa_len fN.1 fN.2
      obtain ⟨g1,i1,i2,i3,i4⟩ := rname_says (k := k) o56 o67 o36 fJ gA tabA (by omega) (by omega)
      obtain ⟨bI,bJ,bC⟩ := ld g1 (by rw [i4 g.next (by omega)]; exact hg)
      have tab1 : tabOK (g1.t.get 0) = true := by rw [i4 0 (by omega)]; exact tabA
      obtain ⟨g2,j1,j2,j3,j4⟩ := num_says (k := k + 1) o56 o67 fN g1 tab1 (by omega) (by omega)
      have bl1 : Nat.ble g1.next 4294967296 = true := by rw [Nat.ble_eq]; omega
      have bl2 : Nat.ble g2.next 4294967296 = true := by rw [Nat.ble_eq]; omega
      have ad := fun (ev : Ev) (o : Oper) (h : SHeap) => add_str (E := Eo O) (ev := ev) (o := o) (t := 9) (x := nameT J) (y := [32,62,61,32]) (h := h) (by simp only [List.length_cons,List.length_nil]; omega)
      have ad2 := fun (ev : Ev) (o : Oper) (h : SHeap) => add_str (E := Eo O) (ev := ev) (o := o) (t := 9) (x := nameT J ++ [32,62,61,32]) (y := Lib.itoa (-C)) (h := h) (by simp only [List.length_append,List.length_cons,List.length_nil]; omega)
      have pl := pl38b (O := O)
      simp only [Tryz.f38,cF,Option.getD,drawsOf,List.append_nil,List.nil_append,List.cons_append,List.singleton_append,nthD] at pl
      simp only [Tryz.f38,cF,Option.getD,cA,cB,cI,codeS,cSeq_run,cCond_run,cRegion_run,cRegion_draw,cBlock_run,cSkip_run,cRet_run,cExit_run,opsS_nil,opsS_run,opS_free,thenS_normal,thenS_ret,thenS_exit,exitBlock_normal,exitBlock_ret,exitBlock_exit,normalS_ok,dispatch,dMove,opMove,evT_tmp,evT_int,evT_bool,evT_str,dBin,dUn,dAlloc,lss_i64,geq_i64,eql_i64,neq_i64,add_i64,valR,afterS_value,putT_some,putT_none,get_put,lim,Nat.reduceLT,Nat.reduceEqDiff,and_true,if_true,if_false,reduceIte,false_and,true_and,Nat.beq,cond_true,cond_false,cLoop_run,
      dIndexAddr,dFieldAddr,dLoad,dStore,dBox,Option.bind_some,natOf_int,addrAdd_free,drawS_nil',drawS_cons',dstep_pure',dstep_reads',dstep_eff',readAgain_nil,readAgain_cons,valEq_int,callOut_enter,simOp_run,outVal_val,List.getElem?_toArray,List.getElem?_cons_succ,List.getElem?_cons_zero,List.drop_succ_cons,List.drop_zero,dPick,pick_true,pick_false,opS_guard,wantedS,dIndex,dBuild,dBuildSlice,dCall,evParts,evList,bqa,bqb,bqc,bqd,Bool.and_self,Bool.not_true,Bool.not_false,not_b,afterS_enter,call_fn en36,call_fn en37,call_fn en38,call_fn en67,call_fn en56,sub_i64,bx,fa32,fa32x,fa32y,bDraw_list pl hgl,t0,aI,aJ,aC,bI,bJ,bC,i1,j1,bl1,bl2,ad,ad2,e0,e1,e2,neg_i64,hneg] at hr
      subst hr
      refine ⟨_,g2,rfl,?_,by omega,by omega,fun x hx => by rw [j4 x (by omega),i4 x (by omega),low x hx]⟩
      have : boundT I J C = nameT J ++ [32,62,61,32] ++ Lib.itoa (-C) := by
        have hP : boundP I J C = [.str ⟨(nameT J).toArray⟩,.str ⟨#[62,61]⟩,.num (-C)] := by simp only [boundP,d0,d1,cond_true,cond_false]
        unfold boundT
        rw [hP]
        show Lib.join [nameT J,[62,61],Lib.itoa (-C)] [32] = _
        rw [join3]; simp
      simp only
      rw [this]
      simp [get_put,lim]
    · have d1 : (decide (I = 0) && !decide (C = -9223372036854775808)) = false := by
        by_cases hi0 : I = 0
        · by_cases hc0 : C = -9223372036854775808
          · simp [hc0]
          · exact absurd ⟨hi0,hc0⟩ hi
        · simp [hi0]
      obtain ⟨g1,i1,i2,i3,i4⟩ := rname_says (k := k) o56 o67 o36 fI gA tabA (by omega) (by omega)
      obtain ⟨bI,bJ,bC⟩ := ld g1 (by rw [i4 g.next (by omega)]; exact hg)
      have tab1 : tabOK (g1.t.get 0) = true := by rw [i4 0 (by omega)]; exact tabA
      obtain ⟨g2,j1,j2,j3,j4⟩ := rname_says (k := k) o56 o67 o36 fJ g1 tab1 (by omega) (by omega)
      obtain ⟨dI,dJ,dC⟩ := ld g2 (by rw [j4 g.next (by omega),i4 g.next (by omega)]; exact hg)
      have tab2 : tabOK (g2.t.get 0) = true := by rw [j4 0 (by omega)]; exact tab1
      obtain ⟨g3,l1,l2,l3,l4⟩ := num_says (k := k + 1) o56 o67 fC g2 tab2 (by omega) (by omega)
      have bl1 : Nat.ble g1.next 4294967296 = true := by rw [Nat.ble_eq]; omega
      have bl2 : Nat.ble g2.next 4294967296 = true := by rw [Nat.ble_eq]; omega
      have bl3 : Nat.ble g3.next 4294967296 = true := by rw [Nat.ble_eq]; omega
      have ad := fun (ev : Ev) (o : Oper) (h : SHeap) => add_str (E := Eo O) (ev := ev) (o := o) (t := 9) (x := nameT I) (y := [32,45,32]) (h := h) (by simp only [List.length_cons,List.length_nil]; omega)
      have ad2 := fun (ev : Ev) (o : Oper) (h : SHeap) => add_str (E := Eo O) (ev := ev) (o := o) (t := 9) (x := nameT I ++ [32,45,32]) (y := nameT J) (h := h) (by simp only [List.length_append,List.length_cons,List.length_nil]; omega)
      have ad3 := fun (ev : Ev) (o : Oper) (h : SHeap) => add_str (E := Eo O) (ev := ev) (o := o) (t := 9) (x := nameT I ++ [32,45,32] ++ nameT J) (y := [32,60,61,32]) (h := h) (by simp only [List.length_append,List.length_cons,List.length_nil]; omega)
      have ad4 := fun (ev : Ev) (o : Oper) (h : SHeap) => add_str (E := Eo O) (ev := ev) (o := o) (t := 9) (x := nameT I ++ [32,45,32] ++ nameT J ++ [32,60,61,32]) (y := Lib.itoa C) (h := h) (by simp only [List.length_append,List.length_cons,List.length_nil]; omega)
      have pl := pl38c (O := O)
      simp only [Tryz.f38,cF,Option.getD,drawsOf,List.append_nil,List.nil_append,List.cons_append,List.singleton_append,nthD] at pl
      have : boundT I J C = nameT I ++ [32,45,32] ++ nameT J ++ [32,60,61,32] ++ Lib.itoa C := by
        have hP : boundP I J C = [.str ⟨(nameT I).toArray⟩,.str ⟨#[45]⟩,.str ⟨(nameT J).toArray⟩,.str ⟨#[60,61]⟩,.num C] := by simp only [boundP,d0,d1,cond_true,cond_false]
        unfold boundT
        rw [hP]
        show Lib.join [nameT I,[45],nameT J,[60,61],Lib.itoa C] [32] = _
        rw [join5]; simp
      have lows : ∀ x,x < g.next → g3.t.get x = g.t.get x := fun x hx => by rw [l4 x (by omega),j4 x (by omega),i4 x (by omega),low x hx]
      by_cases hi0 : I = 0
      · have e1 : (I == 0) = true := by simp [hi0]
        have e2 : (C != -9223372036854775808) = false := by
          by_cases hc0 : C = -9223372036854775808
          · simp [hc0]
          · exact absurd ⟨hi0,hc0⟩ hi
        simp only [Tryz.f38,cF,Option.getD,cA,cB,cI,codeS,cSeq_run,cCond_run,cRegion_run,cRegion_draw,cBlock_run,cSkip_run,cRet_run,cExit_run,opsS_nil,opsS_run,opS_free,thenS_normal,thenS_ret,thenS_exit,exitBlock_normal,exitBlock_ret,exitBlock_exit,normalS_ok,dispatch,dMove,opMove,evT_tmp,evT_int,evT_bool,evT_str,dBin,dUn,dAlloc,lss_i64,geq_i64,eql_i64,neq_i64,add_i64,valR,afterS_value,putT_some,putT_none,get_put,lim,Nat.reduceLT,Nat.reduceEqDiff,and_true,if_true,if_false,reduceIte,false_and,true_and,Nat.beq,cond_true,cond_false,cLoop_run,
      dIndexAddr,dFieldAddr,dLoad,dStore,dBox,Option.bind_some,natOf_int,addrAdd_free,drawS_nil',drawS_cons',dstep_pure',dstep_reads',dstep_eff',readAgain_nil,readAgain_cons,valEq_int,callOut_enter,simOp_run,outVal_val,List.getElem?_toArray,List.getElem?_cons_succ,List.getElem?_cons_zero,List.drop_succ_cons,List.drop_zero,dPick,pick_true,pick_false,opS_guard,wantedS,dIndex,dBuild,dBuildSlice,dCall,evParts,evList,bqa,bqb,bqc,bqd,Bool.and_self,Bool.not_true,Bool.not_false,not_b,afterS_enter,call_fn en36,call_fn en37,call_fn en38,call_fn en67,call_fn en56,sub_i64,bx,fa32,fa32x,fa32y,bDraw_list pl hgl,t0,aI,aJ,aC,bI,bJ,bC,dI,dJ,dC,i1,j1,l1,bl1,bl2,bl3,ad,ad2,ad3,ad4,e0,e1,e2] at hr
        subst hr
        refine ⟨_,g3,rfl,?_,by omega,by omega,lows⟩
        simp only
        rw [this]
        simp [get_put,lim]
      · have e1 : (I == 0) = false := by simp [hi0]
        simp only [Tryz.f38,cF,Option.getD,cA,cB,cI,codeS,cSeq_run,cCond_run,cRegion_run,cRegion_draw,cBlock_run,cSkip_run,cRet_run,cExit_run,opsS_nil,opsS_run,opS_free,thenS_normal,thenS_ret,thenS_exit,exitBlock_normal,exitBlock_ret,exitBlock_exit,normalS_ok,dispatch,dMove,opMove,evT_tmp,evT_int,evT_bool,evT_str,dBin,dUn,dAlloc,lss_i64,geq_i64,eql_i64,neq_i64,add_i64,valR,afterS_value,putT_some,putT_none,get_put,lim,Nat.reduceLT,Nat.reduceEqDiff,and_true,if_true,if_false,reduceIte,false_and,true_and,Nat.beq,cond_true,cond_false,cLoop_run,
      dIndexAddr,dFieldAddr,dLoad,dStore,dBox,Option.bind_some,natOf_int,addrAdd_free,drawS_nil',drawS_cons',dstep_pure',dstep_reads',dstep_eff',readAgain_nil,readAgain_cons,valEq_int,callOut_enter,simOp_run,outVal_val,List.getElem?_toArray,List.getElem?_cons_succ,List.getElem?_cons_zero,List.drop_succ_cons,List.drop_zero,dPick,pick_true,pick_false,opS_guard,wantedS,dIndex,dBuild,dBuildSlice,dCall,evParts,evList,bqa,bqb,bqc,bqd,Bool.and_self,Bool.not_true,Bool.not_false,not_b,afterS_enter,call_fn en36,call_fn en37,call_fn en38,call_fn en67,call_fn en56,sub_i64,bx,fa32,fa32x,fa32y,bDraw_list pl hgl,t0,aI,aJ,aC,bI,bJ,bC,dI,dJ,dC,i1,j1,l1,bl1,bl2,bl3,ad,ad2,ad3,ad4,e0,e1] at hr
        subst hr
        refine ⟨_,g3,rfl,?_,by omega,by omega,lows⟩
        simp only
        rw [this]
        simp [get_put,lim]
theorem rcon_says {k : Nat} (o56 : O 56 = some itoaQ) (o67 : O 67 = none) (o36 : O 36 = none) (o38 : O 38 = none) {c : Tg} (hf : c.fits) {g : SHeap} (ht : tabOK (g.t.get 0) = true) (h0 : 0 < g.next) (hl : g.next + 6000 ≤ lim) :
    ∃ g',run (Eo O) (k + 4) (.call 38 #[cnA c] .normal) g = .ok (.string ⟨(boundT c.1 c.2.1 c.2.2).toArray⟩,g') ∧ g.next ≤ g'.next ∧ g'.next ≤ g.next + 40 ∧ ∀ x,x < g.next → g'.t.get x = g.t.get x := by
  obtain ⟨tm',g',k1,k2,k3,k4,k5⟩ := con_code (k := k) o56 o67 o36 hf ht h0 hl (tm := Tr.ofL 33 [cnA c]) rfl
  exact ⟨g',(run_call (show (Eo O).O 38 = none from o38)).trans (enterS_ret (vs := [_]) fn38 body38 nt38 rfl res38 k1 (by simp only [resultsS,k2,need])),k3,k4,k5⟩
end Go.Proofs.YtaclddcneogolaaGreatDoor

set_option linter.unusedSimpArgs false
set_option linter.unusedVariables false
namespace Go.Proofs.YtaclddcneogolaaGreatDoor
open Go Go.Sim
set_option maxRecDepth 100000
set_option maxHeartbeats 1000000
variable {O : Nat → Option (List Value → SHeap → Except String (Value × SHeap))} {ih : K}

theorem ab62 {s : ByteArray} : allocBuild (Eo O) ((Eo O).T 62) 1 (some [(0,.string s)]) = some (9,[.string s],.slc 1 1) := by kernel_rfl
theorem mkAV_one {b : Nat} : mkAV (.slc 1 1) b = .slice (some ⟨b,0,none⟩) 1 1 := (id rfl)
theorem list_one (x : Value) : [x].length = 1 := rfl

/-- a row of lines of its own,or none yet -/
def Lines (h : SHeap) (lo : Nat) (v : Value) (ls : List (List UInt8)) : Prop :=
  (ls = [] ∧ v = .slice none 0 0) ∨ ∃ r ct,v = .slice (some ⟨r,0,none⟩) ls.length openCap ∧ lo ≤ r ∧ r < h.next ∧ h.t.get r = some (.cells ct ls.length 9 true false) ∧ ∀ (i : Nat) (s : List UInt8),ls[i]? = some s → ct.get i = some (.string ⟨s.toArray⟩)
theorem Lines.keep {h h' : SHeap} {lo : Nat} {v : Value} {ls : List (List UInt8)} (k : Lines h lo v ls) (hn : h.next ≤ h'.next) (hk : ∀ x,x < h.next → h'.t.get x = h.t.get x) : Lines h' lo v ls := by
  rcases k with k | ⟨r,ct,k1,k2,k3,k4,k5⟩
  · exact .inl k
  · exact .inr ⟨r,ct,k1,k2,by omega,by rw [hk r k3]; exact k4,k5⟩
/-- one line more -/
theorem Lines.more {h : SHeap} {lo : Nat} {v : Value} {ls : List (List UInt8)} (k : Lines h lo v ls) {b : Nat} {x : List UInt8} (hb : h.t.get b = some (.cells (Tr.ofL 33 [.string ⟨x.toArray⟩]) 1 9 false false)) (hn : ls.length ≤ 10000000) (hl : h.next < lim) (hlo : lo ≤ h.next) :
    ∃ v' h',(∀ (cal : Callee) (a : Array Operand),appendS (Eo O) ⟨cal,a,#[62,62]⟩ [v,.slice (some ⟨b,0,none⟩) 1 1] h = .ok (v',h')) ∧ Lines h' lo v' (ls ++ [x]) ∧ h'.next = h.next + 1 ∧ ∀ y,y < lo → h'.t.get y = h.t.get y := by
  rcases k with ⟨rfl,rfl⟩ | ⟨r,ct,rfl,k2,k3,k4,k5⟩
  · refine ⟨_,_,fun cal a => app1xnil rfl hb,.inr ⟨h.next,Tr.ofL 33 [.string ⟨x.toArray⟩],rfl,hlo,by show h.next < h.next + 1; omega,?_,fun i s hs => ?_⟩,rfl,fun y hy => new_low (by omega)⟩
    · exact box_get (t := 9) (l := [.string ⟨x.toArray⟩]) (o := true) hl
    · cases i with
      | zero => obtain rfl := Option.some.inj hs; rfl
      | succ i => simp at hs
  · refine ⟨_,_,fun cal a => app1xopen rfl hb k4 hn,.inr ⟨h.next,ct.put ls.length (some (.string ⟨x.toArray⟩)),by rw [List.length_append]; rfl,hlo,by show h.next < h.next + 1; omega,?_,fun i s hs => ?_⟩,rfl,fun y hy => ?_⟩
    · simp only [SHeap.new,get_put]
      rw [if_pos ⟨rfl,hl⟩,List.length_append]
      rfl
    · have hle : ls.length < lim := by have : lim = 4294967296 := rfl; omega
      rw [get_put]
      by_cases e : i < ls.length
      · rw [if_neg (by omega)]
        rw [List.getElem?_append_left e] at hs
        exact k5 i s hs
      · rw [List.getElem?_append_right (by omega)] at hs
        cases hd : i - ls.length with
        | zero =>
          rw [hd] at hs
          obtain rfl := Option.some.inj hs
          rw [if_pos ⟨by omega,hle⟩]
        | succ j => rw [hd] at hs; simp at hs
    · simp only [SHeap.new,SHeap.set,get_put]
      rw [if_neg (by omega),if_neg (by omega)]

/-! ## the lines,one by one -/
def tagLs (b : Nat) : List Tg → List (List UInt8)
  | [] => []
  | t :: r => (bif tgZ t then [] else [wordsT (tagParts (.ofNat b) t)]) ++ tagLs (b + 1) r
theorem tagLs_snoc : ∀ (l : List Tg) (b : Nat) (t : Tg),tagLs b (l ++ [t]) = tagLs b l ++ (bif tgZ t then [] else [wordsT (tagParts (.ofNat (b + l.length)) t)])
  | [],b,t => by simp [tagLs]
  | u :: r,b,t => by
    simp only [List.cons_append,tagLs,tagLs_snoc r (b + 1) t,List.append_assoc,List.length_cons]
    rw [show b + 1 + r.length = b + (r.length + 1) by omega]
theorem tagLs_len : ∀ (l : List Tg) (b : Nat),(tagLs b l).length ≤ l.length
  | [],b => by simp [tagLs]
  | t :: r,b => by
    have := tagLs_len r (b + 1)
    simp only [tagLs,List.length_append,List.length_cons]
    cases tgZ t <;> simp <;> omega
def conLs (l : List Tg) : List (List UInt8) := l.map fun c => boundT c.1 c.2.1 c.2.2
def flat (ls : List (List UInt8)) : List UInt8 := ls.flatMap fun s => s ++ [10]
theorem flat_append (a b : List (List UInt8)) : flat (a ++ b) = flat a ++ flat b := by simp [flat]
theorem flat_tags : ∀ (l : List Tg) (b : Nat),flat (tagLs b l) = tagLines b l
  | [],b => rfl
  | t :: r,b => by
    simp only [tagLs,flat_append,flat_tags r (b + 1),tagLines]
    congr 1
    unfold tagLine
    cases tgZ t <;> simp [flat]
theorem flat_cons : ∀ l : List Tg,flat (conLs l) = conLines l
  | [] => rfl
  | c :: r => by
    have := flat_cons r
    simp only [conLs,List.map_cons,conLines] at *
    rw [show flat (boundT c.1 c.2.1 c.2.2 :: r.map fun c => boundT c.1 c.2.1 c.2.2) = (boundT c.1 c.2.1 c.2.2 ++ [10]) ++ flat (r.map fun c => boundT c.1 c.2.1 c.2.2) by simp [flat],this]
    rfl
theorem tag_text (v : Int) (t : Tg) : wordsT (tagParts v t) = nameT v ++ [32] ++ kindT t.1 t.2.1 t.2.2 := by
  show Lib.join [nameT v,kindT t.1 t.2.1 t.2.2] [32] = _
  rw [join2]; simp

noncomputable def rcX : Code := cI (cI (cB (cA (cB (cB (cB (cF Tryz.f19)))))))
noncomputable def rcY : Code := cI (cI (cB (cA (cB (cB (cB (cB (cF Tryz.f19))))))))
noncomputable def rcZ : Code := cI (cI (cB (cA (cB (cB (cB (cB (cB (cF Tryz.f19)))))))))
theorem pl19a : planOf (Eo O) (nthD (drawsOf (cF Tryz.f19)) 0).toList = some ⟨[⟨1,.pure,0⟩,⟨2,.pure,0⟩,⟨3,.eff,0⟩,⟨5,.pure,0⟩,⟨6,.pure,0⟩,⟨7,.pure,0⟩,⟨8,.read,0⟩,⟨9,.eff,1⟩,⟨0,.pure,0⟩,⟨4,.pure,1⟩,⟨10,.pure,2⟩,⟨11,.alloc,2⟩],12,12⟩ := by kernel_rfl
theorem pl19b : planOf (Eo O) (nthD (drawsOf (cF Tryz.f19)) 1).toList = some ⟨[⟨1,.pure,0⟩,⟨2,.pure,0⟩,⟨3,.eff,0⟩,⟨5,.pure,0⟩,⟨6,.pure,0⟩,⟨7,.pure,0⟩,⟨8,.read,0⟩,⟨9,.eff,1⟩,⟨0,.pure,0⟩,⟨4,.pure,1⟩,⟨10,.pure,2⟩,⟨11,.alloc,2⟩],12,12⟩ := by kernel_rfl
theorem neq17 {G : Nat} {tm : Tr Value} {t : Tg} {dst : Option Tmp} {ty : TypeId} {pos : String} {after : Array Edge} {g : Option (Nat × Bool)} {h : SHeap} (h1 : tm.get 17 = some (tgA t)) (h2 : tm.get 18 = some (tgA (0,0,0))) :
    opBin (Eo O) (evT G tm) ⟨dst,.binOp .neq 24 (.tmp 17) (.tmp 18) 24,ty,pos,after,g⟩ .neq 24 (some (tgA t)) (some (tgA (0,0,0))) h = .ok (.value (.bool (!tgZ t)),h) := by
  obtain ⟨x,y,z⟩ := t
  refine (bin_congr (e2 := evZ 17 18 (tgA (x,y,z)) (tgA (0,0,0))) h1 h2).trans ?_
  rcases x with (_ | x) | x
  · rcases y with (_ | y) | y
    · rcases z with (_ | z) | z <;> kernel_rfl
    · kernel_rfl
    · kernel_rfl
  · kernel_rfl
  · kernel_rfl
theorem neq40 {G : Nat} {tm : Tr Value} {t : Tg} {dst : Option Tmp} {ty : TypeId} {pos : String} {after : Array Edge} {g : Option (Nat × Bool)} {h : SHeap} (h1 : tm.get 40 = some (tgA t)) (h2 : tm.get 41 = some (tgA (0,0,0))) :
    opBin (Eo O) (evT G tm) ⟨dst,.binOp .neq 24 (.tmp 40) (.tmp 41) 24,ty,pos,after,g⟩ .neq 24 (some (tgA t)) (some (tgA (0,0,0))) h = .ok (.value (.bool (!tgZ t)),h) := by
  obtain ⟨x,y,z⟩ := t
  refine (bin_congr (e2 := evZ 40 41 (tgA (x,y,z)) (tgA (0,0,0))) h1 h2).trans ?_
  rcases x with (_ | x) | x
  · rcases y with (_ | y) | y
    · rcases z with (_ | z) | z <;> kernel_rfl
    · kernel_rfl
    · kernel_rfl
  · kernel_rfl
  · kernel_rfl

structure RcI (h1 : SHeap) (C : Nat) (v : Tmp) (ls : List (List UInt8)) (n0 : Nat) (j : Nat) (st : St) : Prop where
  ds : st.defers = []
  t1 : st.tm.get 1 = some (.pointer (some ⟨C,0,none⟩))
  t3 : ∃ val,st.tm.get 3 = some val ∧ Lines st.h h1.next val ls
  tv : st.tm.get v = some (.int .i64 (.ofNat j))
  le : h1.next ≤ st.h.next
  low : ∀ x,x < h1.next → st.h.t.get x = h1.t.get x
  next : st.h.next ≤ n0 + 100 * j

/-! ## the loop over the registers -/
theorem rcX_in {k : Nat} (o56 : O 56 = some itoaQ) (o67 : O 67 = none) (o36 : O 36 = none) (o37 : O 37 = none) {h1 : SHeap} {C : Nat} {rs ss : List Tg} {cv : Value} {cb : Tr Value} {e n0 : Nat} {q r : Bool} {pre : List (List UInt8)} (hrs : rs.length = 10) (hss : ss.length = 32) (fits : ∀ t ∈ rs,t.fits)
    (hC : h1.t.get C = some (.cells cb 128 e q r)) (hcb : cb.toL 32 128 = some (clV false rs ss cv)) (hC1 : C < h1.next) (h01 : 0 < h1.next) (tab : tabOK (h1.t.get 0) = true) (hlim : n0 + 100 * 10 + 60000 ≤ lim) (hpre : pre.length ≤ 1000)
    (j : Nat) (hj : j < 10) (st : St) (hS : RcI h1 C 4 (pre ++ tagLs 2 (rs.take j)) n0 j st) :
    ∃ st',codeS rcX (Eo O) (run (Eo O) (k + 4)) ⟨19,73,.normal,none⟩ st = .ok (.normal,st') ∧ RcI h1 C 4 (pre ++ tagLs 2 (rs.take (j + 1))) n0 (j + 1) st' := by
  obtain ⟨tm,⟨G,n⟩,dd⟩ := st
  obtain ⟨hd,t1,⟨val,t3,hL⟩,tv,le,low,hnx⟩ := hS
  simp only at hd t1 t3 hL tv le low hnx
  subst hd
  have hlim' : lim = 4294967296 := rfl
  obtain ⟨t,ht⟩ : ∃ t,rs[j]? = some t := ⟨rs[j],List.getElem?_eq_getElem (by omega)⟩
  have hft : t.fits := fits t (List.mem_of_getElem? ht)
  have hj' : decide (Int.ofNat j < 10) = true := decide_eq_true (by show (j : Int) < 10; omega)
  have hj2 : wrapF .i64 (Int.ofNat j + 1) = Int.ofNat (j + 1) := Go.Sim.wrap_small (m := j + 1) (by omega)
  have hjb : wrapF .i64 (2 + Int.ofNat j) = Int.ofNat (2 + j) := wrap_add (a := 2) (by decide) (by omega)
  have htk : rs.take (j + 1) = rs.take j ++ [t] := by rw [List.take_add_one,ht]; rfl
  have hll : (rs.take j).length = j := by rw [List.length_take]; omega
  have gC : (⟨G,n⟩ : SHeap).t.get C = some (.cells cb 128 e q r) := by rw [low C hC1]; exact hC
  have lt0 : ∀ g2 : SHeap,g2.t.get C = some (.cells cb 128 e q r) → opLoad (Eo O) 24 (some (.pointer (some ⟨C,0 + 1 + j * 3,none⟩))) g2 = .ok (.value (tgA t),g2) := fun g2 h2 =>
    load_tri T24l h2 (sub_list hcb (by omega) (by decide) (by rw [Nat.zero_add]; exact clV_reg ht))
  have lt1 := lt0 ⟨G,n⟩ gC
  have lt2 := lt0 ⟨G,n + 12⟩ gC
  have ia := fun (h : SHeap) (b o : Nat) => ia25 (O := O) (b := b) (o := o) (h := h) hj
  generalize hr : codeS rcX (Eo O) (run (Eo O) (k + 4)) ⟨19,73,.normal,none⟩ ⟨tm,⟨G,n⟩,[]⟩ = res
  unfold rcX at hr
  have neq := fun (G : Nat) (tm : Tr Value) (dst : Option Tmp) (ty : TypeId) (pos : String) (after : Array Edge) (g : Option (Nat × Bool)) (h : SHeap) (a) (b) => neq17 (O := O) (G := G) (tm := tm) (t := t) (dst := dst) (ty := ty) (pos := pos) (after := after) (g := g) (h := h) a b
  cases hz : tgZ t with
  | true =>
    rw [hz] at neq
    simp only [Bool.not_true] at neq
    simp only [Tryz.f19,cF,Option.getD,cA,cB,cI,codeS,cSeq_run,cCond_run,cRegion_run,cRegion_draw,cBlock_run,cSkip_run,cRet_run,cExit_run,opsS_nil,opsS_run,opS_free,thenS_normal,thenS_ret,thenS_exit,exitBlock_normal,exitBlock_ret,exitBlock_exit,normalS_ok,dispatch,dMove,opMove,evT_tmp,evT_int,evT_bool,evT_str,dBin,dUn,dAlloc,lss_i64,geq_i64,eql_i64,neq_i64,add_i64,valR,afterS_value,putT_some,putT_none,get_put,lim,Nat.reduceLT,Nat.reduceEqDiff,and_true,if_true,if_false,reduceIte,false_and,true_and,Nat.beq,cond_true,cond_false,cLoop_run,
      dIndexAddr,dFieldAddr,dLoad,dStore,dBox,Option.bind_some,natOf_int,addrAdd_free,drawS_nil',drawS_cons',dstep_pg,dstep_rg,dstep_eg,dstep_bg,wantedS_none,wantedS_some,callOut_value,valEq_tg,readAgain_nil,readAgain_cons,valEq_int,callOut_enter,simOp_run,outVal_val,List.getElem?_toArray,List.getElem?_cons_succ,List.getElem?_cons_zero,List.drop_succ_cons,List.drop_zero,dPick,pick_true,pick_false,opS_guard,dIndex,dBuild,dBuildSlice,dCall,evParts,evList,bqa,bqb,bqc,bqd,Bool.and_self,Bool.not_true,Bool.not_false,not_b,afterS_enter,call_fn en36,call_fn en37,call_fn en38,call_fn en67,call_fn en56,sub_i64,build24,allocOf_bs,ab62,mkAV_one,opCall_app,opBuiltin,opCall_len,bi_len27,len27c,fa29b,t1,t3,tv,hj',hj2,ia,lt1,neq] at hr
    subst hr
    refine ⟨_,rfl,rfl,?_,⟨val,?_,?_⟩,?_,?_,?_,?_⟩
    · simp [get_put,lim,t1]
    · simp [get_put,lim,t3]
    · rw [htk,tagLs_snoc,hz]
      simpa using hL
    · simp [get_put,lim]
    · exact le
    · exact low
    · show n ≤ _
      omega
  | false =>
    rw [hz] at neq
    simp only [Bool.not_false] at neq
    have hfn : i64 (Int.ofNat (2 + j)) := ⟨by show (-9223372036854775808 : Int) ≤ ((2 + j : Nat) : Int); omega,by show ((2 + j : Nat) : Int) ≤ 9223372036854775807; omega⟩
    have tab0 : tabOK ((⟨G,n + 12⟩ : SHeap).t.get 0) = true := by show tabOK (G.get 0) = true; rw [low 0 h01]; exact tab
    obtain ⟨g1,i1,i2,i3,i4⟩ := rname_says (k := k + 1) o56 o67 o36 hfn ⟨G,n + 12⟩ tab0 (by show 0 < n + 12; omega) (by show n + 12 + 5000 ≤ lim; omega)
    simp only at i2 i3 i4
    have tab1 : tabOK (g1.t.get 0) = true := by rw [i4 0 (by omega)]; exact tab0
    have lt3 := lt0 g1 (by rw [i4 C (by omega)]; exact gC)
    obtain ⟨g2,j1,j2,j3,j4⟩ := rtag_says (k := k + 1) o56 o67 o37 hft tab1 (by omega) (by omega)
    have low2 : ∀ x,x < n + 12 → g2.t.get x = G.get x := fun x hx => by rw [j4 x (by omega),i4 x hx]
    obtain ⟨g3,e3⟩ : ∃ g3,g3 = SHeap.set g2 (n + 11) (some (.cells (Tr.ofL 33 [Value.string ⟨(wordsT (tagParts (Int.ofNat (2 + j)) t)).toArray⟩]) 1 9 false false)) := ⟨_,rfl⟩
    have n3 : g3.next = g2.next := by rw [e3]; rfl
    have low3 : ∀ x,x < n + 11 → g3.t.get x = G.get x := fun x hx => by
      rw [e3]; simp only [SHeap.set,get_put]; rw [if_neg (by omega)]; exact low2 x (by omega)
    have g3b : g3.t.get (n + 11) = some (.cells (Tr.ofL 33 [Value.string ⟨(wordsT (tagParts (Int.ofNat (2 + j)) t)).toArray⟩]) 1 9 false false) := by
      rw [e3]; simp only [SHeap.set,get_put]; exact if_pos ⟨trivial,by omega⟩
    have hL3 : Lines g3 h1.next val (pre ++ tagLs 2 (rs.take j)) := hL.keep (by show n ≤ g3.next; omega) (fun x hx => low3 x (by have hx : x < n := hx; omega))
    have lcl := tagLs_len (rs.take j) 2
    obtain ⟨v',g4,ap,m1,m2,m3⟩ := hL3.more (O := O) g3b (by rw [List.length_append]; omega) (by omega) (by omega)
    have nl := name_len hfn.1 hfn.2
    have tl : (nameT (Int.ofNat (2 + j)) ++ [32] ++ kindT t.1 t.2.1 t.2.2).length ≤ 131 := by rw [← tag_text]; exact (tagParts_len (t := t) hfn.1 hfn.2 hft).2
    have ad := fun (ev : Ev) (o : Oper) (h : SHeap) => add_str (E := Eo O) (ev := ev) (o := o) (t := 9) (x := nameT (Int.ofNat (2 + j))) (y := [32]) (h := h) (by simp only [List.length_cons,List.length_nil]; omega)
    have ad2 := fun (ev : Ev) (o : Oper) (h : SHeap) => add_str (E := Eo O) (ev := ev) (o := o) (t := 9) (x := nameT (Int.ofNat (2 + j)) ++ [32]) (y := kindT t.1 t.2.1 t.2.2) (h := h) (by rw [List.length_append] at tl; omega)
    have hset : SHeap.set g2 (n + 11) (some (.cells (Tr.ofL 33 [Value.string ⟨(nameT (Int.ofNat (2 + j)) ++ [32] ++ kindT t.1 t.2.1 t.2.2).toArray⟩]) 1 9 false false)) = g3 := by rw [e3,tag_text]
    have bl1 : Nat.ble g1.next 4294967296 = true := by rw [Nat.ble_eq]; omega
    have bl2 : Nat.ble g2.next 4294967296 = true := by rw [Nat.ble_eq]; omega
    have hp := pl19a (O := O)
    simp only [Tryz.f19,cF,Option.getD,drawsOf,nthD,List.append_nil,List.nil_append,List.cons_append,List.singleton_append] at hp
    simp only [Tryz.f19,cF,Option.getD,cA,cB,cI,codeS,cSeq_run,cCond_run,cRegion_run,cRegion_draw,cBlock_run,cSkip_run,cRet_run,cExit_run,opsS_nil,opsS_run,opS_free,thenS_normal,thenS_ret,thenS_exit,exitBlock_normal,exitBlock_ret,exitBlock_exit,normalS_ok,dispatch,dMove,opMove,evT_tmp,evT_int,evT_bool,evT_str,dBin,dUn,dAlloc,lss_i64,geq_i64,eql_i64,neq_i64,add_i64,valR,afterS_value,putT_some,putT_none,get_put,lim,Nat.reduceLT,Nat.reduceEqDiff,and_true,if_true,if_false,reduceIte,false_and,true_and,Nat.beq,cond_true,cond_false,cLoop_run,
      dIndexAddr,dFieldAddr,dLoad,dStore,dBox,Option.bind_some,natOf_int,addrAdd_free,drawS_nil',drawS_cons',dstep_pg,dstep_rg,dstep_eg,dstep_bg,wantedS_none,wantedS_some,callOut_value,valEq_tg,readAgain_nil,readAgain_cons,valEq_int,callOut_enter,simOp_run,outVal_val,List.getElem?_toArray,List.getElem?_cons_succ,List.getElem?_cons_zero,List.drop_succ_cons,List.drop_zero,dPick,pick_true,pick_false,opS_guard,dIndex,dBuild,dBuildSlice,dCall,evParts,evList,bqa,bqb,bqc,bqd,Bool.and_self,Bool.not_true,Bool.not_false,not_b,afterS_enter,call_fn en36,call_fn en37,call_fn en38,call_fn en67,call_fn en56,sub_i64,build24,allocOf_bs,ab62,mkAV_one,opCall_app,opBuiltin,opCall_len,bi_len27,len27c,fa29b,t1,t3,tv,hj',hj2,hjb,ia,lt1,lt2,lt3,neq,bDraw_res hp (show n + 12 ≤ lim by omega),i1,j1,bl1,bl2,ad,ad2,list_one,hset,ap] at hr
    subst hr
    refine ⟨_,rfl,rfl,?_,⟨v',?_,?_⟩,?_,?_,fun x hx => ?_,?_⟩
    · simp [get_put,lim,t1]
    · simp [get_put,lim]
    · rw [htk,tagLs_snoc,hz,hll]
      rw [← List.append_assoc]
      exact m1
    · simp [get_put,lim]
    · show h1.next ≤ g4.next
      omega
    · show g4.t.get x = _
      rw [m3 x hx,low3 x (by omega),low x hx]
    · show g4.next ≤ _
      omega
theorem rcX_end {h1 : SHeap} {C : Nat} {ls : List (List UInt8)} {n0 : Nat} (st : St) (hS : RcI h1 C 4 ls n0 10 st) :
    ∃ st',codeS rcX (Eo O) ih ⟨19,73,.normal,none⟩ st = .ok (.exit 0,st') ∧ RcI h1 C 4 ls n0 10 st' := by
  obtain ⟨tm,⟨G,n⟩,dd⟩ := st
  obtain ⟨hd,t1,⟨val,t3,hL⟩,tv,le,low,hnx⟩ := hS
  simp only at hd t1 t3 hL tv le low hnx
  subst hd
  have hj' : decide (Int.ofNat 10 < 10) = false := by decide
  generalize hr : codeS rcX (Eo O) ih ⟨19,73,.normal,none⟩ ⟨tm,⟨G,n⟩,[]⟩ = r
  unfold rcX at hr
  simp only [Tryz.f19,cF,Option.getD,cA,cB,cI,codeS,cSeq_run,cCond_run,cRegion_run,cRegion_draw,cBlock_run,cSkip_run,cRet_run,cExit_run,opsS_nil,opsS_run,opS_free,thenS_normal,thenS_ret,thenS_exit,exitBlock_normal,exitBlock_ret,exitBlock_exit,normalS_ok,dispatch,dMove,opMove,evT_tmp,evT_int,evT_bool,evT_str,dBin,dUn,dAlloc,lss_i64,geq_i64,eql_i64,neq_i64,add_i64,valR,afterS_value,putT_some,putT_none,get_put,lim,Nat.reduceLT,Nat.reduceEqDiff,and_true,if_true,if_false,reduceIte,false_and,true_and,Nat.beq,cond_true,cond_false,cLoop_run,
      dIndexAddr,dFieldAddr,dLoad,dStore,dBox,Option.bind_some,natOf_int,addrAdd_free,drawS_nil',drawS_cons',dstep_pg,dstep_rg,dstep_eg,dstep_bg,wantedS_none,wantedS_some,callOut_value,valEq_tg,readAgain_nil,readAgain_cons,valEq_int,callOut_enter,simOp_run,outVal_val,List.getElem?_toArray,List.getElem?_cons_succ,List.getElem?_cons_zero,List.drop_succ_cons,List.drop_zero,dPick,pick_true,pick_false,opS_guard,dIndex,dBuild,dBuildSlice,dCall,evParts,evList,bqa,bqb,bqc,bqd,Bool.and_self,Bool.not_true,Bool.not_false,not_b,afterS_enter,call_fn en36,call_fn en37,call_fn en38,call_fn en67,call_fn en56,sub_i64,build24,allocOf_bs,ab62,mkAV_one,opCall_app,opBuiltin,opCall_len,bi_len27,len27c,t1,t3,tv,hj'] at hr
  subst hr
  refine ⟨_,rfl,rfl,?_,⟨val,?_,hL⟩,?_,le,low,hnx⟩
  · simp [get_put,lim,t1]
  · simp [get_put,lim,t3]
  · simp [get_put,lim,tv]

/-! ## the loop over the stack -/
theorem rcY_in {k : Nat} (o56 : O 56 = some itoaQ) (o67 : O 67 = none) (o36 : O 36 = none) (o37 : O 37 = none) {h1 : SHeap} {C : Nat} {rs ss : List Tg} {cv : Value} {cb : Tr Value} {e n0 : Nat} {q r : Bool} {pre : List (List UInt8)} (hrs : rs.length = 10) (hss : ss.length = 32) (fits : ∀ t ∈ ss,t.fits)
    (hC : h1.t.get C = some (.cells cb 128 e q r)) (hcb : cb.toL 32 128 = some (clV false rs ss cv)) (hC1 : C < h1.next) (h01 : 0 < h1.next) (tab : tabOK (h1.t.get 0) = true) (hlim : n0 + 100 * 32 + 60000 ≤ lim) (hpre : pre.length ≤ 1000)
    (j : Nat) (hj : j < 32) (st : St) (hS : RcI h1 C 5 (pre ++ tagLs 12 (ss.take j)) n0 j st) :
    ∃ st',codeS rcY (Eo O) (run (Eo O) (k + 4)) ⟨19,73,.normal,none⟩ st = .ok (.normal,st') ∧ RcI h1 C 5 (pre ++ tagLs 12 (ss.take (j + 1))) n0 (j + 1) st' := by
  obtain ⟨tm,⟨G,n⟩,dd⟩ := st
  obtain ⟨hd,t1,⟨val,t3,hL⟩,tv,le,low,hnx⟩ := hS
  simp only at hd t1 t3 hL tv le low hnx
  subst hd
  have hlim' : lim = 4294967296 := rfl
  obtain ⟨t,ht⟩ : ∃ t,ss[j]? = some t := ⟨ss[j],List.getElem?_eq_getElem (by omega)⟩
  have hft : t.fits := fits t (List.mem_of_getElem? ht)
  have hj' : decide (Int.ofNat j < 32) = true := decide_eq_true (by show (j : Int) < 32; omega)
  have hj2 : wrapF .i64 (Int.ofNat j + 1) = Int.ofNat (j + 1) := Go.Sim.wrap_small (m := j + 1) (by omega)
  have hjb : wrapF .i64 (12 + Int.ofNat j) = Int.ofNat (12 + j) := wrap_add (a := 12) (by decide) (by omega)
  have htk : ss.take (j + 1) = ss.take j ++ [t] := by rw [List.take_add_one,ht]; rfl
  have hll : (ss.take j).length = j := by rw [List.length_take]; omega
  have gC : (⟨G,n⟩ : SHeap).t.get C = some (.cells cb 128 e q r) := by rw [low C hC1]; exact hC
  have lt0 : ∀ g2 : SHeap,g2.t.get C = some (.cells cb 128 e q r) → opLoad (Eo O) 24 (some (.pointer (some ⟨C,0 + 31 + j * 3,none⟩))) g2 = .ok (.value (tgA t),g2) := fun g2 h2 =>
    load_tri T24l h2 (sub_list hcb (by omega) (by decide) (by rw [Nat.zero_add]; exact clV_stk hrs ht))
  have lt1 := lt0 ⟨G,n⟩ gC
  have lt2 := lt0 ⟨G,n + 12⟩ gC
  have ia := fun (h : SHeap) (b o : Nat) => ia26 (O := O) (b := b) (o := o) (h := h) hj
  generalize hr : codeS rcY (Eo O) (run (Eo O) (k + 4)) ⟨19,73,.normal,none⟩ ⟨tm,⟨G,n⟩,[]⟩ = res
  unfold rcY at hr
  have neq := fun (G : Nat) (tm : Tr Value) (dst : Option Tmp) (ty : TypeId) (pos : String) (after : Array Edge) (g : Option (Nat × Bool)) (h : SHeap) (a) (b) => neq40 (O := O) (G := G) (tm := tm) (t := t) (dst := dst) (ty := ty) (pos := pos) (after := after) (g := g) (h := h) a b
  cases hz : tgZ t with
  | true =>
    rw [hz] at neq
    simp only [Bool.not_true] at neq
    simp only [Tryz.f19,cF,Option.getD,cA,cB,cI,codeS,cSeq_run,cCond_run,cRegion_run,cRegion_draw,cBlock_run,cSkip_run,cRet_run,cExit_run,opsS_nil,opsS_run,opS_free,thenS_normal,thenS_ret,thenS_exit,exitBlock_normal,exitBlock_ret,exitBlock_exit,normalS_ok,dispatch,dMove,opMove,evT_tmp,evT_int,evT_bool,evT_str,dBin,dUn,dAlloc,lss_i64,geq_i64,eql_i64,neq_i64,add_i64,valR,afterS_value,putT_some,putT_none,get_put,lim,Nat.reduceLT,Nat.reduceEqDiff,and_true,if_true,if_false,reduceIte,false_and,true_and,Nat.beq,cond_true,cond_false,cLoop_run,
      dIndexAddr,dFieldAddr,dLoad,dStore,dBox,Option.bind_some,natOf_int,addrAdd_free,drawS_nil',drawS_cons',dstep_pg,dstep_rg,dstep_eg,dstep_bg,wantedS_none,wantedS_some,callOut_value,valEq_tg,readAgain_nil,readAgain_cons,valEq_int,callOut_enter,simOp_run,outVal_val,List.getElem?_toArray,List.getElem?_cons_succ,List.getElem?_cons_zero,List.drop_succ_cons,List.drop_zero,dPick,pick_true,pick_false,opS_guard,dIndex,dBuild,dBuildSlice,dCall,evParts,evList,bqa,bqb,bqc,bqd,Bool.and_self,Bool.not_true,Bool.not_false,not_b,afterS_enter,call_fn en36,call_fn en37,call_fn en38,call_fn en67,call_fn en56,sub_i64,build24,allocOf_bs,ab62,mkAV_one,opCall_app,opBuiltin,opCall_len,bi_len27,len27c,fa29c,t1,t3,tv,hj',hj2,ia,lt1,neq] at hr
    subst hr
    refine ⟨_,rfl,rfl,?_,⟨val,?_,?_⟩,?_,?_,?_,?_⟩
    · simp [get_put,lim,t1]
    · simp [get_put,lim,t3]
    · rw [htk,tagLs_snoc,hz]
      simpa using hL
    · simp [get_put,lim]
    · exact le
    · exact low
    · show n ≤ _
      omega
  | false =>
    rw [hz] at neq
    simp only [Bool.not_false] at neq
    have hfn : i64 (Int.ofNat (12 + j)) := ⟨by show (-9223372036854775808 : Int) ≤ ((12 + j : Nat) : Int); omega,by show ((12 + j : Nat) : Int) ≤ 9223372036854775807; omega⟩
    have tab0 : tabOK ((⟨G,n + 12⟩ : SHeap).t.get 0) = true := by show tabOK (G.get 0) = true; rw [low 0 h01]; exact tab
    obtain ⟨g1,i1,i2,i3,i4⟩ := rname_says (k := k + 1) o56 o67 o36 hfn ⟨G,n + 12⟩ tab0 (by show 0 < n + 12; omega) (by show n + 12 + 5000 ≤ lim; omega)
    simp only at i2 i3 i4
    have tab1 : tabOK (g1.t.get 0) = true := by rw [i4 0 (by omega)]; exact tab0
    have lt3 := lt0 g1 (by rw [i4 C (by omega)]; exact gC)
    obtain ⟨g2,j1,j2,j3,j4⟩ := rtag_says (k := k + 1) o56 o67 o37 hft tab1 (by omega) (by omega)
    have low2 : ∀ x,x < n + 12 → g2.t.get x = G.get x := fun x hx => by rw [j4 x (by omega),i4 x hx]
    obtain ⟨g3,e3⟩ : ∃ g3,g3 = SHeap.set g2 (n + 11) (some (.cells (Tr.ofL 33 [Value.string ⟨(wordsT (tagParts (Int.ofNat (12 + j)) t)).toArray⟩]) 1 9 false false)) := ⟨_,rfl⟩
    have n3 : g3.next = g2.next := by rw [e3]; rfl
    have low3 : ∀ x,x < n + 11 → g3.t.get x = G.get x := fun x hx => by
      rw [e3]; simp only [SHeap.set,get_put]; rw [if_neg (by omega)]; exact low2 x (by omega)
    have g3b : g3.t.get (n + 11) = some (.cells (Tr.ofL 33 [Value.string ⟨(wordsT (tagParts (Int.ofNat (12 + j)) t)).toArray⟩]) 1 9 false false) := by
      rw [e3]; simp only [SHeap.set,get_put]; exact if_pos ⟨trivial,by omega⟩
    have hL3 : Lines g3 h1.next val (pre ++ tagLs 12 (ss.take j)) := hL.keep (by show n ≤ g3.next; omega) (fun x hx => low3 x (by have hx : x < n := hx; omega))
    have lcl := tagLs_len (ss.take j) 12
    obtain ⟨v',g4,ap,m1,m2,m3⟩ := hL3.more (O := O) g3b (by rw [List.length_append]; omega) (by omega) (by omega)
    have nl := name_len hfn.1 hfn.2
    have tl : (nameT (Int.ofNat (12 + j)) ++ [32] ++ kindT t.1 t.2.1 t.2.2).length ≤ 131 := by rw [← tag_text]; exact (tagParts_len (t := t) hfn.1 hfn.2 hft).2
    have ad := fun (ev : Ev) (o : Oper) (h : SHeap) => add_str (E := Eo O) (ev := ev) (o := o) (t := 9) (x := nameT (Int.ofNat (12 + j))) (y := [32]) (h := h) (by simp only [List.length_cons,List.length_nil]; omega)
    have ad2 := fun (ev : Ev) (o : Oper) (h : SHeap) => add_str (E := Eo O) (ev := ev) (o := o) (t := 9) (x := nameT (Int.ofNat (12 + j)) ++ [32]) (y := kindT t.1 t.2.1 t.2.2) (h := h) (by rw [List.length_append] at tl; omega)
    have hset : SHeap.set g2 (n + 11) (some (.cells (Tr.ofL 33 [Value.string ⟨(nameT (Int.ofNat (12 + j)) ++ [32] ++ kindT t.1 t.2.1 t.2.2).toArray⟩]) 1 9 false false)) = g3 := by rw [e3,tag_text]
    have bl1 : Nat.ble g1.next 4294967296 = true := by rw [Nat.ble_eq]; omega
    have bl2 : Nat.ble g2.next 4294967296 = true := by rw [Nat.ble_eq]; omega
    have hp := pl19b (O := O)
    simp only [Tryz.f19,cF,Option.getD,drawsOf,nthD,List.append_nil,List.nil_append,List.cons_append,List.singleton_append] at hp
    simp only [Tryz.f19,cF,Option.getD,cA,cB,cI,codeS,cSeq_run,cCond_run,cRegion_run,cRegion_draw,cBlock_run,cSkip_run,cRet_run,cExit_run,opsS_nil,opsS_run,opS_free,thenS_normal,thenS_ret,thenS_exit,exitBlock_normal,exitBlock_ret,exitBlock_exit,normalS_ok,dispatch,dMove,opMove,evT_tmp,evT_int,evT_bool,evT_str,dBin,dUn,dAlloc,lss_i64,geq_i64,eql_i64,neq_i64,add_i64,valR,afterS_value,putT_some,putT_none,get_put,lim,Nat.reduceLT,Nat.reduceEqDiff,and_true,if_true,if_false,reduceIte,false_and,true_and,Nat.beq,cond_true,cond_false,cLoop_run,
      dIndexAddr,dFieldAddr,dLoad,dStore,dBox,Option.bind_some,natOf_int,addrAdd_free,drawS_nil',drawS_cons',dstep_pg,dstep_rg,dstep_eg,dstep_bg,wantedS_none,wantedS_some,callOut_value,valEq_tg,readAgain_nil,readAgain_cons,valEq_int,callOut_enter,simOp_run,outVal_val,List.getElem?_toArray,List.getElem?_cons_succ,List.getElem?_cons_zero,List.drop_succ_cons,List.drop_zero,dPick,pick_true,pick_false,opS_guard,dIndex,dBuild,dBuildSlice,dCall,evParts,evList,bqa,bqb,bqc,bqd,Bool.and_self,Bool.not_true,Bool.not_false,not_b,afterS_enter,call_fn en36,call_fn en37,call_fn en38,call_fn en67,call_fn en56,sub_i64,build24,allocOf_bs,ab62,mkAV_one,opCall_app,opBuiltin,opCall_len,bi_len27,len27c,fa29c,t1,t3,tv,hj',hj2,hjb,ia,lt1,lt2,lt3,neq,bDraw_res hp (show n + 12 ≤ lim by omega),i1,j1,bl1,bl2,ad,ad2,list_one,hset,ap] at hr
    subst hr
    refine ⟨_,rfl,rfl,?_,⟨v',?_,?_⟩,?_,?_,fun x hx => ?_,?_⟩
    · simp [get_put,lim,t1]
    · simp [get_put,lim]
    · rw [htk,tagLs_snoc,hz,hll]
      rw [← List.append_assoc]
      exact m1
    · simp [get_put,lim]
    · show h1.next ≤ g4.next
      omega
    · show g4.t.get x = _
      rw [m3 x hx,low3 x (by omega),low x hx]
    · show g4.next ≤ _
      omega
theorem rcY_end {h1 : SHeap} {C : Nat} {ls : List (List UInt8)} {n0 : Nat} (st : St) (hS : RcI h1 C 5 ls n0 32 st) :
    ∃ st',codeS rcY (Eo O) ih ⟨19,73,.normal,none⟩ st = .ok (.exit 2,st') ∧ RcI h1 C 5 ls n0 32 st' := by
  obtain ⟨tm,⟨G,n⟩,dd⟩ := st
  obtain ⟨hd,t1,⟨val,t3,hL⟩,tv,le,low,hnx⟩ := hS
  simp only at hd t1 t3 hL tv le low hnx
  subst hd
  have hj' : decide (Int.ofNat 32 < 32) = false := by decide
  generalize hr : codeS rcY (Eo O) ih ⟨19,73,.normal,none⟩ ⟨tm,⟨G,n⟩,[]⟩ = r
  unfold rcY at hr
  simp only [Tryz.f19,cF,Option.getD,cA,cB,cI,codeS,cSeq_run,cCond_run,cRegion_run,cRegion_draw,cBlock_run,cSkip_run,cRet_run,cExit_run,opsS_nil,opsS_run,opS_free,thenS_normal,thenS_ret,thenS_exit,exitBlock_normal,exitBlock_ret,exitBlock_exit,normalS_ok,dispatch,dMove,opMove,evT_tmp,evT_int,evT_bool,evT_str,dBin,dUn,dAlloc,lss_i64,geq_i64,eql_i64,neq_i64,add_i64,valR,afterS_value,putT_some,putT_none,get_put,lim,Nat.reduceLT,Nat.reduceEqDiff,and_true,if_true,if_false,reduceIte,false_and,true_and,Nat.beq,cond_true,cond_false,cLoop_run,
      dIndexAddr,dFieldAddr,dLoad,dStore,dBox,Option.bind_some,natOf_int,addrAdd_free,drawS_nil',drawS_cons',dstep_pg,dstep_rg,dstep_eg,dstep_bg,wantedS_none,wantedS_some,callOut_value,valEq_tg,readAgain_nil,readAgain_cons,valEq_int,callOut_enter,simOp_run,outVal_val,List.getElem?_toArray,List.getElem?_cons_succ,List.getElem?_cons_zero,List.drop_succ_cons,List.drop_zero,dPick,pick_true,pick_false,opS_guard,dIndex,dBuild,dBuildSlice,dCall,evParts,evList,bqa,bqb,bqc,bqd,Bool.and_self,Bool.not_true,Bool.not_false,not_b,afterS_enter,call_fn en36,call_fn en37,call_fn en38,call_fn en67,call_fn en56,sub_i64,build24,allocOf_bs,ab62,mkAV_one,opCall_app,opBuiltin,opCall_len,bi_len27,len27c,t1,t3,tv,hj'] at hr
  subst hr
  refine ⟨_,rfl,rfl,?_,⟨val,?_,hL⟩,?_,le,low,hnx⟩
  · simp [get_put,lim,t1]
  · simp [get_put,lim,t3]
  · simp [get_put,lim,tv]
end Go.Proofs.YtaclddcneogolaaGreatDoor

set_option linter.unusedSimpArgs false
set_option linter.unusedVariables false
namespace Go.Proofs.YtaclddcneogolaaGreatDoor
open Go Go.Sim
set_option maxRecDepth 100000
set_option maxHeartbeats 1000000
variable {O : Nat → Option (List Value → SHeap → Except String (Value × SHeap))} {ih : K}

theorem rcZ_in {k : Nat} (o56 : O 56 = some itoaQ) (o67 : O 67 = none) (o36 : O 36 = none) (o38 : O 38 = none) {h1 : SHeap} {C : Nat} {rs ss cs : List Tg} {cv : Value} {cb : Tr Value} {x : SObj} {e n0 S o cap : Nat} {q r : Bool} {pre : List (List UInt8)} (hrs : rs.length = 10) (hss : ss.length = 32) (fits : ∀ t ∈ cs,t.fits) (hcs : cs.length ≤ 300000)
    (hC : h1.t.get C = some (.cells cb 128 e q r)) (hcb : cb.toL 32 128 = some (clV false rs ss cv)) (hC1 : C < h1.next) (h01 : 0 < h1.next) (tab : tabOK (h1.t.get 0) = true) (hlim : n0 + 100 * cs.length + 60000 ≤ lim) (hpre : pre.length ≤ 1000)
    (hsv : cv = .slice (some ⟨S,o,none⟩) cs.length cap) (hS1 : S < h1.next) (hSg : h1.t.get S = some x) (hct : ∀ j c,cs[j]? = some c → rowHas x (o + j * 3) [.int .i64 c.1,.int .i64 c.2.1,.int .i64 c.2.2])
    (j : Nat) (hj : j < cs.length) (st : St) (hS : RcI h1 C 6 (pre ++ conLs (cs.take j)) n0 j st) :
    ∃ st',codeS rcZ (Eo O) (run (Eo O) (k + 4)) ⟨19,73,.normal,none⟩ st = .ok (.normal,st') ∧ RcI h1 C 6 (pre ++ conLs (cs.take (j + 1))) n0 (j + 1) st' := by
  obtain ⟨tm,⟨G,n⟩,dd⟩ := st
  obtain ⟨hd,t1,⟨val,t3,hL⟩,tv,le,low,hnx⟩ := hS
  simp only at hd t1 t3 hL tv le low hnx
  subst hd
  have hlim' : lim = 4294967296 := rfl
  obtain ⟨c,hc⟩ : ∃ c,cs[j]? = some c := ⟨cs[j],List.getElem?_eq_getElem hj⟩
  have hfc : c.fits := fits c (List.mem_of_getElem? hc)
  have hj' : decide (Int.ofNat j < Int.ofNat cs.length) = true := decide_eq_true (by show (j : Int) < (cs.length : Int); omega)
  have hj2 : wrapF .i64 (Int.ofNat j + 1) = Int.ofNat (j + 1) := Go.Sim.wrap_small (m := j + 1) (by omega)
  have htk : conLs (cs.take (j + 1)) = conLs (cs.take j) ++ [boundT c.1 c.2.1 c.2.2] := by rw [List.take_add_one,hc]; simp [conLs]
  obtain ⟨_,hget⟩ := toL_get hcb
  have c127 : cb.get 127 = some cv := by rw [← hget 127 (by decide) (by decide)]; exact clV_cons hrs hss
  have gC : (⟨G,n⟩ : SHeap).t.get C = some (.cells cb 128 e q r) := by rw [low C hC1]; exact hC
  have gS : (⟨G,n⟩ : SHeap).t.get S = some x := by rw [low S hS1]; exact hSg
  have l27 : opLoad (Eo O) 27 (some (.pointer (some ⟨C,0 + 127,none⟩))) ⟨G,n⟩ = .ok (.value cv,⟨G,n⟩) := load_one (E := Eo O) E27 rfl gC (show cb.get (0 + 127) = _ from c127)
  have l32 : opLoad (Eo O) 32 (some (.pointer (some ⟨S,o + j * 3,none⟩))) ⟨G,n⟩ = .ok (.value (cnA c),⟨G,n⟩) := load_row T32l gS (hct j c hc)
  have ia := ia27 (O := O) (S := S) (o := o) (cap := cap) (h := ⟨G,n⟩) hj
  have tab0 : tabOK ((⟨G,n⟩ : SHeap).t.get 0) = true := by show tabOK (G.get 0) = true; rw [low 0 h01]; exact tab
  obtain ⟨g1,i1,i2,i3,i4⟩ := rcon_says (k := k) o56 o67 o36 o38 hfc tab0 (by show 0 < n; omega) (by show n + 6000 ≤ lim; omega)
  simp only at i2 i3 i4
  obtain ⟨g2,e2⟩ : ∃ g2,g2 = newCells g1 9 [Value.string ⟨(boundT c.1 c.2.1 c.2.2).toArray⟩] false := ⟨_,rfl⟩
  have n2 : g2.next = g1.next + 1 := by rw [e2]; rfl
  have low2 : ∀ y,y < n → g2.t.get y = G.get y := fun y hy => by rw [e2,new_low (by omega)]; exact i4 y hy
  have g2b : g2.t.get g1.next = some (.cells (Tr.ofL 33 [Value.string ⟨(boundT c.1 c.2.1 c.2.2).toArray⟩]) 1 9 false false) := by
    rw [e2]; exact box_get (t := 9) (l := [.string ⟨(boundT c.1 c.2.1 c.2.2).toArray⟩]) (o := false) (by omega)
  have bs : opBuildSlice (Eo O) ((Eo O).T 62) 1 (some [(0,.string ⟨(boundT c.1 c.2.1 c.2.2).toArray⟩)]) g1 = .ok (.value (.slice (some ⟨g1.next,0,none⟩) 1 1),g2) := by rw [e2]; exact buildSlice62
  have hL2 : Lines g2 h1.next val (pre ++ conLs (cs.take j)) := hL.keep (by show n ≤ g2.next; omega) (fun y hy => low2 y hy)
  have lcl : (conLs (cs.take j)).length = j := by unfold conLs; rw [List.length_map,List.length_take]; omega
  obtain ⟨v',g3,ap,m1,m2,m3⟩ := hL2.more (O := O) g2b (by rw [List.length_append]; omega) (by omega) (by omega)
  subst hsv
  generalize hr : codeS rcZ (Eo O) (run (Eo O) (k + 4)) ⟨19,73,.normal,none⟩ ⟨tm,⟨G,n⟩,[]⟩ = res
  unfold rcZ at hr
  simp only [Tryz.f19,cF,Option.getD,cA,cB,cI,codeS,cSeq_run,cCond_run,cRegion_run,cRegion_draw,cBlock_run,cSkip_run,cRet_run,cExit_run,opsS_nil,opsS_run,opS_free,thenS_normal,thenS_ret,thenS_exit,exitBlock_normal,exitBlock_ret,exitBlock_exit,normalS_ok,dispatch,dMove,opMove,evT_tmp,evT_int,evT_bool,evT_str,dBin,dUn,dAlloc,lss_i64,geq_i64,eql_i64,neq_i64,add_i64,valR,afterS_value,putT_some,putT_none,get_put,lim,Nat.reduceLT,Nat.reduceEqDiff,and_true,if_true,if_false,reduceIte,false_and,true_and,Nat.beq,cond_true,cond_false,cLoop_run,
      dIndexAddr,dFieldAddr,dLoad,dStore,dBox,Option.bind_some,natOf_int,addrAdd_free,drawS_nil',drawS_cons',dstep_pg,dstep_rg,dstep_eg,dstep_bg,wantedS_none,wantedS_some,callOut_value,valEq_tg,readAgain_nil,readAgain_cons,valEq_int,callOut_enter,simOp_run,outVal_val,List.getElem?_toArray,List.getElem?_cons_succ,List.getElem?_cons_zero,List.drop_succ_cons,List.drop_zero,dPick,pick_true,pick_false,opS_guard,dIndex,dBuild,dBuildSlice,dCall,evParts,evList,bqa,bqb,bqc,bqd,Bool.and_self,Bool.not_true,Bool.not_false,not_b,afterS_enter,call_fn en36,call_fn en37,call_fn en38,call_fn en67,call_fn en56,sub_i64,build24,allocOf_bs,ab62,mkAV_one,opCall_app,opBuiltin,opCall_len,bi_len27,len27c,fa29d,l27,l32,ia,i1,bs,ap,t1,t3,tv,hj',hj2] at hr
  subst hr
  refine ⟨_,rfl,rfl,?_,⟨v',?_,?_⟩,?_,?_,fun y hy => ?_,?_⟩
  · simp [get_put,lim,t1]
  · simp [get_put,lim]
  · rw [htk,← List.append_assoc]
    exact m1
  · simp [get_put,lim]
  · show h1.next ≤ g3.next
    omega
  · show g3.t.get y = _
    rw [m3 y hy,low2 y (by omega),low y hy]
  · show g3.next ≤ _
    omega

theorem rcZ_end {h1 : SHeap} {C : Nat} {rs ss cs : List Tg} {cv : Value} {cb : Tr Value} {e n0 cap : Nat} {a : Option Addr} {q r : Bool} {ls : List (List UInt8)} (hrs : rs.length = 10) (hss : ss.length = 32)
    (hC : h1.t.get C = some (.cells cb 128 e q r)) (hcb : cb.toL 32 128 = some (clV false rs ss cv)) (hC1 : C < h1.next) (hsv : cv = .slice a cs.length cap) (st : St) (hS : RcI h1 C 6 ls n0 cs.length st) :
    ∃ st',codeS rcZ (Eo O) ih ⟨19,73,.normal,none⟩ st = .ok (.exit 4,st') ∧ RcI h1 C 6 ls n0 cs.length st' := by
  obtain ⟨tm,⟨G,n⟩,dd⟩ := st
  obtain ⟨hd,t1,⟨val,t3,hL⟩,tv,le,low,hnx⟩ := hS
  simp only at hd t1 t3 hL tv le low hnx
  subst hd
  have hj' : decide (Int.ofNat cs.length < Int.ofNat cs.length) = false := by simp
  obtain ⟨_,hget⟩ := toL_get hcb
  have c127 : cb.get 127 = some cv := by rw [← hget 127 (by decide) (by decide)]; exact clV_cons hrs hss
  have gC : (⟨G,n⟩ : SHeap).t.get C = some (.cells cb 128 e q r) := by rw [low C hC1]; exact hC
  have l27 : opLoad (Eo O) 27 (some (.pointer (some ⟨C,0 + 127,none⟩))) ⟨G,n⟩ = .ok (.value cv,⟨G,n⟩) := load_one (E := Eo O) E27 rfl gC (show cb.get (0 + 127) = _ from c127)
  subst hsv
  generalize hr : codeS rcZ (Eo O) ih ⟨19,73,.normal,none⟩ ⟨tm,⟨G,n⟩,[]⟩ = res
  unfold rcZ at hr
  simp only [Tryz.f19,cF,Option.getD,cA,cB,cI,codeS,cSeq_run,cCond_run,cRegion_run,cRegion_draw,cBlock_run,cSkip_run,cRet_run,cExit_run,opsS_nil,opsS_run,opS_free,thenS_normal,thenS_ret,thenS_exit,exitBlock_normal,exitBlock_ret,exitBlock_exit,normalS_ok,dispatch,dMove,opMove,evT_tmp,evT_int,evT_bool,evT_str,dBin,dUn,dAlloc,lss_i64,geq_i64,eql_i64,neq_i64,add_i64,valR,afterS_value,putT_some,putT_none,get_put,lim,Nat.reduceLT,Nat.reduceEqDiff,and_true,if_true,if_false,reduceIte,false_and,true_and,Nat.beq,cond_true,cond_false,cLoop_run,
      dIndexAddr,dFieldAddr,dLoad,dStore,dBox,Option.bind_some,natOf_int,addrAdd_free,drawS_nil',drawS_cons',dstep_pg,dstep_rg,dstep_eg,dstep_bg,wantedS_none,wantedS_some,callOut_value,valEq_tg,readAgain_nil,readAgain_cons,valEq_int,callOut_enter,simOp_run,outVal_val,List.getElem?_toArray,List.getElem?_cons_succ,List.getElem?_cons_zero,List.drop_succ_cons,List.drop_zero,dPick,pick_true,pick_false,opS_guard,dIndex,dBuild,dBuildSlice,dCall,evParts,evList,bqa,bqb,bqc,bqd,Bool.and_self,Bool.not_true,Bool.not_false,not_b,afterS_enter,call_fn en36,call_fn en37,call_fn en38,call_fn en67,call_fn en56,sub_i64,build24,allocOf_bs,ab62,mkAV_one,opCall_app,opBuiltin,opCall_len,bi_len27,len27c,fa29d,l27,t1,t3,tv,hj'] at hr
  subst hr
  refine ⟨_,rfl,rfl,?_,⟨val,?_,hL⟩,?_,le,low,hnx⟩
  · simp [get_put,lim,t1]
  · simp [get_put,lim,t3]
  · simp [get_put,lim,tv]

/-! ## claim: the lines -/
/-- a row of lines,whoever's -/
def RowOf (h : SHeap) (v : Value) (ls : List (List UInt8)) : Prop :=
  (ls = [] ∧ v = .slice none 0 0) ∨ ∃ r ct cap m e p q,v = .slice (some ⟨r,0,none⟩) ls.length cap ∧ r < h.next ∧ h.t.get r = some (.cells ct m e p q) ∧ ∀ (i : Nat) (s : List UInt8),ls[i]? = some s → ct.get i = some (.string ⟨s.toArray⟩)
theorem Lines.row {h : SHeap} {lo : Nat} {v : Value} {ls : List (List UInt8)} (k : Lines h lo v ls) : RowOf h v ls := by
  rcases k with k | ⟨r,ct,k1,k2,k3,k4,k5⟩
  · exact .inl k
  · exact .inr ⟨r,ct,_,_,_,_,_,k1,k3,k4,k5⟩
def linesOf (d : Bool) (rs ss cs : List Tg) : List (List UInt8) := bif d then [[100,101,97,100]] else tagLs 2 rs ++ tagLs 12 ss ++ conLs cs
theorem flat_lines (d : Bool) (rs ss cs : List Tg) : flat (linesOf d rs ss cs) = claimT d rs ss cs := by
  cases d with
  | true => rfl
  | false =>
    show flat (tagLs 2 rs ++ tagLs 12 ss ++ conLs cs) = tagLines 2 rs ++ tagLines 12 ss ++ conLines cs
    rw [flat_append,flat_append,flat_tags,flat_tags,flat_cons]
theorem body19 : Tryz.f19.body = some (cF Tryz.f19) := rfl
theorem fn19 : (Eo O).F 19 = some Tryz.f19 := by show Tab.funcs.get 19 = _; kernel_rfl
theorem nt19 {a : Value} : max Tryz.f19.ntmps (#[a] : Array Value).size = 73 := rfl
theorem res19 : Tryz.f19.results.toList = [.tmp 2] := rfl
theorem bs62c {h : SHeap} : opBuildSlice (Eo O) ((Eo O).T 62) 1 (some [(0,.string ⟨#[100,101,97,100]⟩)]) h = .ok (.value (.slice (some ⟨h.next,0,none⟩) 1 1),newCells h 9 [.string ⟨#[100,101,97,100]⟩] false) := buildSlice62

theorem rclaim_run {k : Nat} (o56 : O 56 = some itoaQ) (o67 : O 67 = none) (o36 : O 36 = none) (o37 : O 37 = none) (o38 : O 38 = none) (o19 : O 19 = none) {h : SHeap} {d : Bool} {rs ss cs : List Tg} {cv : Value} (hrs : rs.length = 10) (hss : ss.length = 32) (frs : ∀ t ∈ rs,t.fits) (fss : ∀ t ∈ ss,t.fits) (fcs : ∀ t ∈ cs,t.fits) (hcs : cs.length ≤ 300000) (hlim : h.next + 100 * cs.length + 100000 ≤ lim)
    (hcons : ConsIn h cv cs) (tab : tabOK (h.t.get 0) = true) (hp : 0 < h.next) :
    ∃ v h',run (Eo O) (k + 5) (.call 19 #[.agg (clV d rs ss cv).toArray] .normal) h = .ok (v,h') ∧ RowOf h' v (linesOf d rs ss cs) ∧ h.next ≤ h'.next ∧ h'.next ≤ h.next + 100 * cs.length + 5000 ∧ ∀ x,x < h.next → h'.t.get x = h.t.get x := by
  have hlim' : lim = 4294967296 := rfl
  obtain ⟨hA,eA⟩ : ∃ hA,hA = newCells h 29 (clV d rs ss cv) false := ⟨_,rfl⟩
  have nA : hA.next = h.next + 1 := by rw [eA]; rfl
  have lowA : ∀ x,x < h.next → hA.t.get x = h.t.get x := fun x hx => by rw [eA]; exact new_low (by omega)
  have l128 := clV_len (d := d) (cv := cv) hrs hss
  have hcb := clV_toL (d := d) (cv := cv) hrs hss
  have gA : hA.t.get h.next = some (.cells (Tr.ofL 33 (clV d rs ss cv)) 128 29 false false) := by
    rw [eA]
    have := box_get (t := 29) (l := clV d rs ss cv) (o := false) (h := h) (by omega)
    rw [l128] at this
    exact this
  have tabA : tabOK (hA.t.get 0) = true := by rw [lowA 0 hp]; exact tab
  have consA : ConsIn hA cv cs := by
    rcases hcons with c | ⟨S,o,cap,x,c1,c2,c3,c4⟩
    · exact .inl c
    · exact .inr ⟨S,o,cap,x,c1,by omega,by rw [lowA S c2]; exact c3,c4⟩
  have bA : opBox 29 (some (.agg (clV d rs ss cv).toArray)) h = .ok (.value (.pointer (some ⟨h.next,0,none⟩)),hA) := by rw [eA]; rfl
  obtain ⟨_,hget⟩ := toL_get hcb
  have d0 : (Tr.ofL 33 (clV d rs ss cv)).get 0 = some (.bool d) := by rw [← hget 0 (by decide) (by decide)]; rfl
  have l4 : opLoad (Eo O) 4 (some (.pointer (some ⟨h.next,0 + 0,none⟩))) hA = .ok (.value (.bool d),hA) := load_one (E := Eo O) E4a rfl gA (show (Tr.ofL 33 (clV d rs ss cv)).get (0 + 0) = _ from d0)
  suffices hc : ∃ tm' v h',codeS (cF Tryz.f19) (Eo O) (run (Eo O) (k + 4)) ⟨19,73,.normal,none⟩ ⟨Tr.ofL 33 [.agg (clV d rs ss cv).toArray],h,[]⟩ = .ok (.ret,⟨tm',h',[]⟩) ∧ tm'.get 2 = some v ∧ RowOf h' v (linesOf d rs ss cs) ∧ h.next ≤ h'.next ∧ h'.next ≤ h.next + 100 * cs.length + 5000 ∧ ∀ x,x < h.next → h'.t.get x = h.t.get x by
    obtain ⟨tm',v,h',k1,k2,k3⟩ := hc
    exact ⟨v,h',(run_call (show (Eo O).O 19 = none from o19)).trans (enterS_ret (vs := [_]) fn19 body19 nt19 rfl res19 k1 (by simp only [resultsS,k2,need])),k3⟩
  generalize hr : codeS (cF Tryz.f19) (Eo O) (run (Eo O) (k + 4)) ⟨19,73,.normal,none⟩ ⟨Tr.ofL 33 [.agg (clV d rs ss cv).toArray],h,[]⟩ = res
  have t0 : (Tr.ofL 33 [Value.agg (clV d rs ss cv).toArray]).get 0 = some (.agg (clV d rs ss cv).toArray) := rfl
  generalize Tr.ofL 33 [Value.agg (clV d rs ss cv).toArray] = tm at hr t0
  cases d with
  | true =>
    have bs := bs62c (O := O) (h := hA)
    simp only [Tryz.f19,cF,Option.getD,cA,cB,cI,codeS,cSeq_run,cCond_run,cRegion_run,cRegion_draw,cBlock_run,cSkip_run,cRet_run,cExit_run,opsS_nil,opsS_run,opS_free,thenS_normal,thenS_ret,thenS_exit,exitBlock_normal,exitBlock_ret,exitBlock_exit,normalS_ok,dispatch,dMove,opMove,evT_tmp,evT_int,evT_bool,evT_str,dBin,dUn,dAlloc,lss_i64,geq_i64,eql_i64,neq_i64,add_i64,valR,afterS_value,putT_some,putT_none,get_put,lim,Nat.reduceLT,Nat.reduceEqDiff,and_true,if_true,if_false,reduceIte,false_and,true_and,Nat.beq,cond_true,cond_false,cLoop_run,
      dIndexAddr,dFieldAddr,dLoad,dStore,dBox,Option.bind_some,natOf_int,addrAdd_free,drawS_nil',drawS_cons',dstep_pg,dstep_rg,dstep_eg,dstep_bg,wantedS_none,wantedS_some,callOut_value,valEq_tg,readAgain_nil,readAgain_cons,valEq_int,callOut_enter,simOp_run,outVal_val,List.getElem?_toArray,List.getElem?_cons_succ,List.getElem?_cons_zero,List.drop_succ_cons,List.drop_zero,dPick,pick_true,pick_false,opS_guard,dIndex,dBuild,dBuildSlice,dCall,evParts,evList,bqa,bqb,bqc,bqd,Bool.and_self,Bool.not_true,Bool.not_false,not_b,afterS_enter,call_fn en36,call_fn en37,call_fn en38,call_fn en67,call_fn en56,sub_i64,build24,allocOf_bs,ab62,mkAV_one,opCall_app,opBuiltin,opCall_len,bi_len27,len27c,bA,fa29a,l4,bs,t0,evT_nilslice] at hr
    subst hr
    refine ⟨_,.slice (some ⟨hA.next,0,none⟩) 1 1,_,rfl,by simp [get_put,lim],.inr ⟨hA.next,Tr.ofL 33 [.string ⟨#[100,101,97,100]⟩],1,1,9,false,false,rfl,by show hA.next < hA.next + 1; omega,?_,fun i s hs => ?_⟩,by show h.next ≤ hA.next + 1; omega,by show hA.next + 1 ≤ _; omega,fun x hx => ?_⟩
    · exact box_get (t := 9) (l := [.string ⟨#[100,101,97,100]⟩]) (o := false) (by omega)
    · cases i with
      | zero => obtain rfl := Option.some.inj hs; rfl
      | succ i => simp [linesOf] at hs
    · rw [new_low (by omega)]; exact lowA x hx
  | false =>
    obtain ⟨tmx,hx⟩ : ∃ tmx,tmx = ((((((tm.put 1 (some (.pointer (some ⟨h.next,0,none⟩)))).put 2 (some (.slice none 0 0))).put 7 (some (.pointer (some ⟨h.next,0 + 0,none⟩)))).put 8 (some (.bool false))).put 3 (some (.slice none 0 0))).put 4 (some (.int .i64 0))) := ⟨_,rfl⟩
    have hx0 : RcI hA h.next 4 ([] ++ tagLs 2 (rs.take 0)) hA.next 0 ⟨tmx,hA,[]⟩ := by
      subst hx
      refine ⟨rfl,?_,⟨.slice none 0 0,?_,.inl ⟨rfl,rfl⟩⟩,?_,Nat.le_refl _,fun _ _ => rfl,by show hA.next ≤ _; omega⟩
      · simp [get_put,lim]
      · simp [get_put,lim]
      · simp [get_put,lim]
    obtain ⟨⟨tm1,hX,dd1⟩,ex,ix⟩ := loopS_inv (f := codeS rcX (Eo O) (run (Eo O) (k + 4)) ⟨19,73,.normal,none⟩) (I := fun j => RcI hA h.next 4 ([] ++ tagLs 2 (rs.take j)) hA.next j) (N := 10) (id := 0) (Q := RcI hA h.next 4 ([] ++ tagLs 2 (rs.take 10)) hA.next 10)
      (fun j st hj hI => rcX_in o56 o67 o36 o37 hrs hss frs gA hcb (by omega) (by omega) tabA (by omega) (by decide) j hj st hI) (fun st hI => rcX_end st hI) 10 1000000 0 _ (by omega) (by omega) hx0
    obtain ⟨hd1,u1,⟨w1,u3,L1⟩,_,le1,low1,nx1⟩ := ix
    simp only at hd1 u1 u3 L1 le1 low1 nx1
    subst hd1
    rw [List.nil_append,List.take_of_length_le (by omega)] at L1
    obtain ⟨tmy,hy⟩ : ∃ tmy,tmy = tm1.put 5 (some (.int .i64 0)) := ⟨_,rfl⟩
    have hy0 : RcI hA h.next 5 (tagLs 2 rs ++ tagLs 12 (ss.take 0)) (hA.next + 1000) 0 ⟨tmy,hX,[]⟩ := by
      subst hy
      refine ⟨rfl,?_,⟨w1,?_,by simpa [tagLs] using L1⟩,?_,le1,low1,by show hX.next ≤ _; omega⟩
      · simp [get_put,lim,u1]
      · simp [get_put,lim,u3]
      · simp [get_put,lim]
    have lr := tagLs_len rs 2
    obtain ⟨⟨tm2,hY,dd2⟩,ey,iy⟩ := loopS_inv (f := codeS rcY (Eo O) (run (Eo O) (k + 4)) ⟨19,73,.normal,none⟩) (I := fun j => RcI hA h.next 5 (tagLs 2 rs ++ tagLs 12 (ss.take j)) (hA.next + 1000) j) (N := 32) (id := 2) (Q := RcI hA h.next 5 (tagLs 2 rs ++ tagLs 12 (ss.take 32)) (hA.next + 1000) 32)
      (fun j st hj hI => rcY_in o56 o67 o36 o37 hrs hss fss gA hcb (by omega) (by omega) tabA (by omega) (by omega) j hj st hI) (fun st hI => rcY_end st hI) 32 1000000 0 _ (by omega) (by omega) hy0
    obtain ⟨hd2,v1,⟨w2,v3,L2⟩,_,le2,low2,nx2⟩ := iy
    simp only at hd2 v1 v3 L2 le2 low2 nx2
    subst hd2
    rw [List.take_of_length_le (by omega)] at L2
    have ls := tagLs_len ss 12
    obtain ⟨tmz,hz⟩ : ∃ tmz,tmz = tm2.put 6 (some (.int .i64 0)) := ⟨_,rfl⟩
    have hz0 : RcI hA h.next 6 ((tagLs 2 rs ++ tagLs 12 ss) ++ conLs (cs.take 0)) (hA.next + 4200) 0 ⟨tmz,hY,[]⟩ := by
      subst hz
      refine ⟨rfl,?_,⟨w2,?_,by simpa [conLs] using L2⟩,?_,le2,low2,by show hY.next ≤ _; omega⟩
      · simp [get_put,lim,v1]
      · simp [get_put,lim,v3]
      · simp [get_put,lim]
    obtain ⟨a,cap,hcv⟩ : ∃ a cap,cv = .slice a cs.length cap := by
      rcases consA with ⟨a,c,h1,h2⟩ | ⟨S,o,cap,x,h1,_⟩
      · exact ⟨a,c,by rw [h1,h2]; rfl⟩
      · exact ⟨_,cap,h1⟩
    obtain ⟨⟨tm3,hZ,dd3⟩,ez,iz⟩ := loopS_inv (f := codeS rcZ (Eo O) (run (Eo O) (k + 4)) ⟨19,73,.normal,none⟩) (I := fun j => RcI hA h.next 6 ((tagLs 2 rs ++ tagLs 12 ss) ++ conLs (cs.take j)) (hA.next + 4200) j) (N := cs.length) (id := 4) (Q := RcI hA h.next 6 ((tagLs 2 rs ++ tagLs 12 ss) ++ conLs (cs.take cs.length)) (hA.next + 4200) cs.length)
      (fun j st hj hI => by
        rcases consA with ⟨a,c,h1,h2⟩ | ⟨S,o,cap2,x,h1,h2,h3,h4⟩
        · rw [h2] at hj; simp at hj
        · exact rcZ_in o56 o67 o36 o38 hrs hss fcs hcs gA hcb (by omega) (by omega) tabA (by omega) (by rw [List.length_append]; omega) h1 h2 h3 h4 j hj st hI) (fun st hI => rcZ_end hrs hss gA hcb (by omega) hcv st hI) cs.length 1000000 0 _ (by omega) (by omega) hz0
    obtain ⟨hd3,x1,⟨w3,x3,L3⟩,_,le3,low3,nx3⟩ := iz
    simp only at hd3 x1 x3 L3 le3 low3 nx3
    subst hd3
    rw [List.take_of_length_le (Nat.le_refl _)] at L3
    subst hx hy hz
    unfold rcX at ex
    unfold rcY at ey
    unfold rcZ at ez
    simp only [Tryz.f19,cF,Option.getD,cA,cB,cI,codeS] at ex ey ez
    simp only [Tryz.f19,cF,Option.getD,cA,cB,cI,codeS,cSeq_run,cCond_run,cRegion_run,cRegion_draw,cBlock_run,cSkip_run,cRet_run,cExit_run,opsS_nil,opsS_run,opS_free,thenS_normal,thenS_ret,thenS_exit,exitBlock_normal,exitBlock_ret,exitBlock_exit,normalS_ok,dispatch,dMove,opMove,evT_tmp,evT_int,evT_bool,evT_str,dBin,dUn,dAlloc,lss_i64,geq_i64,eql_i64,neq_i64,add_i64,valR,afterS_value,putT_some,putT_none,get_put,lim,Nat.reduceLT,Nat.reduceEqDiff,and_true,if_true,if_false,reduceIte,false_and,true_and,Nat.beq,cond_true,cond_false,cLoop_run,
      dIndexAddr,dFieldAddr,dLoad,dStore,dBox,Option.bind_some,natOf_int,addrAdd_free,drawS_nil',drawS_cons',dstep_pg,dstep_rg,dstep_eg,dstep_bg,wantedS_none,wantedS_some,callOut_value,valEq_tg,readAgain_nil,readAgain_cons,valEq_int,callOut_enter,simOp_run,outVal_val,List.getElem?_toArray,List.getElem?_cons_succ,List.getElem?_cons_zero,List.drop_succ_cons,List.drop_zero,dPick,pick_true,pick_false,opS_guard,dIndex,dBuild,dBuildSlice,dCall,evParts,evList,bqa,bqb,bqc,bqd,Bool.and_self,Bool.not_true,Bool.not_false,not_b,afterS_enter,call_fn en36,call_fn en37,call_fn en38,call_fn en67,call_fn en56,sub_i64,build24,allocOf_bs,ab62,mkAV_one,opCall_app,opBuiltin,opCall_len,bi_len27,len27c,bA,fa29a,l4,ex,ey,ez,x3,t0,evT_nilslice] at hr
    subst hr
    exact ⟨_,w3,hZ,rfl,by simp [get_put,lim],L3.row,by omega,by omega,fun x hx => by rw [low3 x (by omega),lowA x hx]⟩
end Go.Proofs.YtaclddcneogolaaGreatDoor

set_option linter.unusedSimpArgs false
set_option linter.unusedVariables false
namespace Go.Proofs.YtaclddcneogolaaGreatDoor
open Go Go.Sim
set_option maxRecDepth 100000
set_option maxHeartbeats 1000000
variable {O : Nat → Option (List Value → SHeap → Except String (Value × SHeap))} {ih : K}

theorem bi_len62 {ev : Ev} {o : Oper} {ar : Array Operand} {x : Value} {h : SHeap} : opBuiltin (Eo O) ev o ⟨.builtin .len,ar,#[62]⟩ .len (some [x]) h = opLen (Eo O) ev o ((Eo O).T 62) x h := (id rfl)
theorem len62 {ev : Ev} {op : Oper} {a : Option Addr} {n c : Nat} {h : SHeap} : opLen (Eo O) ev op ((Eo O).T 62) (.slice a n c) h = .ok (.value (.int .i64 (.ofNat n)),h) := by
  rw [E62]; rfl
theorem ia62 {N cap S o j : Nat} {h : SHeap} (hj : j < N) : opIndexAddr (Eo O) ((Eo O).T 62) (some (.slice (some ⟨S,o,none⟩) N cap)) (some j) h = .ok (.value (.pointer (some ⟨S,o + j * 1,none⟩)),h) := by
  rw [E62]
  simp only [opIndexAddr,indexTo,E9]
  rw [blt_of hj,cond_true,addrAdd_free]
  rfl
noncomputable def rtX : Code := cI (cI (cB (cA (cB (cB (cF Tryz.f18))))))
structure RtI (h : SHeap) (v : Value) (text : List UInt8) (j : Nat) (st : St) : Prop where
  ds : st.defers = []
  hp : st.h = h
  t0 : st.tm.get 0 = some v
  t3 : st.tm.get 3 = some (.string ⟨text.toArray⟩)
  tv : st.tm.get 4 = some (.int .i64 (.ofNat j))
theorem flat_snoc (l : List (List UInt8)) (s : List UInt8) : flat (l ++ [s]) = flat l ++ s ++ [10] := by simp [flat]
theorem flat_len : ∀ (l : List (List UInt8)),(∀ s ∈ l,s.length ≤ 1000) → (flat l).length ≤ 1001 * l.length
  | [],_ => by simp [flat]
  | s :: r,h => by
    have i := flat_len r (fun u hu => h u (List.mem_cons_of_mem _ hu))
    have a := h s (List.mem_cons_self ..)
    rw [show flat (s :: r) = (s ++ [10]) ++ flat r by simp [flat],List.length_append,List.length_append,List.length_cons,List.length_cons,List.length_nil]
    omega
theorem rtX_in {h : SHeap} {v : Value} {ls : List (List UInt8)} {S cap m e : Nat} {p q : Bool} {ct : Tr Value} (hv : v = .slice (some ⟨S,0,none⟩) ls.length cap) (hS : h.t.get S = some (.cells ct m e p q)) (hct : ∀ (i : Nat) (s : List UInt8),ls[i]? = some s → ct.get i = some (.string ⟨s.toArray⟩)) (hls : ls.length ≤ 900000) (hall : ∀ s ∈ ls,s.length ≤ 1000)
    (j : Nat) (hj : j < ls.length) (st : St) (hI : RtI h v (flat (ls.take j)) j st) :
    ∃ st',codeS rtX (Eo O) ih ⟨18,19,.normal,none⟩ st = .ok (.normal,st') ∧ RtI h v (flat (ls.take (j + 1))) (j + 1) st' := by
  obtain ⟨tm,g,dd⟩ := st
  obtain ⟨hd,hp,t0,t3,tv⟩ := hI
  simp only at hd hp t0 t3 tv
  subst hd hp
  obtain ⟨s,hs⟩ : ∃ s,ls[j]? = some s := ⟨ls[j],List.getElem?_eq_getElem hj⟩
  have hj' : decide (Int.ofNat j < Int.ofNat ls.length) = true := decide_eq_true (by show (j : Int) < (ls.length : Int); omega)
  have hj2 : wrapF .i64 (Int.ofNat j + 1) = Int.ofNat (j + 1) := Go.Sim.wrap_small (m := j + 1) (by omega)
  have htk : ls.take (j + 1) = ls.take j ++ [s] := by rw [List.take_add_one,hs]; rfl
  have l9 : opLoad (Eo O) 9 (some (.pointer (some ⟨S,0 + j * 1,none⟩))) g = .ok (.value (.string ⟨s.toArray⟩),g) := load_one (E := Eo O) E9 rfl hS (show ct.get (0 + j * 1) = _ by rw [Nat.zero_add,Nat.mul_one]; exact hct j s hs)
  have ia := ia62 (O := O) (S := S) (o := 0) (cap := cap) (h := g) hj
  have fl := flat_len (ls.take j) (fun u hu => hall u (List.mem_of_mem_take hu))
  rw [List.length_take,Nat.min_eq_left (by omega)] at fl
  have sl := hall s (List.mem_of_getElem? hs)
  have ad := fun (ev : Ev) (o : Oper) (h : SHeap) => add_str (E := Eo O) (ev := ev) (o := o) (t := 9) (x := flat (ls.take j)) (y := s) (h := h) (by omega)
  have ad2 := fun (ev : Ev) (o : Oper) (h : SHeap) => add_str (E := Eo O) (ev := ev) (o := o) (t := 9) (x := flat (ls.take j) ++ s) (y := [10]) (h := h) (by rw [List.length_append]; simp only [List.length_cons,List.length_nil]; omega)
  subst hv
  generalize hr : codeS rtX (Eo O) ih ⟨18,19,.normal,none⟩ ⟨tm,g,[]⟩ = res
  unfold rtX at hr
  simp only [Tryz.f18,cF,Option.getD,cA,cB,cI,codeS,cSeq_run,cCond_run,cRegion_run,cRegion_draw,cBlock_run,cSkip_run,cRet_run,cExit_run,opsS_nil,opsS_run,opS_free,thenS_normal,thenS_ret,thenS_exit,exitBlock_normal,exitBlock_ret,exitBlock_exit,normalS_ok,dispatch,dMove,opMove,evT_tmp,evT_int,evT_bool,evT_str,dBin,dUn,dAlloc,lss_i64,geq_i64,eql_i64,neq_i64,add_i64,valR,afterS_value,putT_some,putT_none,get_put,lim,Nat.reduceLT,Nat.reduceEqDiff,and_true,if_true,if_false,reduceIte,false_and,true_and,Nat.beq,cond_true,cond_false,cLoop_run,
      dIndexAddr,dFieldAddr,dLoad,dStore,dBox,Option.bind_some,natOf_int,addrAdd_free,drawS_nil',drawS_cons',dstep_pg,dstep_rg,dstep_eg,dstep_bg,wantedS_none,wantedS_some,callOut_value,valEq_tg,readAgain_nil,readAgain_cons,valEq_int,callOut_enter,simOp_run,outVal_val,List.getElem?_toArray,List.getElem?_cons_succ,List.getElem?_cons_zero,List.drop_succ_cons,List.drop_zero,dPick,pick_true,pick_false,opS_guard,dIndex,dBuild,dBuildSlice,dCall,evParts,evList,bqa,bqb,bqc,bqd,Bool.and_self,Bool.not_true,Bool.not_false,not_b,afterS_enter,call_fn en36,call_fn en37,call_fn en38,call_fn en67,call_fn en56,sub_i64,build24,allocOf_bs,ab62,mkAV_one,opCall_app,opBuiltin,opCall_len,bi_len27,len27c,bi_len62,len62,l9,ia,t0,t3,tv,hj',hj2,ad,ad2] at hr
  subst hr
  refine ⟨_,rfl,rfl,rfl,?_,?_,?_⟩
  · simp [get_put,lim,t0]
  · rw [htk,flat_snoc]
    simp [get_put,lim]
  · simp [get_put,lim]
theorem rtX_end {h : SHeap} {v : Value} {n cap : Nat} {a : Option Addr} {text : List UInt8} (hv : v = .slice a n cap) (st : St) (hI : RtI h v text n st) :
    ∃ st',codeS rtX (Eo O) ih ⟨18,19,.normal,none⟩ st = .ok (.exit 0,st') ∧ RtI h v text n st' := by
  obtain ⟨tm,g,dd⟩ := st
  obtain ⟨hd,hp,t0,t3,tv⟩ := hI
  simp only at hd hp t0 t3 tv
  subst hd hp
  have hj' : decide (Int.ofNat n < Int.ofNat n) = false := by simp
  subst hv
  generalize hr : codeS rtX (Eo O) ih ⟨18,19,.normal,none⟩ ⟨tm,g,[]⟩ = res
  unfold rtX at hr
  simp only [Tryz.f18,cF,Option.getD,cA,cB,cI,codeS,cSeq_run,cCond_run,cRegion_run,cRegion_draw,cBlock_run,cSkip_run,cRet_run,cExit_run,opsS_nil,opsS_run,opS_free,thenS_normal,thenS_ret,thenS_exit,exitBlock_normal,exitBlock_ret,exitBlock_exit,normalS_ok,dispatch,dMove,opMove,evT_tmp,evT_int,evT_bool,evT_str,dBin,dUn,dAlloc,lss_i64,geq_i64,eql_i64,neq_i64,add_i64,valR,afterS_value,putT_some,putT_none,get_put,lim,Nat.reduceLT,Nat.reduceEqDiff,and_true,if_true,if_false,reduceIte,false_and,true_and,Nat.beq,cond_true,cond_false,cLoop_run,
      dIndexAddr,dFieldAddr,dLoad,dStore,dBox,Option.bind_some,natOf_int,addrAdd_free,drawS_nil',drawS_cons',dstep_pg,dstep_rg,dstep_eg,dstep_bg,wantedS_none,wantedS_some,callOut_value,valEq_tg,readAgain_nil,readAgain_cons,valEq_int,callOut_enter,simOp_run,outVal_val,List.getElem?_toArray,List.getElem?_cons_succ,List.getElem?_cons_zero,List.drop_succ_cons,List.drop_zero,dPick,pick_true,pick_false,opS_guard,dIndex,dBuild,dBuildSlice,dCall,evParts,evList,bqa,bqb,bqc,bqd,Bool.and_self,Bool.not_true,Bool.not_false,not_b,afterS_enter,call_fn en36,call_fn en37,call_fn en38,call_fn en67,call_fn en56,sub_i64,build24,allocOf_bs,ab62,mkAV_one,opCall_app,opBuiltin,opCall_len,bi_len27,len27c,bi_len62,len62,t0,t3,tv,hj'] at hr
  subst hr
  refine ⟨_,rfl,rfl,rfl,?_,?_,?_⟩
  · simp [get_put,lim,t0]
  · simp [get_put,lim,t3]
  · simp [get_put,lim,tv]
theorem body18 : Tryz.f18.body = some (cF Tryz.f18) := rfl
theorem fn18 : (Eo O).F 18 = some Tryz.f18 := by show Tab.funcs.get 18 = _; kernel_rfl
theorem nt18 {a : Value} : max Tryz.f18.ntmps (#[a] : Array Value).size = 19 := rfl
theorem res18 : Tryz.f18.results.toList = [.tmp 2] := rfl
theorem en18 : EntersS (Eo O) 18 := fun _ _ => by kernel_rfl
theorem en19 : EntersS (Eo O) 19 := fun _ _ => by kernel_rfl
theorem rtext_run {k : Nat} (o18 : O 18 = none) {h : SHeap} {v : Value} {ls : List (List UInt8)} (hrow : RowOf h v ls) (hls : ls.length ≤ 900000) (hall : ∀ s ∈ ls,s.length ≤ 1000) :
    run (Eo O) (k + 1) (.call 18 #[v] .normal) h = .ok (.string ⟨(flat ls).toArray⟩,h) := by
  suffices hc : ∃ tm',codeS (cF Tryz.f18) (Eo O) (run (Eo O) k) ⟨18,19,.normal,none⟩ ⟨Tr.ofL 33 [v],h,[]⟩ = .ok (.ret,⟨tm',h,[]⟩) ∧ tm'.get 2 = some (.string ⟨(flat ls).toArray⟩) by
    obtain ⟨tm',k1,k2⟩ := hc
    exact (run_call (show (Eo O).O 18 = none from o18)).trans (enterS_ret (vs := [_]) fn18 body18 nt18 rfl res18 k1 (by simp only [resultsS,k2,need]))
  generalize hr : codeS (cF Tryz.f18) (Eo O) (run (Eo O) k) ⟨18,19,.normal,none⟩ ⟨Tr.ofL 33 [v],h,[]⟩ = res
  have t0 : (Tr.ofL 33 [v]).get 0 = some v := rfl
  generalize Tr.ofL 33 [v] = tm at hr t0
  obtain ⟨tmx,hx⟩ : ∃ tmx,tmx = (((tm.put 2 (some (.string ⟨#[]⟩))).put 3 (some (.string ⟨#[]⟩))).put 4 (some (.int .i64 0))) := ⟨_,rfl⟩
  have hx0 : RtI h v (flat (ls.take 0)) 0 ⟨tmx,h,[]⟩ := by
    subst hx
    refine ⟨rfl,rfl,?_,?_,?_⟩
    · simp [get_put,lim,t0]
    · simp [get_put,lim,flat]
    · simp [get_put,lim]
  obtain ⟨⟨tm1,h1,dd1⟩,ex,ix⟩ := loopS_inv (f := codeS rtX (Eo O) (run (Eo O) k) ⟨18,19,.normal,none⟩) (I := fun j => RtI h v (flat (ls.take j)) j) (N := ls.length) (id := 0) (Q := RtI h v (flat (ls.take ls.length)) ls.length)
    (fun j st hj hI => by
      rcases hrow with ⟨rfl,_⟩ | ⟨r,ct,cap,m,e,p,q,hv,hr,hg,hc⟩
      · simp at hj
      · exact rtX_in hv hg hc hls hall j hj st hI) (fun st hI => by
      rcases hrow with ⟨rfl,hv⟩ | ⟨r,ct,cap,m,e,p,q,hv,hr,hg,hc⟩
      · exact rtX_end (by rw [hv]; rfl) st hI
      · exact rtX_end hv st hI) ls.length 1000000 0 _ (by omega) (by omega) hx0
  obtain ⟨hd,hh,u0,u3,_⟩ := ix
  simp only at hd hh u0 u3
  subst hd hh
  rw [List.take_of_length_le (Nat.le_refl _)] at u3
  subst hx
  unfold rtX at ex
  simp only [Tryz.f18,cF,Option.getD,cA,cB,cI,codeS] at ex
  simp only [Tryz.f18,cF,Option.getD,cA,cB,cI,codeS,cSeq_run,cCond_run,cRegion_run,cRegion_draw,cBlock_run,cSkip_run,cRet_run,cExit_run,opsS_nil,opsS_run,opS_free,thenS_normal,thenS_ret,thenS_exit,exitBlock_normal,exitBlock_ret,exitBlock_exit,normalS_ok,dispatch,dMove,opMove,evT_tmp,evT_int,evT_bool,evT_str,dBin,dUn,dAlloc,lss_i64,geq_i64,eql_i64,neq_i64,add_i64,valR,afterS_value,putT_some,putT_none,get_put,lim,Nat.reduceLT,Nat.reduceEqDiff,and_true,if_true,if_false,reduceIte,false_and,true_and,Nat.beq,cond_true,cond_false,cLoop_run,
      dIndexAddr,dFieldAddr,dLoad,dStore,dBox,Option.bind_some,natOf_int,addrAdd_free,drawS_nil',drawS_cons',dstep_pg,dstep_rg,dstep_eg,dstep_bg,wantedS_none,wantedS_some,callOut_value,valEq_tg,readAgain_nil,readAgain_cons,valEq_int,callOut_enter,simOp_run,outVal_val,List.getElem?_toArray,List.getElem?_cons_succ,List.getElem?_cons_zero,List.drop_succ_cons,List.drop_zero,dPick,pick_true,pick_false,opS_guard,dIndex,dBuild,dBuildSlice,dCall,evParts,evList,bqa,bqb,bqc,bqd,Bool.and_self,Bool.not_true,Bool.not_false,not_b,afterS_enter,call_fn en36,call_fn en37,call_fn en38,call_fn en67,call_fn en56,sub_i64,build24,allocOf_bs,ab62,mkAV_one,opCall_app,opBuiltin,opCall_len,bi_len27,len27c,bi_len62,len62,ex,u3,t0] at hr
  subst hr
  exact ⟨_,rfl,by simp [get_put,lim]⟩

/-! ## Claim -/
theorem body10 : Tryz.f10.body = some (cF Tryz.f10) := rfl
theorem fn10 : (Eo O).F 10 = some Tryz.f10 := by show Tab.funcs.get 10 = _; kernel_rfl
theorem nt10 {a : Value} : max Tryz.f10.ntmps (#[a] : Array Value).size = 6 := rfl
theorem res10 : Tryz.f10.results.toList = [.tmp 2] := rfl
theorem lines_short {d : Bool} {rs ss cs : List Tg} (hrs : rs.length = 10) (hss : ss.length = 32) (frs : ∀ t ∈ rs,t.fits) (fss : ∀ t ∈ ss,t.fits) (fcs : ∀ t ∈ cs,t.fits) : ∀ s ∈ linesOf d rs ss cs,s.length ≤ 1000 := by
  have tags : ∀ (l : List Tg) (b : Nat),(∀ t ∈ l,t.fits) → b + l.length ≤ 1000 → ∀ s ∈ tagLs b l,s.length ≤ 1000 := by
    intro l
    induction l with
    | nil => intro b _ _ s hs; simp [tagLs] at hs
    | cons t r ih =>
      intro b hf hb s hs
      simp only [List.length_cons] at hb
      simp only [tagLs,List.mem_append] at hs
      rcases hs with hs | hs
      · cases hz : tgZ t with
        | true => rw [hz] at hs; simp at hs
        | false =>
          rw [hz] at hs
          obtain rfl := List.mem_singleton.1 hs
          have := (tagParts_len (v := Int.ofNat b) (t := t) (by show (-9223372036854775808 : Int) ≤ (b : Int); omega) (by show (b : Int) ≤ 9223372036854775807; omega) (hf t (List.mem_cons_self ..))).2
          omega
      · exact ih (b + 1) (fun u hu => hf u (List.mem_cons_of_mem _ hu)) (by omega) s hs
  intro s hs
  cases d with
  | true =>
    obtain rfl := List.mem_singleton.1 hs
    decide
  | false =>
    have hs : s ∈ tagLs 2 rs ++ tagLs 12 ss ++ conLs cs := hs
    simp only [List.mem_append] at hs
    rcases hs with (hs | hs) | hs
    · exact tags rs 2 frs (by omega) s hs
    · exact tags ss 12 fss (by omega) s hs
    · obtain ⟨c,hc,rfl⟩ := List.mem_map.1 hs
      have := (bound_len (fcs c hc)).2
      omega
theorem lines_len {d : Bool} {rs ss cs : List Tg} (hrs : rs.length = 10) (hss : ss.length = 32) : (linesOf d rs ss cs).length ≤ 43 + cs.length := by
  cases d with
  | true => show 1 ≤ 43 + cs.length; omega
  | false =>
    show (tagLs 2 rs ++ tagLs 12 ss ++ conLs cs).length ≤ _
    have a := tagLs_len rs 2
    have b := tagLs_len ss 12
    rw [List.length_append,List.length_append]
    unfold conLs
    rw [List.length_map]
    omega
theorem refclaim_run {k : Nat} (o56 : O 56 = some itoaQ) (o67 : O 67 = none) (o36 : O 36 = none) (o37 : O 37 = none) (o38 : O 38 = none) (o19 : O 19 = none) (o18 : O 18 = none) (o10 : O 10 = none) {h : SHeap} {d : Bool} {rs ss cs : List Tg} {cv : Value} (hrs : rs.length = 10) (hss : ss.length = 32) (frs : ∀ t ∈ rs,t.fits) (fss : ∀ t ∈ ss,t.fits) (fcs : ∀ t ∈ cs,t.fits) (hcs : cs.length ≤ 300000) (hlim : h.next + 100 * cs.length + 200000 ≤ lim)
    (hcons : ConsIn h cv cs) (tab : tabOK (h.t.get 0) = true) (hp : 0 < h.next) :
    ∃ h',run (Eo O) (k + 6) (.call 10 #[.agg (clV d rs ss cv).toArray] .normal) h = .ok (.string ⟨(claimT d rs ss cs).toArray⟩,h') ∧ h.next ≤ h'.next ∧ h'.next ≤ h.next + 100 * cs.length + 6000 ∧ ∀ x,x < h.next → h'.t.get x = h.t.get x := by
  obtain ⟨hA,eA⟩ : ∃ hA,hA = newCells h 29 (clV d rs ss cv) false := ⟨_,rfl⟩
  have nA : hA.next = h.next + 1 := by rw [eA]; rfl
  have lowA : ∀ x,x < h.next → hA.t.get x = h.t.get x := fun x hx => by rw [eA]; exact new_low (by omega)
  have l128 := clV_len (d := d) (cv := cv) hrs hss
  have hcb := clV_toL (d := d) (cv := cv) hrs hss
  have gA : hA.t.get h.next = some (.cells (Tr.ofL 33 (clV d rs ss cv)) 128 29 false false) := by
    rw [eA]
    have := box_get (t := 29) (l := clV d rs ss cv) (o := false) (h := h) (by omega)
    rw [l128] at this
    exact this
  have bA : opBox 29 (some (.agg (clV d rs ss cv).toArray)) h = .ok (.value (.pointer (some ⟨h.next,0,none⟩)),hA) := by rw [eA]; rfl
  have l29 := load_many (O := O) (k := 0) (h := hA) E29 (by decide) E29a gA hcb (by decide) (by decide)
  replace l29 : opLoad (Eo O) 29 (some (.pointer (some ⟨h.next,0,none⟩))) hA = .ok (.value (.agg (clV d rs ss cv).toArray),hA) := by
    rw [List.drop_zero,List.take_of_length_le (by rw [l128]; decide)] at l29
    exact l29
  have consA : ConsIn hA cv cs := by
    rcases hcons with c | ⟨S,o,cap,x,c1,c2,c3,c4⟩
    · exact .inl c
    · exact .inr ⟨S,o,cap,x,c1,by omega,by rw [lowA S c2]; exact c3,c4⟩
  obtain ⟨v,h2,r1,r2,r3,r4,r5⟩ := rclaim_run (k := k) (d := d) (h := hA) o56 o67 o36 o37 o38 o19 hrs hss frs fss fcs hcs (by omega) consA (by rw [lowA 0 hp]; exact tab) (by omega)
  have ll := lines_len (d := d) (cs := cs) hrs hss
  have tx := rtext_run (k := k + 4) o18 r2 (by omega) (lines_short (d := d) hrs hss frs fss fcs)
  rw [flat_lines] at tx
  suffices hc : ∃ tm',codeS (cF Tryz.f10) (Eo O) (run (Eo O) (k + 5)) ⟨10,6,.normal,none⟩ ⟨Tr.ofL 33 [.agg (clV d rs ss cv).toArray],h,[]⟩ = .ok (.ret,⟨tm',h2,[]⟩) ∧ tm'.get 2 = some (.string ⟨(claimT d rs ss cs).toArray⟩) by
    obtain ⟨tm',k1,k2⟩ := hc
    exact ⟨h2,(run_call (show (Eo O).O 10 = none from o10)).trans (enterS_ret (vs := [_]) fn10 body10 nt10 rfl res10 k1 (by simp only [resultsS,k2,need])),by omega,by omega,fun x hx => by rw [r5 x (by omega),lowA x hx]⟩
  generalize hr : codeS (cF Tryz.f10) (Eo O) (run (Eo O) (k + 5)) ⟨10,6,.normal,none⟩ ⟨Tr.ofL 33 [.agg (clV d rs ss cv).toArray],h,[]⟩ = res
  have t0 : (Tr.ofL 33 [Value.agg (clV d rs ss cv).toArray]).get 0 = some (.agg (clV d rs ss cv).toArray) := rfl
  generalize Tr.ofL 33 [Value.agg (clV d rs ss cv).toArray] = tm at hr t0
  simp only [Tryz.f10,cF,Option.getD,cA,cB,cI,codeS,cSeq_run,cCond_run,cRegion_run,cRegion_draw,cBlock_run,cSkip_run,cRet_run,cExit_run,opsS_nil,opsS_run,opS_free,thenS_normal,thenS_ret,thenS_exit,exitBlock_normal,exitBlock_ret,exitBlock_exit,normalS_ok,dispatch,dMove,opMove,evT_tmp,evT_int,evT_bool,evT_str,dBin,dUn,dAlloc,lss_i64,geq_i64,eql_i64,neq_i64,add_i64,valR,afterS_value,putT_some,putT_none,get_put,lim,Nat.reduceLT,Nat.reduceEqDiff,and_true,if_true,if_false,reduceIte,false_and,true_and,Nat.beq,cond_true,cond_false,cLoop_run,
      dIndexAddr,dFieldAddr,dLoad,dStore,dBox,Option.bind_some,natOf_int,addrAdd_free,drawS_nil',drawS_cons',dstep_pg,dstep_rg,dstep_eg,dstep_bg,wantedS_none,wantedS_some,callOut_value,valEq_tg,readAgain_nil,readAgain_cons,valEq_int,callOut_enter,simOp_run,outVal_val,List.getElem?_toArray,List.getElem?_cons_succ,List.getElem?_cons_zero,List.drop_succ_cons,List.drop_zero,dPick,pick_true,pick_false,opS_guard,dIndex,dBuild,dBuildSlice,dCall,evParts,evList,bqa,bqb,bqc,bqd,Bool.and_self,Bool.not_true,Bool.not_false,not_b,afterS_enter,call_fn en36,call_fn en37,call_fn en38,call_fn en67,call_fn en56,sub_i64,build24,allocOf_bs,ab62,mkAV_one,opCall_app,opBuiltin,opCall_len,bi_len27,len27c,bi_len62,len62,call_fn en18,call_fn en19,bA,l29,r1,tx,t0] at hr
  subst hr
  exact ⟨_,rfl,by simp [get_put,lim]⟩
end Go.Proofs.YtaclddcneogolaaGreatDoor

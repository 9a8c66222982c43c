/- The simulator on zone.sum. -/
import Derived.Test.YtgiompikfhhkmaaGreatDoorOrc4
set_option linter.unusedVariables false
set_option linter.unusedSimpArgs false
set_option linter.unusedSimpArgs false
set_option linter.unusedVariables false
namespace Go.Proofs.YtgiompikfhhkmaaGreatDoor
open Go Go.Sim
set_option maxRecDepth 100000
variable {O : Nat → Option (List Value → SHeap → Except String (Value × SHeap))} {ih : K}

theorem body203 : Tryz.f203.body = some (cF Tryz.f203) := rfl
theorem fn203 : (Eo O).F 203 = some Tryz.f203 := by show Tab.funcs.get 203 = _; kernel_rfl
theorem nt203 {a b : Value} : max Tryz.f203.ntmps (#[a,b] : Array Value).size = 24 := rfl
theorem res203 : Tryz.f203.results.toList = [.tmp 4] := rfl
theorem eql_i64' {E : Env} {ev : Ev} {o : Oper} {t : TypeId} {x y : Int} {h : SHeap} : opBin E ev o .eql t (some (.int .i64 x)) (some (.int .i64 y)) h = .ok (.value (.bool (x == y)),h) := bin_i64 rfl

theorem sum_run {n : Nat} (hO : O 203 = none) {a b : Int} {h : SHeap} : run (Eo O) (n + 1) (.call 203 #[.int .i64 a,.int .i64 b] .normal) h = .ok (.int .i64 (sumI a b),h) := by
  suffices hc : ∃ tm',codeS (cF Tryz.f203) (Eo O) (run (Eo O) n) ⟨203,24,.normal,none⟩ ⟨Tr.ofL 33 [.int .i64 a,.int .i64 b],h,[]⟩ = .ok (.ret,⟨tm',h,[]⟩) ∧ tm'.get 4 = some (.int .i64 (sumI a b)) by
    obtain ⟨tm',k1,k2⟩ := hc
    exact (run_call (show (Eo O).O 203 = none from hO)).trans (enterS_ret (vs := [_]) fn203 body203 nt203 rfl res203 k1 (by simp only [resultsS,k2,need]))
  generalize hr : codeS (cF Tryz.f203) (Eo O) (run (Eo O) n) ⟨203,24,.normal,none⟩ ⟨Tr.ofL 33 [.int .i64 a,.int .i64 b],h,[]⟩ = r
  have t0 : (Tr.ofL 33 [Value.int .i64 a,.int .i64 b]).get 0 = some (.int .i64 a) := rfl
  have t1 : (Tr.ofL 33 [Value.int .i64 a,.int .i64 b]).get 1 = some (.int .i64 b) := rfl
  generalize Tr.ofL 33 [Value.int .i64 a,.int .i64 b] = tm at hr t0 t1
  unfold sumI
  generalize hs : wrapF .i64 (a + b) = s at hr ⊢
  cases c1 : (a == 2305843009213693952) <;> cases c2 : (b == 2305843009213693952) <;> cases c3 : decide (s > 1152921504606846976) <;> cases c4 : decide (s < -1152921504606846976) <;>
  · simp only [Tryz.f203,cF,Option.getD,cA,cB,cI,codeS,cSeq_run,cCond_run,cRegion_run,cRegion_draw,cBlock_run,cSkip_run,cRet_run,cExit_run,opsS_nil,opsS_run,opS_free,thenS_normal,thenS_ret,thenS_exit,exitBlock_normal,exitBlock_ret,exitBlock_exit,normalS_ok,dispatch,dMove,opMove,evT_tmp,evT_int,evT_bool,dBin,lss_i64,gtr_i64,add_i64,eql_i64',valR,afterS_value,putT_some,putT_none,get_put,lim,Nat.reduceLT,Nat.reduceEqDiff,and_true,if_true,if_false,reduceIte,false_and,true_and,cLoop_run,Nat.beq,cond_true,cond_false,
      Option.bind_some,natOf_int,simOp_run,outVal_val,List.getElem?_toArray,List.getElem?_cons_succ,List.getElem?_cons_zero,List.drop_succ_cons,List.drop_zero,opS_guard,wantedS,dPick,pick_true,pick_false,t0,t1,hs,c1,c2,c3,c4,bqa,bqb,bqc,bqd] at hr
    subst hr
    exact ⟨_,rfl,by simp [get_put,lim]⟩

theorem sum_ok (KE : EnvOK (Eo O)) (hdraw : DrawOK (Eo O)) (hOK : ∀ f g,(Eo O).O f = some g → OrcOK (Eo O) f g) (hO : O 203 = none) : OrcOK (Eo O) 203 sumQ := by
  intro args h v h' hok ρ w hw hg rargs ha c cs
  obtain ⟨l⟩ := args
  unfold sumQ at hok
  split at hok
  · rename_i a b e
    obtain ⟨rfl,rfl⟩ := ok_inj hok
    have e : l = [.int .i64 a,.int .i64 b] := e
    subst e
    exact run_ok KE hdraw hOK 1 _ _ _ _ (sum_run (n := 0) hO) ρ w hw hg rargs ha c cs (.inl rfl)
  · simp at hok

end Go.Proofs.YtgiompikfhhkmaaGreatDoor

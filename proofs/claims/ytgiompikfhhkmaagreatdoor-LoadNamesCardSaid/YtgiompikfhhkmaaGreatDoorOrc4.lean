/- The simulator on Cons. -/
import Derived.Test.YtgiompikfhhkmaaGreatDoorOrc3
set_option linter.unusedVariables false
set_option linter.unusedSimpArgs false
set_option linter.unusedSimpArgs false
set_option linter.unusedVariables false
namespace Go.Proofs.YtgiompikfhhkmaaGreatDoor
open Go Go.Sim
set_option maxRecDepth 100000
variable {O : Nat → Option (List Value → SHeap → Except String (Value × SHeap))} {ih : K} {ds : List Deferred}

noncomputable def coOut : Code := cI (cI (cB (cA (cB (cB (cF Tryz.f218))))))
noncomputable def coIn : Code := cI (cI (cB (cB (cI (cA (cB (cB coOut)))))))

theorem E27 : (Eo O).T 122 = some ⟨.slice 151,1,Tab.t122.bytes,Tab.t122.zero⟩ := by show Tab.types.get 122 = _; kernel_rfl
theorem E32 : (Eo O).T 151 = some ⟨Tab.t151.desc,3,24,some (.agg #[.int .i64 0,.int .i64 0,.int .i64 0])⟩ := by show Tab.types.get 151 = _; kernel_rfl
theorem build32 {x y z : Int} {h : SHeap} : opBuild (Eo O) ((Eo O).T 151) (some [(0,.int .i64 x),(1,.int .i64 y),(2,.int .i64 z)]) h = .ok (.value (.agg #[.int .i64 x,.int .i64 y,.int .i64 z]),h) := by kernel_rfl
theorem buildSlice27 {x y z : Value} {h : SHeap} : opBuildSlice (Eo O) ((Eo O).T 122) 1 (some [(0,.agg #[x,y,z])]) h = .ok (.value (.slice (some ⟨h.next,0,none⟩) 1 1),newCells h 151 [x,y,z] false) := by kernel_rfl
theorem list3 {x y z : Value} : (Tr.ofL 33 [x,y,z]).toListFrom 0 3 = some [x,y,z] := by kernel_rfl
theorem plain27 : plainArg (Eo O) [122] = true := by kernel_rfl

theorem row309 {b e i : Nat} {o r : Bool} {c : Tr Value} {q : Value} {l : List Value} {h : SHeap} (hb : h.t.get b = some (.cells c 3601 e o r)) (hl : c.toL 32 3601 = some (q :: l)) (hi : i < 60) :
    opLoad (Eo O) 309 (some (.pointer (some ⟨b,0 + 1 + i * 60,none⟩))) h = .ok (.value (.agg ((l.drop (i * 60)).take 60).toArray),h) := by
  unfold opLoad loadAt
  simp only [E309,hb]
  rw [if_pos (show TI.agg ⟨.array 60 3,60,Tab.t309.bytes,Tab.t309.zero⟩ = true from rfl)]
  unfold range
  rw [show Nat.ble 60 12 = false from rfl,cond_false]
  simp only [hl]
  have h1 : Nat.ble (0 + 1 + i * 60 + 60) 3601 = true := by rw [Nat.ble_eq]; omega
  rw [h1,show (true && Nat.ble 3601 lim) = true from rfl,cond_true]
  rw [show 0 + 1 + i * 60 = i * 60 + 1 by omega,List.drop_succ_cons]
  rfl

theorem index309 {ev : Ev} {op : Oper} {cs : Array Value} {j : Nat} {v : Value} {h : SHeap} (hj : j < 60) (hv : cs[j]? = some v) : opIndex (Eo O) ev op ((Eo O).T 309) (some (.agg cs)) (some j) h = .ok (.value v,h) := by
  rw [E309]
  simp only [opIndex,E3,hj,if_true,partS,Nat.mul_one]
  rw [if_neg (show ¬ TI.agg ⟨.int .i64,1,Tab.t3.bytes,Tab.t3.zero⟩ = true from by decide)]
  simp only [hv,need,valR]

theorem append_nil {c : Call} (hc : c.argTypes.toList = [122,122]) {b : Nat} {x y z : Value} {h : SHeap} (hb : h.t.get b = some (.cells (Tr.ofL 33 [x,y,z]) 3 151 false false)) :
    appendS (Eo O) c [.slice none 0 0,.slice (some ⟨b,0,none⟩) 1 1] h = .ok (.slice (some ⟨h.next,0,none⟩) 1 openCap,newCells h 151 [x,y,z] true) := by
  unfold appendS
  simp only [hc,plain27,cond_true,E27,E32,lenV,firstC,hb,Nat.one_mul,list3,need]
  rfl

theorem append_open {c : Call} (hc : c.argTypes.toList = [122,122]) {b r n : Nat} {x y z : Int} {h : SHeap} {ct : Tr Value} (hb : h.t.get b = some (.cells (Tr.ofL 33 [.int .i64 x,.int .i64 y,.int .i64 z]) 3 151 false false))
    (hr : h.t.get r = some (.cells ct (n * 3) 151 true false)) (hn : n ≤ 3600) :
    appendS (Eo O) c [.slice (some ⟨r,0,none⟩) n openCap,.slice (some ⟨b,0,none⟩) 1 1] h =
      .ok (.slice (some ⟨h.next,0,none⟩) (n + 1) openCap,(h.set r none).new (.cells (((ct.put (n * 3) (some (.int .i64 x))).put (n * 3 + 1) (some (.int .i64 y))).put (n * 3 + 1 + 1) (some (.int .i64 z))) (n * 3 + 3) 151 true false)) := by
  unfold appendS
  simp only [hc,plain27,cond_true,E27,E32,lenV,firstC,hb,Nat.one_mul,list3,need]
  unfold appendTo
  have h1 : Nat.ble ((n + 1) * (24 + 1)) 70368744177664 = true := by rw [Nat.ble_eq]; omega
  rw [h1,show (Nat.beq [Value.int .i64 x,.int .i64 y,.int .i64 z].length 3 && true) = true from rfl,cond_true,show Nat.beq openCap openCap = true from rfl,cond_true]
  unfold appendOpen
  simp only [hr]
  have h2 : Nat.beq (n * 3) (n * 3) = true := Nat.beq_refl _
  rw [h2,show (Nat.beq 0 0 && Nat.beq 151 151 && true) = true from rfl,cond_true]
  have h3 : storeList ct (n * 3 + [Value.int .i64 x,.int .i64 y,.int .i64 z].length) (n * 3) [Value.int .i64 x,.int .i64 y,.int .i64 z] = some (((ct.put (n * 3) (some (.int .i64 x))).put (n * 3 + 1) (some (.int .i64 y))).put (n * 3 + 1 + 1) (some (.int .i64 z))) := by
    simp only [storeList,force_eq,forceN_eq,List.length_cons,List.length_nil]
    rw [blt_of (by omega),cond_true,blt_of (by omega),cond_true,blt_of (by omega),cond_true]
  rw [h3]
  rfl

theorem isNone61xeq {x : Int} : isNone61 x = decide (x = 2305843009213693952) := by
  cases x with
  | ofNat m =>
    simp only [isNone61,beq_decide]
    congr 1
    apply propext
    constructor
    · intro h; subst h; rfl
    · intro h; exact Int.ofNat.inj h
  | negSucc m =>
    simp only [isNone61]
    symm
    rw [decide_eq_false_iff_not]
    intro h
    have := Int.negSucc_lt_zero m
    omega

structure CoI (h0 : SHeap) (b : Nat) (l : List Value) (i j cnt : Nat) (out : List Value) (st : St) : Prop where
  ds : st.defers = []
  t0 : st.tm.get 0 = some (.pointer (some ⟨b,0,none⟩))
  t7 : st.tm.get 7 = some (.int .i64 (.ofNat i))
  t4 : st.tm.get 4 = some (.int .i64 (.ofNat i))
  t16 : st.tm.get 16 = some (.int .i64 (.ofNat j))
  t15 : st.tm.get 15 = some (.agg ((l.drop (i * 60)).take 60).toArray)
  next : st.h.next = h0.next + 2 * cnt
  hcnt : cnt ≤ i * 60 + j
  hlen : out.length = cnt * 3
  low : ∀ x,x < h0.next → st.h.t.get x = h0.t.get x
  sl : (cnt = 0 ∧ st.tm.get 3 = some (.slice none 0 0)) ∨ (0 < cnt ∧ st.tm.get 3 = some (.slice (some ⟨h0.next + 2 * cnt - 1,0,none⟩) cnt openCap) ∧
    ∃ ct,st.h.t.get (h0.next + 2 * cnt - 1) = some (.cells ct (cnt * 3) 151 true false) ∧ ∀ k,k < cnt * 3 → ct.get k = out[k]?)
  acc : out ++ consL (i * 60 + j) (l.drop (i * 60 + j)) = consL 0 l


/-- one pair of variables: what is skipped -/
theorem consL_skip {l : List Value} {k : Nat} {x : Int} (hl : l[k]? = some (.int .i64 x)) (h : k / 60 = k % 60 ∨ x = 2305843009213693952) : consL k (l.drop k) = consL (k + 1) (l.drop (k + 1)) := by
  have hk : k < l.length := by
    rcases Nat.lt_or_ge k l.length with h' | h'
    · exact h'
    · rw [List.getElem?_eq_none h'] at hl; simp at hl
  rw [List.drop_eq_getElem_cons hk]
  rw [List.getElem?_eq_getElem hk] at hl
  rw [Option.some.inj hl,consL,forceN_eq,consOne]
  rcases h with h | h
  · rw [beq_decide,decide_eq_true h]; rfl
  · rw [isNone61xeq,decide_eq_true h]
    cases Nat.beq (k / 60) (k % 60) <;> rfl
theorem consL_take {l : List Value} {k : Nat} {x : Int} (hl : l[k]? = some (.int .i64 x)) (h1 : k / 60 ≠ k % 60) (h2 : x ≠ 2305843009213693952) : consL k (l.drop k) = [.int .i64 (.ofNat (k / 60)),.int .i64 (.ofNat (k % 60)),.int .i64 x] ++ consL (k + 1) (l.drop (k + 1)) := by
  have hk : k < l.length := by
    rcases Nat.lt_or_ge k l.length with h' | h'
    · exact h'
    · rw [List.getElem?_eq_none h'] at hl; simp at hl
  rw [List.drop_eq_getElem_cons hk]
  rw [List.getElem?_eq_getElem hk] at hl
  rw [Option.some.inj hl,consL,forceN_eq,consOne,beq_decide,decide_eq_false h1,isNone61xeq,decide_eq_false h2]
  rfl

def CoG (h0 : SHeap) (b : Nat) (l : List Value) (i j : Nat) (st : St) : Prop := ∃ cnt out,CoI h0 b l i j cnt out st

theorem co_in {h0 : SHeap} {b : Nat} {l : List Value} (hn : h0.next + 8000 ≤ lim) (hll : l.length = 3600) (hal : allI64 l = true) (i j : Nat) (hi : i < 60) (hj : j < 60) (st : St) (hI : CoG h0 b l i j st) :
    ∃ st',codeS coIn (Eo O) ih ⟨218,42,.normal,none⟩ st = .ok (.normal,st') ∧ CoG h0 b l i (j + 1) st' := by
  obtain ⟨tm,h,dd⟩ := st
  obtain ⟨cnt,out,hd,t0,t7,t4,t16,t15,hnx,hcnt,hlen,low,sl,acc⟩ := hI
  simp only at hd t0 t7 t4 t16 t15 hnx low sl
  subst hd
  have hk : i * 60 + j < 3600 := by omega
  obtain ⟨x,hx⟩ := allI64xget hal (show i * 60 + j < l.length by omega)
  have hrow : (((l.drop (i * 60)).take 60).toArray)[j]? = some (.int .i64 x) := by
    rw [List.getElem?_toArray,List.getElem?_take,if_pos hj,List.getElem?_drop]; exact hx
  have hj' : decide (Int.ofNat j < 60) = true := by simp; omega
  have hj2 : wrapF .i64 (Int.ofNat j + 1) = .ofNat (j + 1) := wrap_small (m := j + 1) (by omega)
  have e1 : (i * 60 + j) / 60 = i := by omega
  have e2 : (i * 60 + j) % 60 = j := by omega
  generalize hr : codeS coIn (Eo O) ih ⟨218,42,.normal,none⟩ ⟨tm,h,[]⟩ = r
  unfold coIn coOut at hr
  by_cases hne : i = j
  · have hne' : (Int.ofNat i != Int.ofNat j) = false := by simp [hne]
    simp only [Tryz.f218,cF,Option.getD,cA,cB,cI,codeS,cSeq_run,cCond_run,cRegion_run,cRegion_draw,cBlock_run,cSkip_run,cRet_run,cExit_run,opsS_nil,opsS_run,opS_free,thenS_normal,thenS_ret,thenS_exit,exitBlock_normal,exitBlock_ret,exitBlock_exit,normalS_ok,dispatch,dMove,opMove,evT_tmp,evT_int,evT_bool,dBin,lss_i64,gtr_i64,add_i64,valR,afterS_value,putT_some,putT_none,get_put,lim,Nat.reduceLT,Nat.reduceEqDiff,and_true,if_true,if_false,reduceIte,false_and,true_and,cLoop_run,Nat.beq,cond_true,
      neq_i64,dIndexAddr,dFieldAddr,dNilCheck,dLoad,nilCheck_ptr,fa313x0,fa313x1,Option.bind_some,natOf_int,addrAdd_free,drawS_nil',drawS_cons',dstep_pure',dstep_read',simOp_run,outVal_val,List.getElem?_toArray,List.getElem?_cons_succ,List.getElem?_cons_zero,List.drop_succ_cons,List.drop_zero,dPick,pick_true,pick_false,opS_guard,wantedS,Option.bind_some,dIndex,dBuild,dBuildSlice,dCall,opCall,opBuiltin,evParts,evList,dSlice,
      t0,t7,t4,t16,t15,hj',hj2,hne',index309 hj hrow,show (false == true) = false from rfl] at hr
    subst hr
    refine ⟨_,rfl,cnt,out,?_⟩
    refine ⟨rfl,?_,?_,?_,?_,?_,hnx,by omega,hlen,low,?_,?_⟩
    · simp [get_put,lim,t0]
    · simp [get_put,lim,t7]
    · simp [get_put,lim,t4]
    · simp [get_put,lim]
    · simp [get_put,lim,t15]
    · rcases sl with ⟨a,c⟩ | ⟨a,c,d⟩
      · exact .inl ⟨a,by simp [get_put,lim,c]⟩
      · exact .inr ⟨a,by simp [get_put,lim,c],d⟩
    · rw [← acc,consL_skip hx (.inl (by rw [e1,e2]; exact hne))]; rfl
  · have hne' : (Int.ofNat i != Int.ofNat j) = true := by simp; omega
    by_cases hx0 : x = 2305843009213693952
    · have hx' : (x != 2305843009213693952) = false := by simp [hx0]
      simp only [Tryz.f218,cF,Option.getD,cA,cB,cI,codeS,cSeq_run,cCond_run,cRegion_run,cRegion_draw,cBlock_run,cSkip_run,cRet_run,cExit_run,opsS_nil,opsS_run,opS_free,thenS_normal,thenS_ret,thenS_exit,exitBlock_normal,exitBlock_ret,exitBlock_exit,normalS_ok,dispatch,dMove,opMove,evT_tmp,evT_int,evT_bool,dBin,lss_i64,gtr_i64,add_i64,valR,afterS_value,putT_some,putT_none,get_put,lim,Nat.reduceLT,Nat.reduceEqDiff,and_true,if_true,if_false,reduceIte,false_and,true_and,cLoop_run,Nat.beq,cond_true,
      neq_i64,dIndexAddr,dFieldAddr,dNilCheck,dLoad,nilCheck_ptr,fa313x0,fa313x1,Option.bind_some,natOf_int,addrAdd_free,drawS_nil',drawS_cons',dstep_pure',dstep_read',simOp_run,outVal_val,List.getElem?_toArray,List.getElem?_cons_succ,List.getElem?_cons_zero,List.drop_succ_cons,List.drop_zero,dPick,pick_true,pick_false,opS_guard,wantedS,Option.bind_some,dIndex,dBuild,dBuildSlice,dCall,opCall,opBuiltin,evParts,evList,dSlice,
        t0,t7,t4,t16,t15,hj',hj2,hne',hx',neq_i64,index309 hj hrow,show (true == true) = true from rfl] at hr
      subst hr
      refine ⟨_,rfl,cnt,out,?_⟩
      refine ⟨rfl,?_,?_,?_,?_,?_,hnx,by omega,hlen,low,?_,?_⟩
      · simp [get_put,lim,t0]
      · simp [get_put,lim,t7]
      · simp [get_put,lim,t4]
      · simp [get_put,lim]
      · simp [get_put,lim,t15]
      · rcases sl with ⟨a,c⟩ | ⟨a,c,d⟩
        · exact .inl ⟨a,by simp [get_put,lim,c]⟩
        · exact .inr ⟨a,by simp [get_put,lim,c],d⟩
      · rw [← acc,consL_skip hx (.inr hx0)]; rfl
    · have hx' : (x != 2305843009213693952) = true := by simp [hx0]
      have hb1 : (newCells h 151 [.int .i64 (.ofNat i),.int .i64 (.ofNat j),.int .i64 x] false).t.get h.next = some (.cells (Tr.ofL 33 [.int .i64 (.ofNat i),.int .i64 (.ofNat j),.int .i64 x]) 3 151 false false) := by
        simp only [newCells,SHeap.new,get_put]
        rw [if_pos ⟨trivial,by omega⟩]
        rfl
      have hn1 : ∀ (h : SHeap) (cs : List Value) (o : Bool),(newCells h 151 cs o).next = h.next + 1 := fun _ _ _ => rfl
      rcases sl with ⟨rfl,c3⟩ | ⟨hpos,c3,ct,c4,c5⟩
      · have ap : ∀ (cal : Callee) (a : Array Operand),appendS (Eo O) ⟨cal,a,#[122,122]⟩ [.slice none 0 0,.slice (some ⟨h.next,0,none⟩) 1 1] (newCells h 151 [.int .i64 (.ofNat i),.int .i64 (.ofNat j),.int .i64 x] false) = _ := fun _ _ => append_nil rfl hb1
        simp only [Tryz.f218,cF,Option.getD,cA,cB,cI,codeS,cSeq_run,cCond_run,cRegion_run,cRegion_draw,cBlock_run,cSkip_run,cRet_run,cExit_run,opsS_nil,opsS_run,opS_free,thenS_normal,thenS_ret,thenS_exit,exitBlock_normal,exitBlock_ret,exitBlock_exit,normalS_ok,dispatch,dMove,opMove,evT_tmp,evT_int,evT_bool,dBin,lss_i64,gtr_i64,add_i64,valR,afterS_value,putT_some,putT_none,get_put,lim,Nat.reduceLT,Nat.reduceEqDiff,and_true,if_true,if_false,reduceIte,false_and,true_and,cLoop_run,Nat.beq,cond_true,
      dIndexAddr,dFieldAddr,dNilCheck,dLoad,nilCheck_ptr,fa313x0,fa313x1,Option.bind_some,natOf_int,addrAdd_free,drawS_nil',drawS_cons',dstep_pure',dstep_read',simOp_run,outVal_val,List.getElem?_toArray,List.getElem?_cons_succ,List.getElem?_cons_zero,List.drop_succ_cons,List.drop_zero,dPick,pick_true,pick_false,opS_guard,wantedS,Option.bind_some,dIndex,dBuild,dBuildSlice,dCall,opCall,opBuiltin,evParts,evList,dSlice,
          t0,t7,t4,t16,t15,c3,hj',hj2,hne',hx',neq_i64,index309 hj hrow,show (true == true) = true from rfl,build32,buildSlice27,ap] at hr
        subst hr
        refine ⟨_,rfl,0 + 1,out ++ [.int .i64 (.ofNat i),.int .i64 (.ofNat j),.int .i64 x],?_⟩
        refine ⟨rfl,?_,?_,?_,?_,?_,?_,by omega,by simp only [List.length_append,hlen,List.length_cons,List.length_nil],?_,.inr ⟨by omega,?_,?_⟩,?_⟩
        · simp [get_put,lim,t0]
        · simp [get_put,lim,t7]
        · simp [get_put,lim,t4]
        · simp [get_put,lim]
        · simp [get_put,lim,t15]
        · simp only [hn1,hnx]
        · intro y hy
          simp only [newCells,SHeap.new,get_put]
          rw [if_neg (by omega),if_neg (by omega)]
          exact low y hy
        · simp only [get_put,hn1,hnx,lim,Nat.reduceLT,Nat.reduceEqDiff,and_true,if_true,if_false]
          rfl
        · refine ⟨Tr.ofL 33 [.int .i64 (.ofNat i),.int .i64 (.ofNat j),.int .i64 x],?_,fun k hk => ?_⟩
          · rw [show h0.next + 2 * (0 + 1) - 1 = h.next + 1 by omega]
            show ((newCells h 151 _ false).t.put (h.next + 1) _).get (h.next + 1) = _
            rw [get_put,if_pos ⟨rfl,by omega⟩]
            rfl
          · rw [ofL_get_eq (by unfold lim; omega)]
            have : out = [] := List.eq_nil_of_length_eq_zero (by omega)
            subst this
            rfl
        · rw [← acc,consL_take hx (by rw [e1,e2]; exact hne) hx0,e1,e2,List.append_assoc]; rfl
      · have ap : ∀ (cal : Callee) (a : Array Operand),appendS (Eo O) ⟨cal,a,#[122,122]⟩ [.slice (some ⟨h0.next + 2 * cnt - 1,0,none⟩) cnt openCap,.slice (some ⟨h.next,0,none⟩) 1 1] (newCells h 151 [.int .i64 (.ofNat i),.int .i64 (.ofNat j),.int .i64 x] false) = _ := fun _ _ => append_open rfl hb1 (by
          simp only [newCells,SHeap.new,get_put]
          rw [if_neg (by omega)]
          exact c4) (by omega)
        simp only [Tryz.f218,cF,Option.getD,cA,cB,cI,codeS,cSeq_run,cCond_run,cRegion_run,cRegion_draw,cBlock_run,cSkip_run,cRet_run,cExit_run,opsS_nil,opsS_run,opS_free,thenS_normal,thenS_ret,thenS_exit,exitBlock_normal,exitBlock_ret,exitBlock_exit,normalS_ok,dispatch,dMove,opMove,evT_tmp,evT_int,evT_bool,dBin,lss_i64,gtr_i64,add_i64,valR,afterS_value,putT_some,putT_none,get_put,lim,Nat.reduceLT,Nat.reduceEqDiff,and_true,if_true,if_false,reduceIte,false_and,true_and,cLoop_run,Nat.beq,cond_true,
      dIndexAddr,dFieldAddr,dNilCheck,dLoad,nilCheck_ptr,fa313x0,fa313x1,Option.bind_some,natOf_int,addrAdd_free,drawS_nil',drawS_cons',dstep_pure',dstep_read',simOp_run,outVal_val,List.getElem?_toArray,List.getElem?_cons_succ,List.getElem?_cons_zero,List.drop_succ_cons,List.drop_zero,dPick,pick_true,pick_false,opS_guard,wantedS,Option.bind_some,dIndex,dBuild,dBuildSlice,dCall,opCall,opBuiltin,evParts,evList,dSlice,
          t0,t7,t4,t16,t15,c3,hj',hj2,hne',hx',neq_i64,index309 hj hrow,show (true == true) = true from rfl,build32,buildSlice27,ap] at hr
        subst hr
        refine ⟨_,rfl,cnt + 1,out ++ [.int .i64 (.ofNat i),.int .i64 (.ofNat j),.int .i64 x],?_⟩
        refine ⟨rfl,?_,?_,?_,?_,?_,?_,by omega,by simp only [List.length_append,hlen,List.length_cons,List.length_nil]; omega,?_,.inr ⟨by omega,?_,?_⟩,?_⟩
        · simp [get_put,lim,t0]
        · simp [get_put,lim,t7]
        · simp [get_put,lim,t4]
        · simp [get_put,lim]
        · simp [get_put,lim,t15]
        · simp only [SHeap.new,SHeap.set,hn1,hnx]; omega
        · intro y hy
          simp only [newCells,SHeap.new,SHeap.set,get_put]
          rw [if_neg (by omega),if_neg (by omega),if_neg (by omega)]
          exact low y hy
        · simp only [get_put,hn1,hnx,lim,Nat.reduceLT,Nat.reduceEqDiff,and_true,if_true,if_false]
          rw [show h0.next + 2 * cnt + 1 = h0.next + 2 * (cnt + 1) - 1 by omega]
        · refine ⟨((ct.put (cnt * 3) (some (.int .i64 (.ofNat i)))).put (cnt * 3 + 1) (some (.int .i64 (.ofNat j)))).put (cnt * 3 + 1 + 1) (some (.int .i64 x)),?_,fun k hk => ?_⟩
          · rw [show h0.next + 2 * (cnt + 1) - 1 = h.next + 1 by omega]
            show ((SHeap.set (newCells h 151 _ false) _ none).t.put (h.next + 1) _).get (h.next + 1) = _
            rw [get_put,if_pos ⟨rfl,by omega⟩,show cnt * 3 + 3 = (cnt + 1) * 3 by omega]
          · have h0' : h0.next ≤ 4294967296 := by unfold lim at hn; omega
            simp only [get_put]
            by_cases q3 : k = cnt * 3 + 1 + 1
            · rw [if_pos ⟨q3,by unfold lim; omega⟩,List.getElem?_append_right (by omega),show k - out.length = 2 by omega]; rfl
            · rw [if_neg (by omega)]
              by_cases q2 : k = cnt * 3 + 1
              · rw [if_pos ⟨q2,by unfold lim; omega⟩,List.getElem?_append_right (by omega),show k - out.length = 1 by omega]; rfl
              · rw [if_neg (by omega)]
                by_cases q1 : k = cnt * 3
                · rw [if_pos ⟨q1,by unfold lim; omega⟩,List.getElem?_append_right (by omega),show k - out.length = 0 by omega]; rfl
                · rw [if_neg (by omega),c5 k (by omega),List.getElem?_append_left (by omega)]
        · rw [← acc,consL_take hx (by rw [e1,e2]; exact hne) hx0,e1,e2,List.append_assoc]; rfl


structure CoJ (h0 : SHeap) (b : Nat) (l : List Value) (i cnt : Nat) (out : List Value) (st : St) : Prop where
  ds : st.defers = []
  t0 : st.tm.get 0 = some (.pointer (some ⟨b,0,none⟩))
  t7 : st.tm.get 7 = some (.int .i64 (.ofNat i))
  next : st.h.next = h0.next + 2 * cnt
  hcnt : cnt ≤ i * 60
  hlen : out.length = cnt * 3
  low : ∀ x,x < h0.next → st.h.t.get x = h0.t.get x
  sl : (cnt = 0 ∧ st.tm.get 3 = some (.slice none 0 0)) ∨ (0 < cnt ∧ st.tm.get 3 = some (.slice (some ⟨h0.next + 2 * cnt - 1,0,none⟩) cnt openCap) ∧
    ∃ ct,st.h.t.get (h0.next + 2 * cnt - 1) = some (.cells ct (cnt * 3) 151 true false) ∧ ∀ k,k < cnt * 3 → ct.get k = out[k]?)
  acc : out ++ consL (i * 60) (l.drop (i * 60)) = consL 0 l
def CoK (h0 : SHeap) (b : Nat) (l : List Value) (i : Nat) (st : St) : Prop := ∃ cnt out,CoJ h0 b l i cnt out st

theorem co_in_end {h0 : SHeap} {b : Nat} {l : List Value} (i : Nat) (st : St) (hI : CoG h0 b l i 60 st) :
    ∃ st',codeS coIn (Eo O) ih ⟨218,42,.normal,none⟩ st = .ok (.exit 2,st') ∧ CoK h0 b l (i + 1) ⟨(st'.tm.put 35 (some (.int .i64 (.ofNat (i + 1))))).put 7 (some (.int .i64 (.ofNat (i + 1)))),st'.h,st'.defers⟩ ∧ st'.tm.get 7 = some (.int .i64 (.ofNat i)) := by
  obtain ⟨tm,h,dd⟩ := st
  obtain ⟨cnt,out,hd,t0,t7,t4,t16,t15,hnx,hcnt,hlen,low,sl,acc⟩ := hI
  simp only at hd t0 t7 t4 t16 t15 hnx low sl
  subst hd
  have hj' : decide (Int.ofNat 60 < 60) = false := by decide
  generalize hr : codeS coIn (Eo O) ih ⟨218,42,.normal,none⟩ ⟨tm,h,[]⟩ = r
  unfold coIn coOut at hr
  simp only [Tryz.f218,cF,Option.getD,cA,cB,cI,codeS,cSeq_run,cCond_run,cRegion_run,cRegion_draw,cBlock_run,cSkip_run,cRet_run,cExit_run,opsS_nil,opsS_run,opS_free,thenS_normal,thenS_ret,thenS_exit,exitBlock_normal,exitBlock_ret,exitBlock_exit,normalS_ok,dispatch,dMove,opMove,evT_tmp,evT_int,evT_bool,dBin,lss_i64,gtr_i64,add_i64,valR,afterS_value,putT_some,putT_none,get_put,lim,Nat.reduceLT,Nat.reduceEqDiff,and_true,if_true,if_false,reduceIte,false_and,true_and,cLoop_run,Nat.beq,cond_true,
      dIndexAddr,dFieldAddr,dNilCheck,dLoad,nilCheck_ptr,fa313x0,fa313x1,Option.bind_some,natOf_int,addrAdd_free,drawS_nil',drawS_cons',dstep_pure',dstep_read',simOp_run,outVal_val,List.getElem?_toArray,List.getElem?_cons_succ,List.getElem?_cons_zero,List.drop_succ_cons,List.drop_zero,dPick,pick_true,pick_false,opS_guard,wantedS,Option.bind_some,dIndex,dBuild,dBuildSlice,dCall,opCall,opBuiltin,evParts,evList,dSlice,t16,hj'] at hr
  subst hr
  refine ⟨_,rfl,⟨cnt,out,?_⟩,by simp [get_put,lim,t7]⟩
  refine ⟨rfl,?_,?_,hnx,by omega,hlen,low,?_,?_⟩
  · simp [get_put,lim,t0]
  · simp [get_put,lim]
  · rcases sl with ⟨a,c⟩ | ⟨a,c,d⟩
    · exact .inl ⟨a,by simp [get_put,lim,c]⟩
    · exact .inr ⟨a,by simp [get_put,lim,c],d⟩
  · rw [← acc,show (i + 1) * 60 = i * 60 + 60 by omega]

theorem co_out {h0 : SHeap} {b : Nat} {l : List Value} (hn : h0.next + 8000 ≤ lim) (hll : l.length = 3600) (hal : allI64 l = true) (hb0 : b < h0.next) {c0 : Tr Value} {e0 : Nat} {o0 r0 : Bool} {q0 : Value} (hbk : h0.t.get b = some (.cells c0 3601 e0 o0 r0)) (hc0 : c0.toL 32 3601 = some (q0 :: l))
    (i : Nat) (hi : i < 60) (st : St) (hI : CoK h0 b l i st) :
    ∃ st',codeS coOut (Eo O) ih ⟨218,42,.normal,none⟩ st = .ok (.normal,st') ∧ CoK h0 b l (i + 1) st' := by
  obtain ⟨tm,h,dd⟩ := st
  obtain ⟨cnt,out,hd,t0,t7,hnx,hcnt,hlen,low,sl,acc⟩ := hI
  simp only at hd t0 t7 hnx low sl
  subst hd
  have hj' : decide (Int.ofNat i < 60) = true := by simp; omega
  have hj2 : wrapF .i64 (Int.ofNat i + 1) = .ofNat (i + 1) := wrap_small (m := i + 1) (by omega)
  have ld := row309 (O := O) (h := h) (by rw [low b hb0]; exact hbk) hc0 hi
  generalize hr : codeS coOut (Eo O) ih ⟨218,42,.normal,none⟩ ⟨tm,h,[]⟩ = r
  obtain ⟨tmk,hk⟩ : ∃ tmk,tmk = ((((((((((tm.put 8 (some (.bool true))).put 9 (some (.int .i64 (.ofNat i)))).put 4 (some (.int .i64 (.ofNat i)))).put 10 (some (.pointer (some ⟨b,0,none⟩)))).put 11 (some (.int .i64 (.ofNat i)))).put 12 (some (.pointer (some ⟨b,0,none⟩)))).put 13 (some (.pointer (some ⟨b,0 + 1,none⟩)))).put 14 (some (.pointer (some ⟨b,0 + 1 + i * 60,none⟩)))).put 15 (some (.agg ((l.drop (i * 60)).take 60).toArray))).put 16 (some (.int .i64 0))) := ⟨_,rfl⟩
  have hin : CoG h0 b l i 0 ⟨tmk,h,[]⟩ := by
    subst hk
    refine ⟨cnt,out,rfl,?_,?_,?_,?_,?_,hnx,by omega,hlen,low,?_,acc⟩
    · simp [get_put,lim,t0]
    · simp [get_put,lim,t7]
    · simp [get_put,lim]
    · simp [get_put,lim]
    · simp [get_put,lim]
    · rcases sl with ⟨a,c⟩ | ⟨a,c,d⟩
      · exact .inl ⟨a,by simp [get_put,lim,c]⟩
      · exact .inr ⟨a,by simp [get_put,lim,c],d⟩
  obtain ⟨⟨tm',h',dd'⟩,e1,e2,e3⟩ := loopS_inv (f := codeS coIn (Eo O) ih ⟨218,42,.normal,none⟩) (I := CoG h0 b l i) (N := 60) (id := 2) (Q := fun st' => CoK h0 b l (i + 1) ⟨(st'.tm.put 35 (some (.int .i64 (.ofNat (i + 1))))).put 7 (some (.int .i64 (.ofNat (i + 1)))),st'.h,st'.defers⟩ ∧ st'.tm.get 7 = some (.int .i64 (.ofNat i)))
    (fun j st hj hI => co_in hn hll hal i j hi hj st hI) (fun st hI => co_in_end i st hI) 60 1000000 0 _ (by omega) (by omega) hin
  subst hk
  unfold coIn coOut at e1
  unfold coOut at hr
  simp only [Tryz.f218,cF,Option.getD,cA,cB,cI,codeS] at e1
  simp only at e3
  simp only [Tryz.f218,cF,Option.getD,cA,cB,cI,codeS,cSeq_run,cCond_run,cRegion_run,cRegion_draw,cBlock_run,cSkip_run,cRet_run,cExit_run,opsS_nil,opsS_run,opS_free,thenS_normal,thenS_ret,thenS_exit,exitBlock_normal,exitBlock_ret,exitBlock_exit,normalS_ok,dispatch,dMove,opMove,evT_tmp,evT_int,evT_bool,dBin,lss_i64,gtr_i64,add_i64,valR,afterS_value,putT_some,putT_none,get_put,lim,Nat.reduceLT,Nat.reduceEqDiff,and_true,if_true,if_false,reduceIte,false_and,true_and,cLoop_run,Nat.beq,cond_true,
      dIndexAddr,dFieldAddr,dNilCheck,dLoad,nilCheck_ptr,fa313x0,fa313x1,Option.bind_some,natOf_int,addrAdd_free,drawS_nil',drawS_cons',dstep_pure',dstep_read',simOp_run,outVal_val,List.getElem?_toArray,List.getElem?_cons_succ,List.getElem?_cons_zero,List.drop_succ_cons,List.drop_zero,dPick,pick_true,pick_false,opS_guard,wantedS,Option.bind_some,dIndex,dBuild,dBuildSlice,dCall,opCall,opBuiltin,evParts,evList,dSlice,t0,t7,hj',hj2,ia311 hi,ld,e1,e3] at hr
  subst hr
  exact ⟨_,rfl,e2⟩

theorem co_out_end {h0 : SHeap} {b : Nat} {l : List Value} (st : St) (hI : CoK h0 b l 60 st) :
    ∃ st',codeS coOut (Eo O) ih ⟨218,42,.normal,none⟩ st = .ok (.exit 0,st') ∧ CoK h0 b l 60 st' := by
  obtain ⟨tm,h,dd⟩ := st
  obtain ⟨cnt,out,hd,t0,t7,hnx,hcnt,hlen,low,sl,acc⟩ := hI
  simp only at hd t0 t7 hnx low sl
  subst hd
  have hj' : decide (Int.ofNat 60 < 60) = false := by decide
  generalize hr : codeS coOut (Eo O) ih ⟨218,42,.normal,none⟩ ⟨tm,h,[]⟩ = r
  unfold coOut at hr
  simp only [Tryz.f218,cF,Option.getD,cA,cB,cI,codeS,cSeq_run,cCond_run,cRegion_run,cRegion_draw,cBlock_run,cSkip_run,cRet_run,cExit_run,opsS_nil,opsS_run,opS_free,thenS_normal,thenS_ret,thenS_exit,exitBlock_normal,exitBlock_ret,exitBlock_exit,normalS_ok,dispatch,dMove,opMove,evT_tmp,evT_int,evT_bool,dBin,lss_i64,gtr_i64,add_i64,valR,afterS_value,putT_some,putT_none,get_put,lim,Nat.reduceLT,Nat.reduceEqDiff,and_true,if_true,if_false,reduceIte,false_and,true_and,cLoop_run,Nat.beq,cond_true,
      dIndexAddr,dFieldAddr,dNilCheck,dLoad,nilCheck_ptr,fa313x0,fa313x1,Option.bind_some,natOf_int,addrAdd_free,drawS_nil',drawS_cons',dstep_pure',dstep_read',simOp_run,outVal_val,List.getElem?_toArray,List.getElem?_cons_succ,List.getElem?_cons_zero,List.drop_succ_cons,List.drop_zero,dPick,pick_true,pick_false,opS_guard,wantedS,Option.bind_some,dIndex,dBuild,dBuildSlice,dCall,opCall,opBuiltin,evParts,evList,dSlice,t7,hj'] at hr
  subst hr
  refine ⟨_,rfl,cnt,out,?_⟩
  refine ⟨rfl,?_,?_,hnx,by omega,hlen,low,?_,acc⟩
  · simp [get_put,lim,t0]
  · simp [get_put,lim,t7]
  · rcases sl with ⟨a,c⟩ | ⟨a,c,d⟩
    · exact .inl ⟨a,by simp [get_put,lim,c]⟩
    · exact .inr ⟨a,by simp [get_put,lim,c],d⟩


theorem len27 {ev : Ev} {op : Oper} {a : Option Addr} {n c : Nat} {h : SHeap} : opLen (Eo O) ev op ((Eo O).T 122) (.slice a n c) h = .ok (.value (.int .i64 (.ofNat n)),h) := by
  rw [E27]
  rfl
theorem boundOf_nat {n : Nat} : boundOf (some (some (.int .i64 (.ofNat n)))) = some (some n) := rfl
theorem slice27xnil {ev : Ev} {op : Oper} {h : SHeap} : opSlice (Eo O) ev op 122 (some (.slice none 0 0)) none (some (some (.int .i64 (.ofNat 0)))) (some (some (.int .i64 (.ofNat 0)))) h = .ok (.value (.slice none 0 0),h) := by kernel_rfl
theorem slice27xopen {ev : Ev} {op : Oper} {h : SHeap} {r n : Nat} (h0 : 0 < n) (hn : n ≤ 3600) : opSlice (Eo O) ev op 122 (some (.slice (some ⟨r,0,none⟩) n openCap)) none (some (some (.int .i64 (.ofNat n)))) (some (some (.int .i64 (.ofNat n)))) h = .ok (.value (.slice (some ⟨r,0,none⟩) n n),h) := by
  simp only [opSlice,sliceS,boundOf,natOf_int,E27,sliceGo,E32,Option.getD]
  have e : openCap = 1180591620717411303424 := rfl
  rw [if_neg]
  · rw [if_neg (by omega)]
    simp [addrAdd,valR]
  · simp [e]
    omega

theorem co_code {h0 : SHeap} {b : Nat} {l : List Value} (hn : h0.next + 8000 ≤ lim) (hll : l.length = 3600) (hal : allI64 l = true) (hb0 : b < h0.next) {c0 : Tr Value} {e0 : Nat} {o0 r0 : Bool} {q0 : Value} (hbk : h0.t.get b = some (.cells c0 3601 e0 o0 r0)) (hc0 : c0.toL 32 3601 = some (q0 :: l))
    {tm : Tr Value} (t0 : tm.get 0 = some (.pointer (some ⟨b,0,none⟩))) :
    ∃ tm' h' cnt,codeS (cF Tryz.f218) (Eo O) ih ⟨218,42,.normal,none⟩ ⟨tm,h0,[]⟩ = .ok (.ret,⟨tm',h',[]⟩) ∧ (consL 0 l).length = cnt * 3 ∧ cnt ≤ 3600 ∧ h'.next = h0.next + 2 * cnt ∧ (∀ x,x < h0.next → h'.t.get x = h0.t.get x) ∧
      ((cnt = 0 ∧ tm'.get 2 = some (.slice none 0 0)) ∨ (0 < cnt ∧ tm'.get 2 = some (.slice (some ⟨h0.next + 2 * cnt - 1,0,none⟩) cnt cnt) ∧ ∃ ct,h'.t.get (h0.next + 2 * cnt - 1) = some (.cells ct (cnt * 3) 151 true false) ∧ ∀ k,k < cnt * 3 → ct.get k = (consL 0 l)[k]?)) := by
  obtain ⟨tmk,hk⟩ : ∃ tmk,tmk = (((tm.put 2 (some (.slice none 0 0))).put 3 (some (.slice none 0 0))).put 7 (some (.int .i64 0))) := ⟨_,rfl⟩
  have hin : CoK h0 b l 0 ⟨tmk,h0,[]⟩ := by
    subst hk
    refine ⟨0,[],rfl,?_,?_,rfl,by omega,rfl,fun _ _ => rfl,.inl ⟨rfl,?_⟩,by simp⟩
    · simp [get_put,lim,t0]
    · simp [get_put,lim]
    · simp [get_put,lim]
  obtain ⟨⟨tm1,h1,dd1⟩,e1,e2⟩ := loopS_inv (f := codeS coOut (Eo O) ih ⟨218,42,.normal,none⟩) (I := CoK h0 b l) (N := 60) (id := 0) (Q := CoK h0 b l 60)
    (fun j st hj hI => co_out hn hll hal hb0 hbk hc0 j hj st hI) (fun st hI => co_out_end st hI) 60 1000000 0 _ (by omega) (by omega) hin
  subst hk
  unfold coOut at e1
  simp only [Tryz.f218,cF,Option.getD,cA,cB,cI,codeS] at e1
  generalize hr : codeS (cF Tryz.f218) (Eo O) ih ⟨218,42,.normal,none⟩ ⟨tm,h0,[]⟩ = r
  obtain ⟨cnt,out,hd,u0,u7,hnx,hcnt,hlen,low,sl,acc⟩ := e2
  simp only at hd u0 u7 hnx low sl
  subst hd
  have hout : out = consL 0 l := by
    rw [← acc,List.drop_of_length_le (by omega)]
    simp [consL]
  subst hout
  have sn : ∀ G (tm : Tr Value),evT G tm (.const (.slice none 0 0)) = some (.slice none 0 0) := fun _ _ => rfl
  have hm : ∀ (f : Operand → Option Value) (x : Operand),(some x).map f = some (f x) := fun _ _ => rfl
  have hm0 : ∀ (f : Operand → Option Value),(none : Option Operand).map f = none := fun _ => rfl
  rcases sl with ⟨rfl,c3⟩ | ⟨hpos,c3,ct,c4,c5⟩
  · simp only [Tryz.f218,cF,Option.getD,cA,cB,cI,codeS,cSeq_run,cCond_run,cRegion_run,cRegion_draw,cBlock_run,cSkip_run,cRet_run,cExit_run,opsS_nil,opsS_run,opS_free,thenS_normal,thenS_ret,thenS_exit,exitBlock_normal,exitBlock_ret,exitBlock_exit,normalS_ok,dispatch,dMove,opMove,evT_tmp,evT_int,evT_bool,dBin,lss_i64,gtr_i64,add_i64,valR,afterS_value,putT_some,putT_none,get_put,lim,Nat.reduceLT,Nat.reduceEqDiff,and_true,if_true,if_false,reduceIte,false_and,true_and,cLoop_run,Nat.beq,cond_true,
      dIndexAddr,dFieldAddr,dNilCheck,dLoad,nilCheck_ptr,fa313x0,fa313x1,Option.bind_some,natOf_int,addrAdd_free,drawS_nil',drawS_cons',dstep_pure',dstep_read',simOp_run,outVal_val,List.getElem?_toArray,List.getElem?_cons_succ,List.getElem?_cons_zero,List.drop_succ_cons,List.drop_zero,dPick,pick_true,pick_false,opS_guard,wantedS,Option.bind_some,dIndex,dBuild,dBuildSlice,dCall,opCall,opBuiltin,evParts,evList,dSlice,sn,e1,c3,len27,hm,hm0,slice27xnil] at hr
    subst hr
    exact ⟨_,h1,0,rfl,hlen,by omega,hnx,low,.inl ⟨rfl,by simp [get_put,lim]⟩⟩
  · simp only [Tryz.f218,cF,Option.getD,cA,cB,cI,codeS,cSeq_run,cCond_run,cRegion_run,cRegion_draw,cBlock_run,cSkip_run,cRet_run,cExit_run,opsS_nil,opsS_run,opS_free,thenS_normal,thenS_ret,thenS_exit,exitBlock_normal,exitBlock_ret,exitBlock_exit,normalS_ok,dispatch,dMove,opMove,evT_tmp,evT_int,evT_bool,dBin,lss_i64,gtr_i64,add_i64,valR,afterS_value,putT_some,putT_none,get_put,lim,Nat.reduceLT,Nat.reduceEqDiff,and_true,if_true,if_false,reduceIte,false_and,true_and,cLoop_run,Nat.beq,cond_true,
      dIndexAddr,dFieldAddr,dNilCheck,dLoad,nilCheck_ptr,fa313x0,fa313x1,Option.bind_some,natOf_int,addrAdd_free,drawS_nil',drawS_cons',dstep_pure',dstep_read',simOp_run,outVal_val,List.getElem?_toArray,List.getElem?_cons_succ,List.getElem?_cons_zero,List.drop_succ_cons,List.drop_zero,dPick,pick_true,pick_false,opS_guard,wantedS,Option.bind_some,dIndex,dBuild,dBuildSlice,dCall,opCall,opBuiltin,evParts,evList,dSlice,sn,e1,c3,len27,hm,hm0,slice27xopen hpos (show cnt ≤ 3600 by omega)] at hr
    subst hr
    exact ⟨_,h1,cnt,rfl,hlen,by omega,hnx,low,.inr ⟨hpos,by simp [get_put,lim],ct,c4,c5⟩⟩


theorem body218 : Tryz.f218.body = some (cF Tryz.f218) := rfl
theorem fn218 : (Eo O).F 218 = some Tryz.f218 := by show Tab.funcs.get 218 = _; kernel_rfl
theorem nt218 {a : Value} : max Tryz.f218.ntmps (#[a] : Array Value).size = 42 := rfl
theorem res218 : Tryz.f218.results.toList = [.tmp 2] := rfl

theorem cons_run {n : Nat} (hO : O 218 = none) {args : Array Value} {h h' : SHeap} {v : Value} (hlow : ∀ b o,h.t.get b = some o → b < h.next) (hok : consQ args.toList h = .ok (v,h')) :
    ∃ h'',run (Eo O) (n + 1) (.call 218 args .normal) h = .ok (v,h'') ∧ h''.next = h'.next ∧ ∀ b o,h'.t.get b = some o → ∃ o2,h''.t.get b = some o2 ∧ ObjLe (Eo O) o2 o := by
  unfold consQ at hok
  split at hok
  · rename_i b hargs
    unfold consB at hok
    split at hok
    · rename_i c n1 q1 o1 r1 hb
      cases hc : (Nat.beq n1 3601 && Nat.ble (h.next + 8000) lim && Nat.blt b h.next) with
      | false => rw [hc] at hok; simp at hok
      | true =>
        rw [hc,cond_true] at hok
        simp only [Bool.and_eq_true] at hc
        obtain ⟨⟨x1,x2⟩,x3⟩ := hc
        obtain rfl := Nat.eq_of_beq_eq_true x1
        have x2 := Nat.le_of_ble_eq_true x2
        have x3 := of_blt x3
        unfold consA at hok
        split at hok
        · rename_i e l hl
          cases ha : allI64 l with
          | false => rw [ha] at hok; simp at hok
          | true =>
            rw [ha,cond_true] at hok
            have hll : l.length = 3600 := by have := (toL_get hl).1; simpa using this
            have harr : args = #[.pointer (some ⟨b,0,none⟩)] := Array.toList_inj.1 hargs
            subst harr
            obtain ⟨tm',h1,cnt,k1,k2,k3,k4,k5,k6⟩ := co_code (O := O) (ih := run (Eo O) n) x2 hll ha x3 hb hl (tm := Tr.ofL 33 [.pointer (some ⟨b,0,none⟩)]) rfl
            rw [k2,Nat.mul_div_cancel _ (by omega)] at hok
            have fin : ∀ u,tm'.get 2 = some u → run (Eo O) (n + 1) (.call 218 #[.pointer (some ⟨b,0,none⟩)] .normal) h = .ok (u,h1) := fun u hu =>
              (run_call (show (Eo O).O 218 = none from hO)).trans (enterS_ret (vs := [u]) fn218 body218 nt218 rfl res218 k1 (by simp only [resultsS,hu,need]))
            refine ⟨h1,?_⟩
            rcases k6 with ⟨rfl,c1⟩ | ⟨hpos,c1,ct,c2,c3⟩
            · have : consL 0 l = [] := List.eq_nil_of_length_eq_zero (by omega)
              rw [this] at hok
              simp only [consC,Except.ok.injEq,Prod.mk.injEq] at hok
              obtain ⟨rfl,rfl⟩ := hok
              exact ⟨fin _ c1,k4,fun x o hx => ⟨o,by rw [k5 x (hlow x o hx)]; exact hx,ObjLe.refl o⟩⟩
            · unfold consC at hok
              split at hok
              · rename_i h0; rw [h0] at k2; simp at k2; omega
              · rename_i a r h0
                simp only [Except.ok.injEq,Prod.mk.injEq] at hok
                obtain ⟨rfl,rfl⟩ := hok
                refine ⟨fin _ c1,k4,fun x o hx => ?_⟩
                simp only [get_put] at hx
                split at hx
                · rename_i hxx
                  obtain ⟨rfl,_⟩ := hxx
                  simp only [Option.some.injEq] at hx
                  subst hx
                  refine ⟨_,c2,ObjLe.cells fun i v hi => ?_⟩
                  have hi := ofL_get hi
                  have : i < (consL 0 l).length := by
                    rcases Nat.lt_or_ge i (consL 0 l).length with h | h
                    · exact h
                    · rw [List.getElem?_eq_none h] at hi; simp at hi
                  rw [c3 i (by omega)]
                  exact hi
                · exact ⟨o,by rw [k5 x (hlow x o hx)]; exact hx,ObjLe.refl o⟩
        · simp at hok
    · simp at hok
  · simp at hok

theorem cons_ok (KE : EnvOK (Eo O)) (hdraw : DrawOK (Eo O)) (hOK : ∀ f g,(Eo O).O f = some g → OrcOK (Eo O) f g) (hO : O 218 = none) : OrcOK (Eo O) 218 consQ :=
  orc_of_run (run_ok KE hdraw hOK 1) fun args h v h' hlow hok => cons_run hO hlow hok

end Go.Proofs.YtgiompikfhhkmaaGreatDoor

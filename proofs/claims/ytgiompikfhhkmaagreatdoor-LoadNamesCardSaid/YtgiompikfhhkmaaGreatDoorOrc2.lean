/- The simulator on zone.top. -/
import Derived.Test.YtgiompikfhhkmaaGreatDoorOrc1
set_option linter.unusedVariables false
set_option linter.unusedSimpArgs false
set_option linter.unusedSimpArgs false
set_option linter.unusedVariables false
namespace Go.Proofs.YtgiompikfhhkmaaGreatDoor
open Go Go.Sim
set_option maxRecDepth 100000
variable {O : Nat → Option (List Value → SHeap → Except String (Value × SHeap))} {ih : K} {ds : List Deferred}

noncomputable def topOut : Code := cI (cI (cB (cA (cB (cB (cF Tryz.f199))))))
noncomputable def topIn : Code := cI (cI (cB (cB (cI (cA (cB (cB topOut)))))))

theorem T309 : Tab.types.get 309 = some ⟨.array 60 3,60,Tab.t309.bytes,Tab.t309.zero⟩ := by kernel_rfl
theorem T311 : Tab.types.get 311 = some ⟨.array 60 309,3600,Tab.t311.bytes,Tab.t311.zero⟩ := by kernel_rfl
theorem T3 : Tab.types.get 3 = some ⟨.int .i64,1,Tab.t3.bytes,Tab.t3.zero⟩ := by kernel_rfl

theorem E3 : (Eo O).T 3 = some ⟨.int .i64,1,Tab.t3.bytes,Tab.t3.zero⟩ := T3
theorem E309 : (Eo O).T 309 = some ⟨.array 60 3,60,Tab.t309.bytes,Tab.t309.zero⟩ := T309
theorem E311 : (Eo O).T 311 = some ⟨.array 60 309,3600,Tab.t311.bytes,Tab.t311.zero⟩ := T311
theorem ia311 {a : Addr} {i : Nat} {h : SHeap} (hi : i < 60) : opIndexAddr (Eo O) ((Eo O).T 311) (some (.pointer (some a))) (some i) h = valR (.pointer (some (addrAdd a (i * 60)))) h := by
  show opIndexAddr (Eo O) (Tab.types.get 311) _ _ _ = _
  rw [T311]
  show indexTo (Eo O) 309 60 a i h = _
  unfold indexTo
  rw [show (Eo O).T 309 = Tab.types.get 309 from rfl,T309]
  simp only [blt_of hi,cond_true]
theorem ia309 {a : Addr} {i : Nat} {h : SHeap} (hi : i < 60) : opIndexAddr (Eo O) ((Eo O).T 309) (some (.pointer (some a))) (some i) h = valR (.pointer (some (addrAdd a i))) h := by
  show opIndexAddr (Eo O) (Tab.types.get 309) _ _ _ = _
  rw [T309]
  show indexTo (Eo O) 3 60 a i h = _
  unfold indexTo
  rw [show (Eo O).T 3 = Tab.types.get 3 from rfl,T3]
  simp only [blt_of hi,cond_true,Nat.mul_one]

structure TopI (ds : List Deferred) (i j : Nat) (st : St) : Prop where
  ds : st.defers = ds
  t0 : st.tm.get 0 = some (.pointer (some ⟨10,0,none⟩))
  t1 : st.tm.get 1 = some (.pointer (some ⟨11,0,none⟩))
  t4 : st.tm.get 4 = some (.int .i64 (.ofNat i))
  t2 : st.tm.get 2 = some (.int .i64 (.ofNat i))
  t7 : st.tm.get 7 = some (.int .i64 (.ofNat j))
  next : st.h.next = 12
  h2 : ∃ z,st.h.t.get 10 = some (.cells z 3600 311 false false)
  h3 : ∃ c,st.h.t.get 11 = some (.cells c 3600 311 false false) ∧ (c.toL 32 3600).isSome = true ∧
    ∀ k,k < 3600 → c.get k = some (.int .i64 (if k < i * 60 + j ∧ k / 60 ≠ k % 60 then 2305843009213693952 else 0))

theorem top_in (i j : Nat) (hi : i < 60) (hj : j < 60) (st : St) (hI : TopI ds i j st) :
    ∃ st',codeS topIn (Eo O) ih ⟨199,20,.normal,none⟩ st = .ok (.normal,st') ∧ TopI ds i (j + 1) st' := by
  obtain ⟨tm,h,dd⟩ := st
  obtain ⟨hd,h0,h1,h4,h2,h7,hn,⟨z,hz⟩,c,hc,hs,hg⟩ := hI
  simp only at hd h0 h1 h4 h2 h7 hn hz hc
  have hj' : decide (Int.ofNat j < 60) = true := by simp; omega
  have hj2 : wrapF .i64 (Int.ofNat j + 1) = .ofNat (j + 1) := wrap_small (m := j + 1) (by omega)
  have hlt : 0 + i * 60 + j < 3600 := by omega
  generalize hr : codeS topIn (Eo O) ih ⟨199,20,.normal,none⟩ ⟨tm,h,dd⟩ = r
  unfold topIn topOut at hr
  by_cases hne : i = j
  · have hne' : (Int.ofNat i != Int.ofNat j) = false := by simp [hne]
    simp only [Tryz.f199,cF,Option.getD,cA,cB,cI,codeS,cSeq_run,cCond_run,cRegion_run,cBlock_run,cSkip_run,opsS_nil,opsS_run,opS_free,thenS_normal,exitBlock_normal,normalS_ok,dispatch,dMove,opMove,evT_tmp,evT_int,dBin,lss_i64,neq_i64,add_i64,valR,afterS_value,putT_some,putT_none,get_put,lim,Nat.reduceLT,Nat.reduceEqDiff,and_true,if_true,if_false,reduceIte,false_and,true_and,
      dIndexAddr,dStore,Option.bind_some,natOf_int,addrAdd_free,
      h1,h2,h7,hj',hne',hj2,ia311 hi,ia309 hj,store_int (E := Eo O) E3 rfl hc hlt] at hr
    subst hr
    refine ⟨_,rfl,?_⟩
    refine ⟨hd,?_,?_,?_,?_,?_,hn,⟨z,hz⟩,c,hc,hs,fun k hk => ?_⟩
    · simp [get_put,lim,h0]
    · simp [get_put,lim,h1]
    · simp [get_put,lim,h4]
    · simp [get_put,lim,h2]
    · simp [get_put,lim]
    · rw [hg k hk]
      congr 2
      by_cases e : k = i * 60 + j
      · rw [if_neg (by omega),if_neg (by omega)]
      · have : (k < i * 60 + (j + 1)) ↔ (k < i * 60 + j) := by omega
        simp only [this]
  · have hne' : (Int.ofNat i != Int.ofNat j) = true := by simp; omega
    simp only [Tryz.f199,cF,Option.getD,cA,cB,cI,codeS,cSeq_run,cCond_run,cRegion_run,cBlock_run,cSkip_run,opsS_nil,opsS_run,opS_free,thenS_normal,exitBlock_normal,normalS_ok,dispatch,dMove,opMove,evT_tmp,evT_int,dBin,lss_i64,neq_i64,add_i64,valR,afterS_value,putT_some,putT_none,get_put,lim,Nat.reduceLT,Nat.reduceEqDiff,and_true,if_true,if_false,reduceIte,false_and,true_and,
      dIndexAddr,dStore,Option.bind_some,natOf_int,addrAdd_free,
      h1,h2,h7,hj',hne',hj2,ia311 hi,ia309 hj,store_int (E := Eo O) E3 rfl hc hlt] at hr
    subst hr
    refine ⟨_,rfl,?_⟩
    refine ⟨hd,?_,?_,?_,?_,?_,hn,⟨z,?_⟩,c.put (0 + i * 60 + j) (some (.int .i64 2305843009213693952)),?_,toL_put hs,fun k hk => ?_⟩
    · simp [get_put,lim,h0]
    · simp [get_put,lim,h1]
    · simp [get_put,lim,h4]
    · simp [get_put,lim,h2]
    · simp [get_put,lim]
    · simp [SHeap.set,get_put,lim,hz]
    · simp [SHeap.set,get_put,lim]
    · rw [get_put]
      by_cases e : k = 0 + i * 60 + j
      · rw [if_pos ⟨e,by unfold lim; omega⟩,if_pos (by omega)]
      · rw [if_neg (by omega),hg k hk]
        congr 2
        have : (k < i * 60 + (j + 1)) ↔ (k < i * 60 + j) := by omega
        simp only [this]

structure TopO (ds : List Deferred) (i : Nat) (st : St) : Prop where
  ds : st.defers = ds
  t0 : st.tm.get 0 = some (.pointer (some ⟨10,0,none⟩))
  t1 : st.tm.get 1 = some (.pointer (some ⟨11,0,none⟩))
  t4 : st.tm.get 4 = some (.int .i64 (.ofNat i))
  next : st.h.next = 12
  h2 : ∃ z,st.h.t.get 10 = some (.cells z 3600 311 false false)
  h3 : ∃ c,st.h.t.get 11 = some (.cells c 3600 311 false false) ∧ (c.toL 32 3600).isSome = true ∧
    ∀ k,k < 3600 → c.get k = some (.int .i64 (if k < i * 60 ∧ k / 60 ≠ k % 60 then 2305843009213693952 else 0))

theorem top_in_end (i : Nat) (st : St) (hI : TopI ds i 60 st) : ∃ st',codeS topIn (Eo O) ih ⟨199,20,.normal,none⟩ st = .ok (.exit 2,st') ∧ TopO ds (i + 1) { st' with tm := st'.tm.put 4 (some (.int .i64 (.ofNat (i + 1)))) } ∧ st'.tm.get 4 = some (.int .i64 (.ofNat i)) := by
  obtain ⟨tm,h,dd⟩ := st
  obtain ⟨hd,h0,h1,h4,h2,h7,hn,⟨z,hz⟩,c,hc,hs,hg⟩ := hI
  simp only at hd h0 h1 h4 h2 h7 hn hz hc
  have hj' : decide (Int.ofNat 60 < 60) = false := by decide
  generalize hr : codeS topIn (Eo O) ih ⟨199,20,.normal,none⟩ ⟨tm,h,dd⟩ = r
  unfold topIn topOut at hr
  simp only [Tryz.f199,cF,Option.getD,cA,cB,cI,codeS,cSeq_run,cCond_run,cRegion_run,cBlock_run,cSkip_run,cExit_run,opsS_nil,opsS_run,opS_free,thenS_normal,thenS_exit,exitBlock_normal,normalS_ok,dispatch,dMove,opMove,evT_tmp,evT_int,dBin,lss_i64,valR,afterS_value,putT_some,putT_none,get_put,lim,Nat.reduceLT,Nat.reduceEqDiff,and_true,if_true,if_false,reduceIte,false_and,true_and,h7,hj'] at hr
  subst hr
  refine ⟨_,rfl,?_,?_⟩
  · refine ⟨hd,?_,?_,?_,hn,⟨z,hz⟩,c,hc,hs,fun k hk => ?_⟩
    · simp [get_put,lim,h0]
    · simp [get_put,lim,h1]
    · simp [get_put,lim]
    · rw [hg k hk,show i * 60 + 60 = (i + 1) * 60 by omega]
  · simp [get_put,lim,h4]

theorem top_out (i : Nat) (hi : i < 60) (st : St) (hI : TopO ds i st) : ∃ st',codeS topOut (Eo O) ih ⟨199,20,.normal,none⟩ st = .ok (.normal,st') ∧ TopO ds (i + 1) st' := by
  obtain ⟨tm,h,dd⟩ := st
  obtain ⟨hd,h0,h1,h4,hn,⟨z,hz⟩,c,hc,hs,hg⟩ := hI
  simp only at hd h0 h1 h4 hn hz hc
  have hj' : decide (Int.ofNat i < 60) = true := by simp; omega
  have hj2 : wrapF .i64 (Int.ofNat i + 1) = .ofNat (i + 1) := wrap_small (m := i + 1) (by omega)
  generalize hr : codeS topOut (Eo O) ih ⟨199,20,.normal,none⟩ ⟨tm,h,dd⟩ = r
  have hin : TopI ds i 0 ⟨((((tm.put 5 (some (.bool true))).put 6 (some (.int .i64 (.ofNat i)))).put 2 (some (.int .i64 (.ofNat i)))).put 7 (some (.int .i64 0))),h,dd⟩ := by
    refine ⟨hd,?_,?_,?_,?_,?_,hn,⟨z,hz⟩,c,hc,hs,fun k hk => ?_⟩
    · simp [get_put,lim,h0]
    · simp [get_put,lim,h1]
    · simp [get_put,lim,h4]
    · simp [get_put,lim]
    · simp [get_put,lim]
    · rw [hg k hk]; rfl
  obtain ⟨⟨tm',h',dd'⟩,e1,e2,e3⟩ := loopS_inv (f := codeS topIn (Eo O) ih ⟨199,20,.normal,none⟩) (I := TopI ds i) (N := 60) (id := 2)
    (fun j st hj hI => top_in i j hi hj st hI) (fun st hI => top_in_end i st hI) 60 1000000 0 _ (by omega) (by omega) hin
  unfold topIn topOut at e1
  unfold topOut at hr
  simp only [Tryz.f199,cF,Option.getD,cA,cB,cI,codeS] at e1
  simp only [Tryz.f199,cF,Option.getD,cA,cB,cI,codeS,cSeq_run,cCond_run,cRegion_run,cBlock_run,cSkip_run,cLoop_run,opsS_nil,opsS_run,opS_free,thenS_normal,exitBlock_normal,exitBlock_exit,normalS_ok,dispatch,dMove,opMove,evT_tmp,evT_int,dBin,lss_i64,add_i64,valR,afterS_value,putT_some,putT_none,get_put,lim,Nat.reduceLT,Nat.reduceEqDiff,and_true,if_true,if_false,reduceIte,false_and,true_and,h4,hj',hj2,e1,e3,Nat.beq,cond_true] at hr
  subst hr
  refine ⟨_,rfl,?_⟩
  obtain ⟨a1,a2,a3,a4,a5,a6,a7⟩ := e2
  refine ⟨a1,?_,?_,?_,a5,a6,a7⟩
  · have := a2; simp [get_put,lim] at this ⊢; exact this
  · have := a3; simp [get_put,lim] at this ⊢; exact this
  · simp [get_put,lim]

theorem top_out_end (st : St) (hI : TopO ds 60 st) : ∃ st',codeS topOut (Eo O) ih ⟨199,20,.normal,none⟩ st = .ok (.exit 0,st') ∧ TopO ds 60 st' := by
  obtain ⟨tm,h,dd⟩ := st
  obtain ⟨hd,h0,h1,h4,hn,⟨z,hz⟩,c,hc,hs,hg⟩ := hI
  simp only at hd h0 h1 h4 hn hz hc
  have hj' : decide (Int.ofNat 60 < 60) = false := by decide
  generalize hr : codeS topOut (Eo O) ih ⟨199,20,.normal,none⟩ ⟨tm,h,dd⟩ = r
  unfold topOut at hr
  simp only [Tryz.f199,cF,Option.getD,cA,cB,cI,codeS,cSeq_run,cCond_run,cRegion_run,cBlock_run,cSkip_run,cExit_run,opsS_nil,opsS_run,opS_free,thenS_normal,thenS_exit,exitBlock_normal,normalS_ok,dispatch,dMove,opMove,evT_tmp,evT_int,dBin,lss_i64,valR,afterS_value,putT_some,putT_none,get_put,lim,Nat.reduceLT,Nat.reduceEqDiff,and_true,if_true,if_false,reduceIte,false_and,true_and,h4,hj'] at hr
  subst hr
  refine ⟨_,rfl,?_⟩
  refine ⟨hd,?_,?_,?_,hn,⟨z,hz⟩,c,hc,hs,hg⟩
  · simp [get_put,lim,h0]
  · simp [get_put,lim,h1]
  · simp [get_put,lim,h4]

def zeroL : List Value := List.replicate 3600 (.int .i64 0)
theorem z311 : Tab.t311.zero = some (.agg zeroL.toArray) := by kernel_rfl
theorem toL_top : (Tr.ofL 33 topL).toL 32 3600 = some topL := by kernel_rfl
theorem toL_zero : (Tr.ofL 33 zeroL).toL 32 3600 = some zeroL := by kernel_rfl
theorem all_top : allScalar topL = true := by kernel_rfl
theorem len_top : topL.length = 3600 := by simp [topL]
theorem len_zero : zeroL.length = 3600 := by simp [zeroL]
theorem eq_top : wEq (.agg topL.toArray) (.agg topL.toArray) = true := by kernel_rfl
theorem plain_top : plainV 3 (.agg topL.toArray) = true := by kernel_rfl

theorem top_list {c : Tr Value} {i : Nat} (hi : i = 60) (hs : (c.toL 32 3600).isSome = true) (hg : ∀ k,k < 3600 → c.get k = some (.int .i64 (if k < i * 60 ∧ k / 60 ≠ k % 60 then 2305843009213693952 else 0))) : c.toL 32 3600 = some topL := by
  cases hl : c.toL 32 3600 with
  | none => rw [hl] at hs; simp at hs
  | some l =>
    obtain ⟨h1,h2⟩ := toL_get hl
    congr 1
    refine List.ext_getElem? fun k => ?_
    by_cases hk : k < 3600
    · rw [h2 k hk (by unfold lim; omega),hg k hk,topL,List.getElem?_map,List.getElem?_range hk]
      simp only [Option.map_some,beq_decide]
      by_cases e : k / 60 = k % 60
      · rw [if_neg (by omega),decide_eq_true e,cond_true]
      · rw [if_pos ⟨by omega,e⟩,decide_eq_false e,cond_false]
    · rw [List.getElem?_eq_none (by omega),List.getElem?_eq_none (by rw [len_top]; omega)]

theorem ofL_get_eq {l : List Value} {i : Nat} (hi : i < lim) : (Tr.ofL 33 l).get i = l[i]? := by
  unfold Tr.get
  rw [blt_of hi,cond_true]
  exact ofL_get' 32 l i hi

theorem top_ops {tm : Tr Value} {h : SHeap} {z c : Tr Value} {tl : List Value} (len_top : tl.length = 3600) (all_top : allScalar tl = true) (h0 : tm.get 0 = some (.pointer (some ⟨10,0,none⟩))) (h1 : tm.get 1 = some (.pointer (some ⟨11,0,none⟩)))
    (hz : h.t.get 10 = some (.cells z 3600 311 false false)) (hc : h.t.get 11 = some (.cells c 3600 311 false false)) (hl : c.toL 32 3600 = some tl) :
    loadAt (Eo O) h 311 ⟨11,0,none⟩ = .ok (.agg tl.toArray) ∧ storeAt (Eo O) h 311 ⟨10,0,none⟩ (.agg tl.toArray) = .ok (h.set 10 (some (.cells (Tr.ofL 33 tl) 3600 311 false false))) := by
  constructor
  · unfold loadAt
    simp only [E311,hc]
    rw [if_pos (show TI.agg ⟨.array 60 309,3600,Tab.t311.bytes,Tab.t311.zero⟩ = true from rfl)]
    unfold range
    rw [show Nat.ble 3600 12 = false from rfl,cond_false]
    simp only [hl]
    rw [show (Nat.ble (0 + 3600) 3600 && Nat.ble 3600 lim) = true from rfl,cond_true]
    simp only [List.drop_zero]
    rw [List.take_of_length_le (by rw [len_top]; omega)]
  · unfold storeAt
    simp only [E311,hz,Value.cells,List.size_toArray,len_top,ne_eq,not_true_eq_false,if_false]
    unfold storeRange
    rw [len_top,show Nat.ble 3600 12 = false from rfl,cond_false,all_top,show (true && Nat.ble (0 + 3600) 3600 && Nat.ble 3600 lim) = true from rfl,cond_true,show (Nat.beq 0 0 && Nat.beq 3600 3600) = true from rfl,cond_true]

theorem top_code {zl tl : List Value} (z311 : Tab.t311.zero = some (.agg zl.toArray)) (len_zero : zl.length = 3600) (toL_zero : ((Tr.ofL 33 zl).toL 32 3600).isSome = true) (get_zero : ∀ k,k < 3600 → (Tr.ofL 33 zl).get k = some (.int .i64 0)) (len_top : tl.length = 3600) (all_top : allScalar tl = true)
    (top_list : ∀ c : Tr Value,(c.toL 32 3600).isSome = true → (∀ k,k < 3600 → c.get k = some (.int .i64 (if k < 60 * 60 ∧ k / 60 ≠ k % 60 then 2305843009213693952 else 0))) → c.toL 32 3600 = some tl) :
    ∃ tm' h',codeS (cF Tryz.f199) (Eo O) ih ⟨199,20,.normal,none⟩ ⟨Tr.ofL 33 [],⟨.nil,10⟩,[]⟩ = .ok (.ret,⟨tm',h',[]⟩) ∧ tm'.get 0 = some (.pointer (some ⟨10,0,none⟩)) ∧ h'.t.get 10 = some (.cells (Tr.ofL 33 tl) 3600 311 false false) := by
  generalize hh0 : (⟨.nil,10⟩ : SHeap) = hp
  have hp2 : hp.next = 10 := by subst hh0; rfl
  have hin : TopO [] 0 ⟨((((Tr.ofL 33 []).put 0 (some (.pointer (some ⟨10,0,none⟩)))).put 1 (some (.pointer (some ⟨11,0,none⟩)))).put 4 (some (.int .i64 0))),newCells (newCells hp 311 zl false) 311 zl false,[]⟩ := by
    refine ⟨rfl,?_,?_,?_,?_,⟨Tr.ofL 33 zl,?_⟩,Tr.ofL 33 zl,?_,toL_zero,fun k hk => ?_⟩
    · simp [get_put,lim]
    · simp [get_put,lim]
    · simp [get_put,lim]
    · simp [newCells,SHeap.new,hp2]
    · simp [newCells,SHeap.new,get_put,lim,len_zero,hp2]
    · simp [newCells,SHeap.new,get_put,lim,len_zero,hp2]
    · rw [get_zero k hk,if_neg (by omega)]
  obtain ⟨⟨tm',h',dd'⟩,e1,e2⟩ := loopS_inv (f := codeS topOut (Eo O) ih ⟨199,20,.normal,none⟩) (I := TopO []) (N := 60) (id := 0)
    (fun j st hj hI => top_out j hj st hI) (fun st hI => top_out_end st hI) 60 1000000 0 _ (by omega) (by omega) hin
  obtain ⟨a1,a2,a3,a4,a5,⟨z,a6⟩,c,a7,a8,a9⟩ := e2
  simp only at a1 a2 a3 a4 a5 a6 a7
  have al := top_list c a8 a9
  obtain ⟨b1,b2⟩ := top_ops (O := O) len_top all_top a2 a3 a6 a7 al
  generalize hr : codeS (cF Tryz.f199) (Eo O) ih ⟨199,20,.normal,none⟩ ⟨Tr.ofL 33 [],hp,[]⟩ = r
  unfold topOut at e1
  simp only [Tryz.f199,cF,Option.getD,cA,cB,cI,codeS] at e1
  have al1 : ∀ h,opAlloc ((Eo O).T 311) 311 h = .ok (.value (.pointer (some ⟨h.next,0,none⟩)),newCells h 311 zl false) := by
    intro h
    rw [E311,z311]
    simp only [opAlloc,opNew,Value.cells]
  have n1 : (newCells hp 311 zl false).next = 11 := by simp [newCells,SHeap.new,hp2]
  have ld : opLoad (Eo O) 311 (some (.pointer (some ⟨11,0,none⟩))) h' = .ok (.value (.agg tl.toArray),h') := by
    unfold opLoad; simp only [b1]; rfl
  have sto : opStore (Eo O) 311 (some (.pointer (some ⟨10,0,none⟩))) (some (.agg tl.toArray)) h' = .ok (.value (.tuple #[]),h'.set 10 (some (.cells (Tr.ofL 33 tl) 3600 311 false false))) := by
    unfold opStore; simp only [b2]
  simp only [Tryz.f199,cF,Option.getD,codeS,cSeq_run,cRegion_run,cBlock_run,cRet_run,cLoop_run,opsS_nil,opsS_run,opS_free,thenS_normal,exitBlock_exit,normalS_ok,dispatch,dMove,opMove,dAlloc,al1,n1,hp2,evT_tmp,evT_int,dLoad,dStore,ld,sto,valR,afterS_value,putT_some,putT_none,get_put,lim,Nat.reduceLT,Nat.reduceEqDiff,and_true,if_true,if_false,reduceIte,false_and,true_and,e1,a2,a3,Nat.beq,cond_true] at hr
  subst hr a1
  refine ⟨_,_,rfl,?_,?_⟩
  · simp [get_put,lim,a2]
  · simp [SHeap.set,get_put,lim]

theorem top_res {tl : List Value} {tm' : Tr Value} {h' : SHeap} (len_top : tl.length = 3600) (toL_top : (Tr.ofL 33 tl).toL 32 3600 = some tl) (h2 : tm'.get 0 = some (.pointer (some ⟨10,0,none⟩))) (h3 : h'.t.get 10 = some (.cells (Tr.ofL 33 tl) 3600 311 false false)) :
    resultsS (Eo O) tm' h' [.cell 0 311] = .ok [.agg tl.toArray] := by
  have : loadAt (Eo O) h' 311 ⟨10,0,none⟩ = .ok (.agg tl.toArray) := by
    unfold loadAt
    simp only [E311,h3]
    rw [if_pos (show TI.agg ⟨.array 60 309,3600,Tab.t311.bytes,Tab.t311.zero⟩ = true from rfl)]
    unfold range
    rw [show Nat.ble 3600 12 = false from rfl,cond_false]
    simp only [toL_top]
    rw [show (Nat.ble (0 + 3600) 3600 && Nat.ble 3600 lim) = true from rfl,cond_true]
    simp only [List.drop_zero]
    rw [List.take_of_length_le (by rw [len_top]; omega)]
  simp only [resultsS,h2,this]

theorem get_zero (k : Nat) (hk : k < 3600) : (Tr.ofL 33 zeroL).get k = some (.int .i64 0) := by
  rw [ofL_get_eq (by unfold lim; omega),zeroL,List.getElem?_replicate,if_pos hk]
theorem some_zero : ((Tr.ofL 33 zeroL).toL 32 3600).isSome = true := by rw [toL_zero]; rfl
theorem body199 : Tryz.f199.body = some (cF Tryz.f199) := rfl
theorem fn199 : (Eo O).F 199 = some Tryz.f199 := by show Tab.funcs.get 199 = _; kernel_rfl
theorem nt199 : max Tryz.f199.ntmps (#[] : Array Value).size = 20 := rfl
theorem res199 : Tryz.f199.results.toList = [.cell 0 311] := rfl

/-- ZONE.TOP -/
theorem top_run (n : Nat) (hO : O 199 = none) : ∃ h',run (Eo O) (n + 1) (.call 199 #[] .normal) ⟨.nil,10⟩ = .ok (.agg topL.toArray,h') := by
  obtain ⟨tm',h',h1,h2,h3⟩ := top_code (O := O) (ih := run (Eo O) n) z311 len_zero some_zero get_zero len_top all_top (fun c h1 h2 => top_list rfl h1 h2)
  exact ⟨h',(run_call (show (Eo O).O 199 = none from hO)).trans (enterS_ret (vs := [.agg topL.toArray]) fn199 body199 nt199 rfl res199 h1 (top_res len_top toL_top h2 h3))⟩

theorem top_ok (KE : EnvOK (Eo O)) (hdraw : DrawOK (Eo O)) (hOK : ∀ f g,(Eo O).O f = some g → OrcOK (Eo O) f g) (hO : O 199 = none) : OrcOK (Eo O) 199 (pureO [] (.agg topL.toArray)) := by
  refine pure_ok (run_ok KE hdraw hOK 1) ?_
  obtain ⟨h',h1⟩ := top_run (O := O) 0 hO
  unfold pureRun
  have h1 : run (Eo O) 1 (.call 199 ([] : List Value).toArray .normal) ⟨.nil,(Eo O).G⟩ = .ok (.agg topL.toArray,h') := h1
  simp only [h1,eq_top,plain_top]
  rfl
end Go.Proofs.YtgiompikfhhkmaaGreatDoor

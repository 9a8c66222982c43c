/- The simulator on strings.Builder: a builder whose bytes are known. The simulator on a builder's String. The simulator on tell.text: a round of its loop, and the whole. The simulator on tell.text. Laws for the simulator's run of tell.claim's closure. -/
import Derived.Test.YtaclddcneogolaaGreatDoorNamA
set_option linter.unusedVariables false
set_option linter.unusedSimpArgs false
set_option linter.unusedSimpArgs false
set_option linter.unusedVariables false
namespace Go.Sim
open Go
/-- a store of one value -/
theorem store_val {E : Env} {t b k n e : Nat} {o : Bool} {c : Tr Value} {ti : TI} {v : Value} {h : SHeap} (ht : E.T t = some ti) (hs : ti.size = 1) (hv : scalarV v = true) (hb : h.t.get b = some (.cells c n e o false)) (hk : k < n) :
    opStore E t (some (.pointer (some ⟨b,k,none⟩))) (some v) h = .ok (.value (.tuple #[]),h.set b (some (.cells (c.put k (some v)) n e o false))) := by
  have hc : v.cells = #[v] := by cases v <;> simp [scalarV] at hv <;> rfl
  have hst : storeList c n k [v] = some (c.put k (some v)) := by
    cases v <;> simp [scalarV] at hv <;> simp [storeList,blt_of hk,force_eq,forceN_eq]
  unfold opStore storeAt
  simp only [ht,hb,hs,hc]
  simp [storeRange,hst]
  rfl
theorem enterS_end {E : Env} {ih : K} {f : FuncId} {args : Array Value} {k : CallKind} {h h' : SHeap} {fd : Func} {c : Code} {nt : Nat} {al vs : List Value} {tm' : Tr Value} {rv : List ResultVar} {o : Out} (hF : E.F f = some fd) (hb : fd.body = some c) (hn : max fd.ntmps args.size = nt) (ha : args.toList = al)
    (hv : fd.results.toList = rv) (ho : o = .normal ∨ o = .ret) (hc : codeS c E ih ⟨f,nt,k,none⟩ ⟨Tr.ofL 33 al,h,[]⟩ = .ok (o,⟨tm',h',[]⟩)) (hr : resultsS E tm' h' rv = .ok vs) : enterS E ih f args k h = .ok (tupled vs,h') := by
  subst hn ha hv
  rw [enterS_run hF hb,hc]
  rcases ho with rfl | rfl <;> simp only [leaveS,defersS,hr]
end Go.Sim
namespace Go.Proofs.YtaclddcneogolaaGreatDoor
open Go Go.Sim
set_option maxRecDepth 100000
variable {O : Nat → Option (List Value → SHeap → Except String (Value × SHeap))} {ih : K}

inductive BS (h : SHeap) (B : Nat) : Option Nat → List UInt8 → Prop
  | fresh {tb : Tr Value} : h.t.get B = some (.cells tb 2 84 false false) → tb.get 0 = some (.pointer none) → tb.get 1 = some (.slice none 0 0) → BS h B none []
  | empty {tb : Tr Value} : h.t.get B = some (.cells tb 2 84 false false) → tb.get 0 = some (.pointer (some ⟨B,0,none⟩)) → tb.get 1 = some (.slice none 0 0) → BS h B none []
  | full {tb ct : Tr Value} {R n : Nat} {l : List UInt8} : h.t.get B = some (.cells tb 2 84 false false) → tb.get 0 = some (.pointer (some ⟨B,0,none⟩)) → tb.get 1 = some (.slice (some ⟨R,0,none⟩) n openCap) → R ≠ B → R < h.next → l.length = n →
      h.t.get R = some (.cells ct n 5 true false) → (∀ k,k < n → ct.get k = (bytesV l)[k]?) → BS h B (some R) l

theorem E82 : (Eo O).T 82 = some ⟨.pointer 84,1,Tab.t82.bytes,Tab.t82.zero⟩ := by show Tab.types.get 82 = _; kernel_rfl
theorem E84 : (Eo O).T 84 = some ⟨Tab.t84.desc,2,Tab.t84.bytes,Tab.t84.zero⟩ := by show Tab.types.get 84 = _; kernel_rfl
theorem fa84 {a : Addr} {h : SHeap} : opFieldAddr (Eo O) ((Eo O).T 84) (some (.pointer (some a))) 0 h = .ok (.value (.pointer (some (addrAdd a 0))),h) := by kernel_rfl
theorem fa84x {a : Addr} {h : SHeap} : opFieldAddr (Eo O) ((Eo O).T 84) (some (.pointer (some a))) 1 h = .ok (.value (.pointer (some (addrAdd a 1))),h) := by kernel_rfl
theorem evT_ptrnil {G : Nat} {tm : Tr Value} : evT G tm (.const (.pointer none)) = some (.pointer none) := (id rfl)
theorem eql82xnn {ev : Ev} {o : Oper} {h : SHeap} : opBin (Eo O) ev o .eql 82 (some (.pointer none)) (some (.pointer none)) h = .ok (.value (.bool true),h) := by kernel_rfl
theorem eql82xsn {ev : Ev} {o : Oper} {a : Addr} {h : SHeap} : opBin (Eo O) ev o .eql 82 (some (.pointer (some a))) (some (.pointer none)) h = .ok (.value (.bool false),h) := by kernel_rfl
theorem neq82xss {ev : Ev} {o : Oper} {b : Nat} {h : SHeap} : opBin (Eo O) ev o .neq 82 (some (.pointer (some ⟨b,0,none⟩))) (some (.pointer (some ⟨b,0,none⟩))) h = .ok (.value (.bool false),h) := by
  have hb : Nat.beq b b = true := Nat.beq_refl _
  simp only [opBin,opEql,E82,eqNil,hb,E84,sized,show Nat.beq 2 0 = false from rfl,cond_false,Bool.and_self,cond_true,show Nat.beq 0 0 = true from rfl,Bool.not_true,valR]

theorem cv_to {ev : Ev} {o : Oper} {b e : Nat} {q r : Bool} {c : Tr Value} {h : SHeap} (hb : h.t.get b = some (.cells c 2 e q r)) : opConvert (Eo O) ev o 82 212 (some (.pointer (some ⟨b,0,none⟩))) h = .ok (.value (.pointer (some ⟨b,0,none⟩)),h) := by
  have e212 : (Eo O).T 212 = some ⟨.unsafePointer,1,Tab.t212.bytes,Tab.t212.zero⟩ := by show Tab.types.get 212 = _; kernel_rfl
  simp only [opConvert,E82,e212,hb,E84]
  rw [if_pos (by decide)]
  rfl
theorem cv_from {ev : Ev} {o : Oper} {b : Nat} {r : Bool} {c : Tr Value} {h : SHeap} (hb : h.t.get b = some (.cells c 2 84 false r)) : opConvert (Eo O) ev o 212 82 (some (.pointer (some ⟨b,0,none⟩))) h = .ok (.value (.pointer (some ⟨b,0,none⟩)),h) := by
  have e212 : (Eo O).T 212 = some ⟨.unsafePointer,1,Tab.t212.bytes,Tab.t212.zero⟩ := by show Tab.types.get 212 = _; kernel_rfl
  simp only [opConvert,E82,e212,hb]
  rw [if_pos (show (Eo O).lies 84 2 0 84 = true from rfl)]
  rfl
theorem evT_func {G : Nat} {tm : Tr Value} {f : FuncId} : evT G tm (.func f) = some (.func (.func f) #[] #[]) := (id rfl)
theorem callF114 {v : Value} {h : SHeap} : callF (Eo O) 114 #[v] h = .ok (.value v,h) := by kernel_rfl
theorem call114 {G : Nat} {tm : Tr Value} {o : Oper} {t : Tmp} {ats : Array TypeId} {h : SHeap} : opCall (Eo O) (evT G tm) o ⟨.value (.func 114),#[.tmp t],ats⟩ h = (match tm.get t with
    | some v => .ok (.value v,h)
    | none => .error "call  args") := by
  simp only [opCall,resolveS,evT_func,evList,evT_tmp]
  cases tm.get t with
  | none => rfl
  | some v => exact callF114 (O := O)

/-- the check's world -/
theorem cc_code {h : SHeap} {B : Nat} {R : Option Nat} {l : List UInt8} (hb : BS h B R l) (hB : B < lim) {tm : Tr Value} (t0 : tm.get 0 = some (.pointer (some ⟨B,0,none⟩))) :
    ∃ tm' h' o,o ≠ .exit 999 ∧ codeS (cF Tryz.f65) (Eo O) ih ⟨65,20,.normal,none⟩ ⟨tm,h,[]⟩ = .ok (o,⟨tm',h',[]⟩) ∧ (o = .normal ∨ o = .ret) ∧ h'.next = h.next ∧ (∀ x,x ≠ B → h'.t.get x = h.t.get x) ∧ BS h' B R l ∧
      ∃ tb,h'.t.get B = some (.cells tb 2 84 false false) ∧ tb.get 0 = some (.pointer (some ⟨B,0,none⟩)) := by
  generalize hr : codeS (cF Tryz.f65) (Eo O) ih ⟨65,20,.normal,none⟩ ⟨tm,h,[]⟩ = r
  cases hb with
  | fresh g1 g2 g3 =>
    rename_i tb
    have l0 := load_one (E := Eo O) (h := h) E82 rfl g1 (show tb.get (0 + 0) = _ from g2)
    have st := store_val (E := Eo O) (t := 82) (v := .pointer (some ⟨B,0,none⟩)) (h := h) E82 rfl rfl g1 (show 0 + 0 < 2 by omega)
    have c1 := fun (ev : Ev) (o : Oper) => cv_to (O := O) (ev := ev) (o := o) g1
    have c2 := fun (ev : Ev) (o : Oper) => cv_from (O := O) (ev := ev) (o := o) g1
    simp only [Tryz.f65,cF,Option.getD,cA,cB,cI,codeS,cSeq_run,cCond_run,cRegion_run,cRegion_draw,cBlock_run,cSkip_run,cRet_run,cExit_run,opsS_nil,opsS_run,opS_free,thenS_normal,thenS_ret,thenS_exit,exitBlock_normal,exitBlock_ret,exitBlock_exit,normalS_ok,dispatch,dMove,opMove,evT_tmp,evT_int,evT_bool,dBin,lss_i64,gtr_i64,add_i64,valR,afterS_value,putT_some,putT_none,get_put,lim,Nat.reduceLT,Nat.reduceEqDiff,and_true,if_true,if_false,reduceIte,false_and,true_and,cLoop_run,Nat.beq,cond_true,
      dIndexAddr,dFieldAddr,dNilCheck,dLoad,nilCheck_ptr,Option.bind_some,natOf_int,addrAdd_free,drawS_nil',drawS_cons',dstep_pure',dstep_reads',dstep_eff',readAgain_nil,readAgain_cons,valEq_int,callOut_enter,simOp_run,outVal_val,List.getElem?_toArray,List.getElem?_cons_succ,List.getElem?_cons_zero,List.drop_succ_cons,List.drop_zero,dPick,pick_true,pick_false,opS_guard,wantedS,Option.bind_some,dIndex,dBuild,dBuildSlice,dCall,evParts,evList,dSlice,bqa,bqb,bqc,bqd,evT_ptrnil,eql82xnn,fa84,dConvert,dStore,call114,c1,c2,t0,l0,st] at hr
    subst hr
    have hg : (h.set B (some (.cells (tb.put (0 + 0) (some (.pointer (some ⟨B,0,none⟩)))) 2 84 false false))).t.get B = some (.cells (tb.put (0 + 0) (some (.pointer (some ⟨B,0,none⟩)))) 2 84 false false) := by
      simp only [SHeap.set,get_put]
      rw [if_pos ⟨trivial,hB⟩]
    have p0 : (tb.put (0 + 0) (some (Value.pointer (some ⟨B,0,none⟩)))).get 0 = some (.pointer (some ⟨B,0,none⟩)) := by rw [get_put,if_pos ⟨rfl,by decide⟩]
    have p1 : (tb.put (0 + 0) (some (Value.pointer (some ⟨B,0,none⟩)))).get 1 = some (.slice none 0 0) := by rw [get_put,if_neg (by omega)]; exact g3
    refine ⟨_,_,_,?_,rfl,?_,rfl,fun x hx => ?_,.empty hg p0 p1,_,hg,p0⟩
    · simp
    · simp
    · simp only [SHeap.set,get_put]
      rw [if_neg (fun e => hx e.1)]
  | empty g1 g2 g3 =>
    rename_i tb
    have l0 := load_one (E := Eo O) (h := h) E82 rfl g1 (show tb.get (0 + 0) = _ from g2)
    simp only [Tryz.f65,cF,Option.getD,cA,cB,cI,codeS,cSeq_run,cCond_run,cRegion_run,cRegion_draw,cBlock_run,cSkip_run,cRet_run,cExit_run,opsS_nil,opsS_run,opS_free,thenS_normal,thenS_ret,thenS_exit,exitBlock_normal,exitBlock_ret,exitBlock_exit,normalS_ok,dispatch,dMove,opMove,evT_tmp,evT_int,evT_bool,dBin,lss_i64,gtr_i64,add_i64,valR,afterS_value,putT_some,putT_none,get_put,lim,Nat.reduceLT,Nat.reduceEqDiff,and_true,if_true,if_false,reduceIte,false_and,true_and,cLoop_run,Nat.beq,cond_true,
      dIndexAddr,dFieldAddr,dNilCheck,dLoad,nilCheck_ptr,Option.bind_some,natOf_int,addrAdd_free,drawS_nil',drawS_cons',dstep_pure',dstep_reads',dstep_eff',readAgain_nil,readAgain_cons,valEq_int,callOut_enter,simOp_run,outVal_val,List.getElem?_toArray,List.getElem?_cons_succ,List.getElem?_cons_zero,List.drop_succ_cons,List.drop_zero,dPick,pick_true,pick_false,opS_guard,wantedS,Option.bind_some,dIndex,dBuild,dBuildSlice,dCall,evParts,evList,dSlice,bqa,bqb,bqc,bqd,evT_ptrnil,eql82xsn,neq82xss,fa84,t0,l0] at hr
    subst hr
    exact ⟨_,_,_,by simp,rfl,by simp,rfl,fun _ _ => rfl,.empty g1 g2 g3,tb,g1,g2⟩
  | full g1 g2 g3 g4 g5 g6 g7 g8 =>
    rename_i tb ct RR n
    have l0 := load_one (E := Eo O) (h := h) E82 rfl g1 (show tb.get (0 + 0) = _ from g2)
    simp only [Tryz.f65,cF,Option.getD,cA,cB,cI,codeS,cSeq_run,cCond_run,cRegion_run,cRegion_draw,cBlock_run,cSkip_run,cRet_run,cExit_run,opsS_nil,opsS_run,opS_free,thenS_normal,thenS_ret,thenS_exit,exitBlock_normal,exitBlock_ret,exitBlock_exit,normalS_ok,dispatch,dMove,opMove,evT_tmp,evT_int,evT_bool,dBin,lss_i64,gtr_i64,add_i64,valR,afterS_value,putT_some,putT_none,get_put,lim,Nat.reduceLT,Nat.reduceEqDiff,and_true,if_true,if_false,reduceIte,false_and,true_and,cLoop_run,Nat.beq,cond_true,
      dIndexAddr,dFieldAddr,dNilCheck,dLoad,nilCheck_ptr,Option.bind_some,natOf_int,addrAdd_free,drawS_nil',drawS_cons',dstep_pure',dstep_reads',dstep_eff',readAgain_nil,readAgain_cons,valEq_int,callOut_enter,simOp_run,outVal_val,List.getElem?_toArray,List.getElem?_cons_succ,List.getElem?_cons_zero,List.drop_succ_cons,List.drop_zero,dPick,pick_true,pick_false,opS_guard,wantedS,Option.bind_some,dIndex,dBuild,dBuildSlice,dCall,evParts,evList,dSlice,bqa,bqb,bqc,bqd,evT_ptrnil,eql82xsn,neq82xss,fa84,t0,l0] at hr
    subst hr
    exact ⟨_,_,_,by simp,rfl,by simp,rfl,fun _ _ => rfl,.full g1 g2 g3 g4 g5 g6 g7 g8,tb,g1,g2⟩

theorem body65 : Tryz.f65.body = some (cF Tryz.f65) := rfl
theorem fn65 : (Eo O).F 65 = some Tryz.f65 := by show Tab.funcs.get 65 = _; kernel_rfl
theorem nt65 {a : Value} : max Tryz.f65.ntmps (#[a] : Array Value).size = 20 := rfl
theorem res65 : Tryz.f65.results.toList = [] := rfl
theorem en65 : EntersS (Eo O) 65 := fun _ _ => by kernel_rfl

theorem cc_run {k : Nat} (o65 : O 65 = none) {h : SHeap} {B : Nat} {R : Option Nat} {l : List UInt8} (hb : BS h B R l) (hB : B < lim) :
    ∃ h',run (Eo O) (k + 1) (.call 65 #[.pointer (some ⟨B,0,none⟩)] .normal) h = .ok (.tuple #[],h') ∧ h'.next = h.next ∧ (∀ x,x ≠ B → h'.t.get x = h.t.get x) ∧ BS h' B R l ∧ ∃ tb,h'.t.get B = some (.cells tb 2 84 false false) ∧ tb.get 0 = some (.pointer (some ⟨B,0,none⟩)) := by
  obtain ⟨tm',h',o,_,k1,k2,k3,k4,k5,k6⟩ := cc_code (O := O) (ih := run (Eo O) k) hb hB (tm := Tr.ofL 33 [.pointer (some ⟨B,0,none⟩)]) rfl
  exact ⟨h',(run_call (show (Eo O).O 65 = none from o65)).trans (enterS_end (vs := []) fn65 body65 nt65 rfl res65 k2 k1 rfl),k3,k4,k5,k6⟩

theorem plain9 : plainArg (Eo O) [9] = true := by kernel_rfl
theorem E5z : (Eo O).T 5 = some ⟨.int .u8,1,1,some (.int .u8 0)⟩ := by show Tab.types.get 5 = _; kernel_rfl
theorem first_str {s : List UInt8} {h : SHeap} : firstC (Eo O) h 1 (⟨s.toArray⟩ : ByteArray).size (.string ⟨s.toArray⟩) = .ok (bytesV s) := by
  simp only [firstC,extract_data]
  congr 1
  have : (⟨s.toArray⟩ : ByteArray).size = s.length := rfl
  rw [this]
  simp [bytesV]
theorem apS_nil {c : Call} (hc : c.argTypes.toList = [38,9]) {s : List UInt8} (hn : 0 < s.length) (hl : s.length ≤ 1000000000000) {h : SHeap} :
    appendS (Eo O) c [.slice none 0 0,.string ⟨s.toArray⟩] h = .ok (.slice (some ⟨h.next,0,none⟩) s.length openCap,newCells h 5 (bytesV s) true) := by
  have hs : (⟨s.toArray⟩ : ByteArray).size = s.length := rfl
  unfold appendS
  simp only [hc,plain9,cond_true,E38,E5z,lenV,first_str]
  rw [hs]
  unfold appendTo
  have h1 : Nat.beq (bytesV s).length (s.length * 1) = true := by rw [bytesV_len,Nat.mul_one]; exact Nat.beq_refl _
  have h2 : Nat.ble ((0 + s.length) * (1 + 1)) 70368744177664 = true := by rw [Nat.ble_eq]; omega
  have h3 : Nat.ble (0 + s.length) 0 = false := by
    cases hq : Nat.ble (0 + s.length) 0 with
    | false => rfl
    | true => have := Nat.le_of_ble_eq_true hq; omega
  rw [h1,h2,show (true && true) = true from rfl,cond_true,show Nat.beq 0 openCap = false from rfl,cond_false,show Nat.blt 0 openCap = true from rfl,cond_true,h3,cond_false]
  unfold appendGrow
  simp only [firstC]
  rw [show Nat.beq ([] : List Value).length (0 * 1) = true from rfl,cond_true,Nat.zero_add]
  rfl
theorem apS_open {c : Call} (hc : c.argTypes.toList = [38,9]) {s : List UInt8} {R n : Nat} {ct c' : Tr Value} (hl : s.length ≤ 1000000000000) (hn : n ≤ 1000000000000) {h : SHeap} (hr : h.t.get R = some (.cells ct n 5 true false)) (hst : storeList ct (n + s.length) n (bytesV s) = some c') :
    appendS (Eo O) c [.slice (some ⟨R,0,none⟩) n openCap,.string ⟨s.toArray⟩] h = .ok (.slice (some ⟨h.next,0,none⟩) (n + s.length) openCap,(h.set R none).new (.cells c' (n + s.length) 5 true false)) := by
  have hs : (⟨s.toArray⟩ : ByteArray).size = s.length := rfl
  unfold appendS
  simp only [hc,plain9,cond_true,E38,E5z,lenV,first_str]
  rw [hs]
  unfold appendTo
  have h1 : Nat.beq (bytesV s).length (s.length * 1) = true := by rw [bytesV_len,Nat.mul_one]; exact Nat.beq_refl _
  have h2 : Nat.ble ((n + s.length) * (1 + 1)) 70368744177664 = true := by rw [Nat.ble_eq]; omega
  rw [h1,h2,show (true && true) = true from rfl,cond_true,show Nat.beq openCap openCap = true from rfl,cond_true]
  unfold appendOpen
  have h3 : Nat.beq n (n * 1) = true := by rw [Nat.mul_one]; exact Nat.beq_refl _
  simp only [hr]
  rw [h3,show (Nat.beq 0 0 && Nat.beq 5 5 && true) = true from rfl,cond_true,bytesV_len,hst]

theorem evT_nil {G : Nat} {tm : Tr Value} : evT G tm (.const .nilIface) = some .nilIface := (id rfl)
theorem len9 {ev : Ev} {op : Oper} {s : ByteArray} {h : SHeap} : opLen (Eo O) ev op ((Eo O).T 9) (.string s) h = .ok (.value (.int .i64 (.ofNat s.data.toList.length)),h) := by
  rw [E9]; rfl

/-- what a write leaves -/
structure Wrote (h h' : SHeap) (B : Nat) (R : Option Nat) (l : List UInt8) : Prop where
  bs : BS h' B (some h.next) l
  next : h'.next = h.next + 1
  keep : ∀ x,x < h.next → x ≠ B → R ≠ some x → h'.t.get x = h.t.get x

theorem ws_code {h h1 : SHeap} {B : Nat} {R : Option Nat} {l s : List UInt8} {tb : Tr Value} (hcc : ih (.call 65 #[.pointer (some ⟨B,0,none⟩)] .normal) h = .ok (.tuple #[],h1)) (hnx : h1.next = h.next) (hkeep : ∀ x,x ≠ B → h1.t.get x = h.t.get x) (hb : BS h1 B R l)
    (htb : h1.t.get B = some (.cells tb 2 84 false false)) (htb0 : tb.get 0 = some (.pointer (some ⟨B,0,none⟩))) (hB : B < h.next) (hl : h.next + 10 ≤ lim) (hs : 0 < s.length) (hsl : s.length ≤ 1000000) (hll : l.length + s.length ≤ 4000000000)
    {tm : Tr Value} (t0 : tm.get 0 = some (.pointer (some ⟨B,0,none⟩))) (t1 : tm.get 1 = some (.string ⟨s.toArray⟩)) :
    ∃ tm' h',codeS (cF Tryz.f28) (Eo O) ih ⟨28,19,.normal,none⟩ ⟨tm,h,[]⟩ = .ok (.ret,⟨tm',h',[]⟩) ∧ (∃ a b,tm'.get 4 = some a ∧ tm'.get 5 = some b) ∧ Wrote h h' B R (l ++ s) := by
  have hBl : B < lim := by omega
  generalize hr : codeS (cF Tryz.f28) (Eo O) ih ⟨28,19,.normal,none⟩ ⟨tm,h,[]⟩ = r
  cases hb with
  | fresh g1 g2 g3 =>
    rename_i tb2
    rw [htb] at g1
    simp only [Option.some.injEq,SObj.cells.injEq] at g1
    obtain ⟨rfl,_⟩ := g1
    rw [htb0] at g2
    simp at g2
  | empty g1 g2 g3 =>
    rename_i tb2
    have ap : ∀ (cal : Callee) (a : Array Operand),appendS (Eo O) ⟨cal,a,#[38,9]⟩ [.slice none 0 0,.string ⟨s.toArray⟩] h1 = _ := fun _ _ => apS_nil rfl hs (by omega)
    have l1 := load_one (E := Eo O) (h := h1) E38 rfl g1 (show tb2.get (0 + 1) = _ from g3)
    have gB : (newCells h1 5 (bytesV s) true).t.get B = some (.cells tb2 2 84 false false) := by
      rw [new_low (by omega)]; exact g1
    have st := store_val (E := Eo O) (t := 38) (v := .slice (some ⟨h1.next,0,none⟩) s.length openCap) E38 rfl rfl gB (show 0 + 1 < 2 by omega)
    simp only [Tryz.f28,cF,Option.getD,cA,cB,cI,codeS,cSeq_run,cCond_run,cRegion_run,cRegion_draw,cBlock_run,cSkip_run,cRet_run,cExit_run,opsS_nil,opsS_run,opS_free,thenS_normal,thenS_ret,thenS_exit,exitBlock_normal,exitBlock_ret,exitBlock_exit,normalS_ok,dispatch,dMove,opMove,evT_tmp,evT_int,evT_bool,dBin,lss_i64,gtr_i64,add_i64,valR,afterS_value,putT_some,putT_none,get_put,lim,Nat.reduceLT,Nat.reduceEqDiff,and_true,if_true,if_false,reduceIte,false_and,true_and,cLoop_run,Nat.beq,cond_true,
      dIndexAddr,dFieldAddr,dNilCheck,dLoad,nilCheck_ptr,Option.bind_some,natOf_int,addrAdd_free,drawS_nil',drawS_cons',dstep_pure',dstep_reads',dstep_eff',readAgain_nil,readAgain_cons,valEq_int,callOut_enter,simOp_run,outVal_val,List.getElem?_toArray,List.getElem?_cons_succ,List.getElem?_cons_zero,List.drop_succ_cons,List.drop_zero,dPick,pick_true,pick_false,opS_guard,wantedS,Option.bind_some,dIndex,dBuild,dBuildSlice,dCall,evParts,evList,dSlice,bqa,bqb,bqc,bqd,evT_nil,afterS_enter,call_fn en65,opCall_app,opCall_len,opBuiltin,len9,hcc,fa84x,dStore,t0,t1,l1,ap,st] at hr
    subst hr
    refine ⟨_,_,rfl,⟨_,_,by simp [get_put,lim]; rfl,by simp [get_put,lim]; rfl⟩,?_,?_,fun x hx hxB _ => ?_⟩
    · rw [List.nil_append]
      refine .full (R := h.next) (n := s.length) (tb := tb2.put (0 + 1) (some (.slice (some ⟨h1.next,0,none⟩) s.length openCap))) (ct := Tr.ofL 33 (bytesV s)) ?_ ?_ ?_ (by omega) ?_ rfl ?_ fun k hk => ?_
      · simp only [SHeap.set,get_put]; rw [if_pos ⟨trivial,hBl⟩]
      · rw [get_put,if_neg (by omega)]; exact g2
      · rw [get_put,if_pos ⟨rfl,by decide⟩,hnx]
      · simp only [SHeap.set]; show h.next < h1.next + 1; omega
      · simp only [SHeap.set,get_put]
        rw [if_neg (by omega)]
        have := box_get (t := 5) (l := bytesV s) (o := true) (h := h1) (by omega)
        rw [hnx,bytesV_len] at this
        exact this
      · exact ofL_get_eq (by unfold lim; omega)
    · simp only [SHeap.set]; show h1.next + 1 = h.next + 1; omega
    · simp only [SHeap.set,get_put]
      rw [if_neg (fun e => hxB e.1),new_low (by omega),hkeep x hxB]
  | full g1 g2 g3 g4 g5 g6 g7 g8 =>
    rename_i tb2 ct RR n
    obtain ⟨c',k1,k2⟩ := storeList_some (vs := bytesV s) (c := ct) (n := n + s.length) (i := n) (bytesV_scalar s) (by rw [bytesV_len]; omega) (by unfold lim; omega)
    have ap : ∀ (cal : Callee) (a : Array Operand),appendS (Eo O) ⟨cal,a,#[38,9]⟩ [.slice (some ⟨RR,0,none⟩) n openCap,.string ⟨s.toArray⟩] h1 = _ := fun _ _ => apS_open rfl (by omega) (by omega) g7 k1
    have l1 := load_one (E := Eo O) (h := h1) E38 rfl g1 (show tb2.get (0 + 1) = _ from g3)
    have gB : ((h1.set RR none).new (.cells c' (n + s.length) 5 true false)).t.get B = some (.cells tb2 2 84 false false) := by
      simp only [SHeap.new,SHeap.set,get_put]
      rw [if_neg (by omega),if_neg (fun e => g4 e.1.symm)]; exact g1
    have st := store_val (E := Eo O) (t := 38) (v := .slice (some ⟨h1.next,0,none⟩) (n + s.length) openCap) E38 rfl rfl gB (show 0 + 1 < 2 by omega)
    simp only [Tryz.f28,cF,Option.getD,cA,cB,cI,codeS,cSeq_run,cCond_run,cRegion_run,cRegion_draw,cBlock_run,cSkip_run,cRet_run,cExit_run,opsS_nil,opsS_run,opS_free,thenS_normal,thenS_ret,thenS_exit,exitBlock_normal,exitBlock_ret,exitBlock_exit,normalS_ok,dispatch,dMove,opMove,evT_tmp,evT_int,evT_bool,dBin,lss_i64,gtr_i64,add_i64,valR,afterS_value,putT_some,putT_none,get_put,lim,Nat.reduceLT,Nat.reduceEqDiff,and_true,if_true,if_false,reduceIte,false_and,true_and,cLoop_run,Nat.beq,cond_true,
      dIndexAddr,dFieldAddr,dNilCheck,dLoad,nilCheck_ptr,Option.bind_some,natOf_int,addrAdd_free,drawS_nil',drawS_cons',dstep_pure',dstep_reads',dstep_eff',readAgain_nil,readAgain_cons,valEq_int,callOut_enter,simOp_run,outVal_val,List.getElem?_toArray,List.getElem?_cons_succ,List.getElem?_cons_zero,List.drop_succ_cons,List.drop_zero,dPick,pick_true,pick_false,opS_guard,wantedS,Option.bind_some,dIndex,dBuild,dBuildSlice,dCall,evParts,evList,dSlice,bqa,bqb,bqc,bqd,evT_nil,afterS_enter,call_fn en65,opCall_app,opCall_len,opBuiltin,len9,hcc,fa84x,dStore,t0,t1,l1,ap,st] at hr
    subst hr
    refine ⟨_,_,rfl,⟨_,_,by simp [get_put,lim]; rfl,by simp [get_put,lim]; rfl⟩,?_,?_,fun x hx hxB hxR => ?_⟩
    · refine .full (R := h.next) (n := n + s.length) (tb := tb2.put (0 + 1) (some (.slice (some ⟨h1.next,0,none⟩) (n + s.length) openCap))) (ct := c') ?_ ?_ ?_ (by omega) ?_ (by rw [List.length_append]; omega) ?_ fun k hk => ?_
      · simp only [SHeap.set,get_put]; rw [if_pos ⟨trivial,hBl⟩]
      · rw [get_put,if_neg (by omega)]; exact g2
      · rw [get_put,if_pos ⟨rfl,by decide⟩,hnx]
      · simp only [SHeap.set,SHeap.new]; omega
      · simp only [SHeap.set,SHeap.new,get_put]
        rw [if_neg (by omega),hnx,if_pos ⟨rfl,by omega⟩]
      · rw [k2,bytesV_len]
        by_cases hk2 : n ≤ k
        · rw [if_pos ⟨hk2,hk⟩,show bytesV (l ++ s) = bytesV l ++ bytesV s from List.map_append ..,List.getElem?_append_right (by rw [bytesV_len]; omega),bytesV_len,g6]
        · rw [if_neg (by omega),g8 k (by omega),show bytesV (l ++ s) = bytesV l ++ bytesV s from List.map_append ..,List.getElem?_append_left (by rw [bytesV_len]; omega)]
    · simp only [SHeap.set,SHeap.new]; omega
    · simp only [SHeap.set,SHeap.new,get_put]
      rw [if_neg (fun e => hxB e.1),if_neg (by omega),if_neg (fun e => hxR (by rw [e.1])),hkeep x hxB]

theorem body28 : Tryz.f28.body = some (cF Tryz.f28) := rfl
theorem fn28 : (Eo O).F 28 = some Tryz.f28 := by show Tab.funcs.get 28 = _; kernel_rfl
theorem nt28 {a b : Value} : max Tryz.f28.ntmps (#[a,b] : Array Value).size = 19 := rfl
theorem res28 : Tryz.f28.results.toList = [.tmp 4,.tmp 5] := rfl
theorem en28 : EntersS (Eo O) 28 := fun _ _ => by kernel_rfl

/-- WRITESTRING -/
theorem ws_run {k : Nat} (o65 : O 65 = none) (o28 : O 28 = none) {h : SHeap} {B : Nat} {R : Option Nat} {l s : List UInt8} (hb : BS h B R l) (hB : B < h.next) (hl : h.next + 10 ≤ lim) (hs : 0 < s.length) (hsl : s.length ≤ 1000000) (hll : l.length + s.length ≤ 4000000000) :
    ∃ v h',run (Eo O) (k + 2) (.call 28 #[.pointer (some ⟨B,0,none⟩),.string ⟨s.toArray⟩] .normal) h = .ok (v,h') ∧ Wrote h h' B R (l ++ s) := by
  obtain ⟨h1,c1,c2,c3,c4,tb,c5,c6⟩ := cc_run (k := k) o65 hb (by omega)
  obtain ⟨tm',h',k1,⟨a,b,k2,k3⟩,k4⟩ := ws_code (O := O) (ih := run (Eo O) (k + 1)) c1 c2 c3 c4 c5 c6 hB hl hs hsl hll (tm := Tr.ofL 33 [.pointer (some ⟨B,0,none⟩),.string ⟨s.toArray⟩]) rfl rfl
  exact ⟨_,h',(run_call (show (Eo O).O 28 = none from o28)).trans (enterS_ret (vs := [a,b]) fn28 body28 nt28 rfl res28 k1 (by simp only [resultsS,k2,k3,need])),k4⟩

theorem plain38 : plainArg (Eo O) [38] = true := by kernel_rfl
theorem bs38 {h : SHeap} : opBuildSlice (Eo O) ((Eo O).T 38) 1 (some [(0,.int .u8 10)]) h = .ok (.value (.slice (some ⟨h.next,0,none⟩) 1 1),newCells h 5 (bytesV [10]) false) := by kernel_rfl
theorem list10 : (Tr.ofL 33 (bytesV [10])).toListFrom 0 1 = some (bytesV [10]) := by kernel_rfl
theorem apB_open {c : Call} (hc : c.argTypes.toList = [38,38]) {b R n : Nat} {ct : Tr Value} (hn : n ≤ 1000000000000) {h : SHeap} (hb : h.t.get b = some (.cells (Tr.ofL 33 (bytesV [10])) 1 5 false false)) (hr : h.t.get R = some (.cells ct n 5 true false)) :
    appendS (Eo O) c [.slice (some ⟨R,0,none⟩) n openCap,.slice (some ⟨b,0,none⟩) 1 1] h = .ok (.slice (some ⟨h.next,0,none⟩) (n + 1) openCap,(h.set R none).new (.cells (ct.put n (some (.int .u8 10))) (n + 1) 5 true false)) := by
  unfold appendS
  simp only [hc,plain38,cond_true,E38,E5z,lenV,firstC,hb,Nat.one_mul,list10,need]
  unfold appendTo
  have h2 : Nat.ble ((n + 1) * (1 + 1)) 70368744177664 = true := by rw [Nat.ble_eq]; omega
  rw [h2,show (Nat.beq (bytesV [10]).length 1 && true) = true from rfl,cond_true,show Nat.beq openCap openCap = true from rfl,cond_true]
  unfold appendOpen
  simp only [hr,Nat.mul_one]
  have h3 : Nat.beq n n = true := Nat.beq_refl _
  rw [h3,show (Nat.beq 0 0 && Nat.beq 5 5 && true) = true from rfl,cond_true]
  have h4 : storeList ct (n + (bytesV [10]).length) n (bytesV [10]) = some (ct.put n (some (.int .u8 10))) := by
    show storeList ct (n + 1) n [.int .u8 10] = _
    simp only [storeList,force_eq,forceN_eq]
    rw [blt_of (by omega),cond_true]
  rw [h4]
  rfl

/-- what a byte's write leaves -/
structure Wrote1 (h h' : SHeap) (B R : Nat) (l : List UInt8) : Prop where
  bs : BS h' B (some (h.next + 1)) l
  next : h'.next = h.next + 2
  keep : ∀ x,x < h.next → x ≠ B → R ≠ x → h'.t.get x = h.t.get x

theorem wb_code {h h1 : SHeap} {B R : Nat} {l : List UInt8} {tb : Tr Value} (hcc : ih (.call 65 #[.pointer (some ⟨B,0,none⟩)] .normal) h = .ok (.tuple #[],h1)) (hnx : h1.next = h.next) (hkeep : ∀ x,x ≠ B → h1.t.get x = h.t.get x) (hb : BS h1 B (some R) l)
    (hB : B < h.next) (hl : h.next + 10 ≤ lim) (hll : l.length ≤ 4000000000)
    {tm : Tr Value} (t0 : tm.get 0 = some (.pointer (some ⟨B,0,none⟩))) (t1 : tm.get 1 = some (.int .u8 10)) :
    ∃ tm' h',codeS (cF Tryz.f29) (Eo O) ih ⟨29,17,.normal,none⟩ ⟨tm,h,[]⟩ = .ok (.ret,⟨tm',h',[]⟩) ∧ (∃ a,tm'.get 4 = some a) ∧ Wrote1 h h' B R (l ++ [10]) := by
  have hBl : B < lim := by omega
  generalize hr : codeS (cF Tryz.f29) (Eo O) ih ⟨29,17,.normal,none⟩ ⟨tm,h,[]⟩ = r
  cases hb with
  | full g1 g2 g3 g4 g5 g6 g7 g8 =>
    rename_i tb2 ct n
    have hR : (newCells h1 5 (bytesV [10]) false).t.get R = some (.cells ct n 5 true false) := by rw [new_low (by omega)]; exact g7
    have hS := box_get (t := 5) (l := bytesV [10]) (o := false) (h := h1) (by omega)
    have ap : ∀ (cal : Callee) (a : Array Operand),appendS (Eo O) ⟨cal,a,#[38,38]⟩ [.slice (some ⟨R,0,none⟩) n openCap,.slice (some ⟨h1.next,0,none⟩) 1 1] (newCells h1 5 (bytesV [10]) false) = _ := fun _ _ => apB_open rfl (by omega) hS hR
    have l1 := load_one (E := Eo O) (h := h1) E38 rfl g1 (show tb2.get (0 + 1) = _ from g3)
    have hn1 : (newCells h1 5 (bytesV [10]) false).next = h1.next + 1 := rfl
    have gB : (((newCells h1 5 (bytesV [10]) false).set R none).new (.cells (ct.put n (some (.int .u8 10))) (n + 1) 5 true false)).t.get B = some (.cells tb2 2 84 false false) := by
      simp only [SHeap.new,SHeap.set,get_put,hn1]
      rw [if_neg (by omega),if_neg (fun e => g4 e.1.symm),new_low (by omega)]; exact g1
    have st := store_val (E := Eo O) (t := 38) (v := .slice (some ⟨h1.next + 1,0,none⟩) (n + 1) openCap) E38 rfl rfl gB (show 0 + 1 < 2 by omega)
    simp only [Tryz.f29,cF,Option.getD,cA,cB,cI,codeS,cSeq_run,cCond_run,cRegion_run,cRegion_draw,cBlock_run,cSkip_run,cRet_run,cExit_run,opsS_nil,opsS_run,opS_free,thenS_normal,thenS_ret,thenS_exit,exitBlock_normal,exitBlock_ret,exitBlock_exit,normalS_ok,dispatch,dMove,opMove,evT_tmp,evT_int,evT_bool,dBin,lss_i64,gtr_i64,add_i64,valR,afterS_value,putT_some,putT_none,get_put,lim,Nat.reduceLT,Nat.reduceEqDiff,and_true,if_true,if_false,reduceIte,false_and,true_and,cLoop_run,Nat.beq,cond_true,
      dIndexAddr,dFieldAddr,dNilCheck,dLoad,nilCheck_ptr,Option.bind_some,natOf_int,addrAdd_free,drawS_nil',drawS_cons',dstep_pure',dstep_reads',dstep_eff',readAgain_nil,readAgain_cons,valEq_int,callOut_enter,simOp_run,outVal_val,List.getElem?_toArray,List.getElem?_cons_succ,List.getElem?_cons_zero,List.drop_succ_cons,List.drop_zero,dPick,pick_true,pick_false,opS_guard,wantedS,Option.bind_some,dIndex,dBuild,dBuildSlice,dCall,evParts,evList,dSlice,bqa,bqb,bqc,bqd,evT_nil,afterS_enter,call_fn en65,opCall_app,opBuiltin,hcc,fa84x,dStore,bs38,hn1,t0,t1,l1,ap,st] at hr
    subst hr
    refine ⟨_,_,rfl,⟨_,by simp [get_put,lim]; rfl⟩,?_,?_,fun x hx hxB hxR => ?_⟩
    · refine .full (R := h.next + 1) (n := n + 1) (tb := tb2.put (0 + 1) (some (.slice (some ⟨h1.next + 1,0,none⟩) (n + 1) openCap))) (ct := ct.put n (some (.int .u8 10))) ?_ ?_ ?_ (by omega) ?_ (by rw [List.length_append,g6]; rfl) ?_ fun k hk => ?_
      · simp only [SHeap.set,get_put]; rw [if_pos ⟨trivial,hBl⟩]
      · rw [get_put,if_neg (by omega)]; exact g2
      · rw [get_put,if_pos ⟨rfl,by decide⟩,hnx]
      · simp only [SHeap.set,SHeap.new,hn1]; omega
      · simp only [SHeap.set,SHeap.new,get_put,hn1]
        rw [if_neg (by omega),hnx,if_pos ⟨rfl,by omega⟩]
      · rw [get_put]
        by_cases hk2 : k = n
        · subst hk2
          rw [if_pos ⟨rfl,by unfold lim; omega⟩,show bytesV (l ++ [10]) = bytesV l ++ bytesV [10] from List.map_append ..,List.getElem?_append_right (by rw [bytesV_len]; omega),bytesV_len,g6,Nat.sub_self]; rfl
        · rw [if_neg (fun e => hk2 e.1),g8 k (by omega),show bytesV (l ++ [10]) = bytesV l ++ bytesV [10] from List.map_append ..,List.getElem?_append_left (by rw [bytesV_len]; omega)]
    · simp only [SHeap.set,SHeap.new,hn1]; omega
    · simp only [SHeap.set,SHeap.new,get_put,hn1]
      rw [if_neg (fun e => hxB e.1),if_neg (by omega),if_neg (fun e => hxR e.1.symm),new_low (by omega),hkeep x hxB]

theorem body29 : Tryz.f29.body = some (cF Tryz.f29) := rfl
theorem fn29 : (Eo O).F 29 = some Tryz.f29 := by show Tab.funcs.get 29 = _; kernel_rfl
theorem nt29 {a b : Value} : max Tryz.f29.ntmps (#[a,b] : Array Value).size = 17 := rfl
theorem res29 : Tryz.f29.results.toList = [.tmp 4] := rfl
theorem en29 : EntersS (Eo O) 29 := fun _ _ => by kernel_rfl

/-- WRITEBYTE of a line's end -/
theorem wb_run {k : Nat} (o65 : O 65 = none) (o29 : O 29 = none) {h : SHeap} {B R : Nat} {l : List UInt8} (hb : BS h B (some R) l) (hB : B < h.next) (hl : h.next + 10 ≤ lim) (hll : l.length ≤ 4000000000) :
    ∃ v h',run (Eo O) (k + 2) (.call 29 #[.pointer (some ⟨B,0,none⟩),.int .u8 10] .normal) h = .ok (v,h') ∧ Wrote1 h h' B R (l ++ [10]) := by
  obtain ⟨h1,c1,c2,c3,c4,tb,c5,c6⟩ := cc_run (k := k) o65 hb (by omega)
  obtain ⟨tm',h',k1,⟨a,k2⟩,k4⟩ := wb_code (O := O) (ih := run (Eo O) (k + 1)) (tb := tb) c1 c2 c3 c4 hB hl hll (tm := Tr.ofL 33 [.pointer (some ⟨B,0,none⟩),.int .u8 10]) rfl rfl
  exact ⟨_,h',(run_call (show (Eo O).O 29 = none from o29)).trans (enterS_ret (vs := [a]) fn29 body29 nt29 rfl res29 k1 (by simp only [resultsS,k2,need])),k4⟩
end Go.Proofs.YtaclddcneogolaaGreatDoor

set_option linter.unusedSimpArgs false
set_option linter.unusedVariables false
namespace Go.Proofs.YtaclddcneogolaaGreatDoor
open Go Go.Sim
set_option maxRecDepth 100000
variable {O : Nat → Option (List Value → SHeap → Except String (Value × SHeap))} {ih : K}

theorem pl30 : planOf (Eo O) (nthD (drawsOf (cF Tryz.f30)) 0).toList = some ⟨[⟨0,.pure,0⟩,⟨1,.pure,0⟩,⟨2,.pure,0⟩,⟨3,.read,0⟩,⟨4,.eff,0⟩,⟨5,.pure,0⟩,⟨6,.pure,0⟩,⟨7,.pure,0⟩,⟨8,.read,0⟩,⟨9,.read,0⟩],10,0⟩ := by kernel_rfl
theorem opCall_sd {E : Env} {ev : Ev} {o : Oper} {a : Array Operand} {ats : Array TypeId} {h : SHeap} : opCall E ev o ⟨.builtin .unsafeSliceData,a,ats⟩ h = opBuiltin E ev o ⟨.builtin .unsafeSliceData,a,ats⟩ .unsafeSliceData (evList ev a.toList) h := (id rfl)
theorem opCall_us {E : Env} {ev : Ev} {o : Oper} {a : Array Operand} {ats : Array TypeId} {h : SHeap} : opCall E ev o ⟨.builtin .unsafeString,a,ats⟩ h = opBuiltin E ev o ⟨.builtin .unsafeString,a,ats⟩ .unsafeString (evList ev a.toList) h := (id rfl)
theorem sd_law {ev : Ev} {o : Oper} {c : Call} {a : Addr} {n : Nat} {h : SHeap} (hn : 0 < n) : opBuiltin (Eo O) ev o c .unsafeSliceData (some [.slice (some a) n openCap]) h = .ok (.value (.pointer (some a)),h) := by
  simp only [opBuiltin]
  rw [if_neg (by omega),if_neg (by intro e; exact absurd e.1 (Nat.lt_irrefl _))]
  rfl
theorem E146 : (Eo O).T 146 = some ⟨.pointer 5,1,Tab.t146.bytes,Tab.t146.zero⟩ := by show Tab.types.get 146 = _; kernel_rfl
theorem us_law {ev : Ev} {o : Oper} {cl : Callee} {ars : Array Operand} {b n m : Nat} {ct : Tr Value} {l : List UInt8} {q : Bool} {h : SHeap} (hn : 0 < n) (hb : h.t.get b = some (.cells ct n 5 q false)) (hl : l.length = n) (hc : ∀ k,k < n → ct.get k = (bytesV l)[k]?) :
    opBuiltin (Eo O) ev o ⟨cl,ars,#[146,3]⟩ .unsafeString (some [.pointer (some ⟨b,0,none⟩),.int .i64 (.ofNat n)]) h = .ok (.value (.string ⟨l.toArray⟩),h.set b (some (.cells ct n 5 q true))) := by
  have h1 : ct.toListFrom 0 n = some (bytesV l) := by
    have := toListFrom_of (t := ct) (l := bytesV l) (i := 0) (fun k hk => by rw [Nat.zero_add]; exact hc k (by rw [bytesV_len] at hk; omega))
    rw [bytesV_len,hl] at this
    exact this
  have hx : (#[146,3] : Array TypeId)[0]?.bind (Eo O).T = (Eo O).T 146 := rfl
  show opUnsafeString (Eo O) ((#[146,3] : Array TypeId)[0]?.bind (Eo O).T) ⟨b,0,none⟩ n h = _
  rw [hx]
  unfold opUnsafeString
  simp only [E146,hb]
  rw [if_neg (by omega),if_neg (by rw [show (Eo O).bytesLie 5 5 = true from rfl]; decide),if_neg (by omega),h1]
  simp only [bytesOf_bytesV]
theorem valEq_slc {b n c : Nat} : valEq 200 (.slice (some ⟨b,0,none⟩) n c) (.slice (some ⟨b,0,none⟩) n c) = true := by simp [valEq]
theorem valEq_slc0 : valEq 200 (.slice none 0 0) (.slice none 0 0) = true := by simp [valEq]
theorem len38 {ev : Ev} {op : Oper} {a : Option Addr} {n c : Nat} {h : SHeap} : opLen (Eo O) ev op ((Eo O).T 38) (.slice a n c) h = .ok (.value (.int .i64 (.ofNat n)),h) := by
  rw [E38]; rfl

theorem bi_len {ev : Ev} {o : Oper} {ar : Array Operand} {x : Value} {h : SHeap} : opBuiltin (Eo O) ev o ⟨.builtin .len,ar,#[38]⟩ .len (some [x]) h = opLen (Eo O) ev o ((Eo O).T 38) x h := (id rfl)
theorem callOut_value {v : Value} {h : SHeap} : callOut ih (.value v,h) = .ok (v,h) := (id rfl)
theorem st_code {h : SHeap} {B R : Nat} {l : List UInt8} (hb : BS h B (some R) l) (hp : 0 < l.length) {tm : Tr Value} (t0 : tm.get 0 = some (.pointer (some ⟨B,0,none⟩))) (hl : h.next + 10 ≤ lim) :
    ∃ tm' h',codeS (cF Tryz.f30) (Eo O) ih ⟨30,14,.normal,none⟩ ⟨tm,h,[]⟩ = .ok (.ret,⟨tm',h',[]⟩) ∧ tm'.get 2 = some (.string ⟨l.toArray⟩) ∧ h'.next = h.next ∧ ∀ x,x ≠ R → h'.t.get x = h.t.get x := by
  obtain ⟨G,nx⟩ := h
  replace hl : nx + 10 ≤ lim := hl
  have hgl : (⟨G,nx⟩ : SHeap).next ≤ lim := by show nx ≤ lim; omega
  have hp30 := pl30 (O := O)
  simp only [Tryz.f30,cF,Option.getD,cA,cB,cI,drawsOf,nthD,List.append_nil,List.nil_append,List.cons_append] at hp30
  generalize hr : codeS (cF Tryz.f30) (Eo O) ih ⟨30,14,.normal,none⟩ ⟨tm,⟨G,nx⟩,[]⟩ = r
  cases hb with
  | full g1 g2 g3 g4 g5 g6 g7 g8 =>
    rename_i tb ct n
    have l1 := fun (k : Nat) => load_one (E := Eo O) (h := ⟨G,k⟩) E38 rfl g1 (show tb.get (0 + 1) = _ from g3)
    have hn : 0 < n := by omega
    have sd := fun (ev : Ev) (o : Oper) (c : Call) (h : SHeap) => sd_law (O := O) (ev := ev) (o := o) (c := c) (a := ⟨R,0,none⟩) (h := h) hn
    have us := fun (ev : Ev) (o : Oper) (cl : Callee) (ars : Array Operand) (k : Nat) => us_law (O := O) (ev := ev) (o := o) (cl := cl) (ars := ars) (h := ⟨G,k⟩) (m := 0) hn g7 g6 g8
    have bl : Nat.ble (nx + 0) 4294967296 = true := by rw [Nat.ble_eq]; unfold lim at hl; omega
    have bl' : Nat.ble nx 4294967296 = true := by rw [Nat.ble_eq]; unfold lim at hl; omega
    simp only [Tryz.f30,cF,Option.getD,cA,cB,cI,codeS,cSeq_run,cCond_run,cRegion_run,cRegion_draw,cBlock_run,cSkip_run,cRet_run,cExit_run,opsS_nil,opsS_run,opS_free,thenS_normal,thenS_ret,thenS_exit,exitBlock_normal,exitBlock_ret,exitBlock_exit,normalS_ok,dispatch,dMove,opMove,evT_tmp,evT_int,evT_bool,evT_str,dBin,valR,afterS_value,putT_some,putT_none,get_put,lim,Nat.reduceLT,Nat.reduceEqDiff,and_true,if_true,if_false,reduceIte,false_and,true_and,cLoop_run,Nat.beq,cond_true,
      dIndexAddr,dFieldAddr,dNilCheck,dLoad,nilCheck_ptr,Option.bind_some,natOf_int,addrAdd_free,drawS_nil',drawS_cons',dstep_pure',dstep_reads',dstep_eff',readAgain_nil,readAgain_cons,valEq_int,valEq_slc,callOut_enter,simOp_run,outVal_val,List.getElem?_toArray,List.getElem?_cons_succ,List.getElem?_cons_zero,List.drop_succ_cons,List.drop_zero,opS_guard,wantedS,Option.bind_some,dCall,evParts,evList,opCall_len,opCall_sd,opCall_us,bi_len,len38,fa84x,t0,l1,sd,us,bDraw_list hp30 hgl,bl,bl',callOut_value,Bool.and_self] at hr
    subst hr
    refine ⟨_,_,rfl,by simp [get_put,lim],rfl,fun x hx => ?_⟩
    simp only [SHeap.set,get_put]
    rw [if_neg (fun e => hx e.1)]

theorem body30 : Tryz.f30.body = some (cF Tryz.f30) := rfl
theorem fn30 : (Eo O).F 30 = some Tryz.f30 := by show Tab.funcs.get 30 = _; kernel_rfl
theorem nt30 {a : Value} : max Tryz.f30.ntmps (#[a] : Array Value).size = 14 := rfl
theorem res30 : Tryz.f30.results.toList = [.tmp 2] := rfl
theorem en30 : EntersS (Eo O) 30 := fun _ _ => by kernel_rfl

/-- STRING of a builder that is not empty -/
theorem st_run {k : Nat} (o30 : O 30 = none) {h : SHeap} {B R : Nat} {l : List UInt8} (hb : BS h B (some R) l) (hp : 0 < l.length) (hl : h.next + 10 ≤ lim) :
    ∃ h',run (Eo O) (k + 1) (.call 30 #[.pointer (some ⟨B,0,none⟩)] .normal) h = .ok (.string ⟨l.toArray⟩,h') ∧ h'.next = h.next ∧ ∀ x,x ≠ R → h'.t.get x = h.t.get x := by
  obtain ⟨tm',h',k1,k2,k3,k4⟩ := st_code (O := O) (ih := run (Eo O) k) hb hp (tm := Tr.ofL 33 [.pointer (some ⟨B,0,none⟩)]) rfl hl
  exact ⟨h',(run_call (show (Eo O).O 30 = none from o30)).trans (enterS_ret (vs := [_]) fn30 body30 nt30 rfl res30 k1 (by simp only [resultsS,k2,need])),k3,k4⟩
end Go.Proofs.YtaclddcneogolaaGreatDoor

set_option linter.unusedSimpArgs false
set_option linter.unusedVariables false
namespace Go.Sim
open Go
def rangeOf : Code → Option (Code × Code)
  | .seq a b => match rangeOf a with | some x => some x | none => rangeOf b
  | .cond _ a b => match rangeOf a with | some x => some x | none => rangeOf b
  | .block _ b => rangeOf b
  | .loop b => rangeOf b
  | .scope b => rangeOf b
  | .rangeFunc _ _ a b => some (a,b)
  | _ => none
end Go.Sim
namespace Go.Proofs.YtaclddcneogolaaGreatDoor
open Go Go.Sim
set_option maxRecDepth 100000
variable {O : Nat → Option (List Value → SHeap → Except String (Value × SHeap))} {ih : K}

noncomputable def rdA : Code := ((rangeOf (cF Tryz.f16)).getD (.skip,.skip)).1
noncomputable def rdB : Code := ((rangeOf (cF Tryz.f16)).getD (.skip,.skip)).2
/-- the loop's record -/
noncomputable def lp (tm : Tr Value) (D : Nat) (s : LoopState) : SLoop := ⟨s,none,16,tm,11,#[6],rdA,rdB,D⟩

theorem BS.keep {h h' : SHeap} {B : Nat} {R : Option Nat} {l : List UInt8} (hb : BS h B R l) (hn : h.next ≤ h'.next) (hk : ∀ x,x = B ∨ R = some x → h'.t.get x = h.t.get x) : BS h' B R l := by
  cases hb with
  | fresh a b c => exact .fresh (by rw [hk _ (.inl rfl)]; exact a) b c
  | empty a b c => exact .empty (by rw [hk _ (.inl rfl)]; exact a) b c
  | full a b c d e f g i => exact .full (by rw [hk _ (.inl rfl)]; exact a) b c d (by omega) f (by rw [hk _ (.inr rfl)]; exact g) i

theorem BS.row {h : SHeap} {B r : Nat} {R : Option Nat} {l : List UInt8} (hb : BS h B R l) (hr : R = some r) : r < h.next ∧ r ≠ B ∧ ∃ ct n,h.t.get r = some (.cells ct n 5 true false) := by
  cases hb with
  | fresh a b c => cases hr
  | empty a b c => cases hr
  | full a b c d e f g i => cases hr; exact ⟨e,d,_,_,g⟩

theorem rd_code {h h2 h3 : SHeap} {B L : Nat} {s : List UInt8} {v w : Value} {tm : Tr Value} (t3 : tm.get 3 = some (.pointer (some ⟨B,0,none⟩)))
    (hws : ih (.call 28 #[.pointer (some ⟨B,0,none⟩),.string ⟨s.toArray⟩] .normal) h = .ok (v,h2)) (hwb : ih (.call 29 #[.pointer (some ⟨B,0,none⟩),.int .u8 10] .normal) h2 = .ok (w,h3))
    (t4 : tm.get 4 = some (.string ⟨s.toArray⟩)) :
    ∃ tm',codeS rdB (Eo O) ih ⟨16,11,.normal,some L⟩ ⟨tm,h,[]⟩ = .ok (.normal,⟨tm',h3,[]⟩) := by
  generalize hr : codeS rdB (Eo O) ih ⟨16,11,.normal,some L⟩ ⟨tm,h,[]⟩ = r
  unfold rdB at hr
  simp only [Tryz.f16,cF,rangeOf,Option.getD,cA,cB,cI,codeS,cSeq_run,cCond_run,cRegion_run,cRegion_draw,cBlock_run,cSkip_run,cRet_run,cExit_run,opsS_nil,opsS_run,opS_free,thenS_normal,thenS_ret,thenS_exit,exitBlock_normal,exitBlock_ret,exitBlock_exit,normalS_ok,dispatch,dMove,opMove,evT_tmp,evT_int,evT_bool,evT_str,dBin,valR,afterS_value,putT_some,putT_none,get_put,lim,Nat.reduceLT,Nat.reduceEqDiff,and_true,if_true,if_false,reduceIte,false_and,true_and,Nat.beq,cond_true,
      dCall,evList,List.getElem?_toArray,List.getElem?_cons_succ,List.getElem?_cons_zero,afterS_enter,call_fn en28,call_fn en29,t3,t4,hws,hwb] at hr
  subst hr
  exact ⟨_,rfl⟩

theorem rd_assign {h : SHeap} {L : Nat} {v : Value} {tm : Tr Value} (hv : tm.get 6 = some v) :
    codeS rdA (Eo O) ih ⟨16,11,.normal,some L⟩ ⟨tm,h,[]⟩ = .ok (.normal,⟨tm.put 4 (some v),h,[]⟩) := by
  generalize hr : codeS rdA (Eo O) ih ⟨16,11,.normal,some L⟩ ⟨tm,h,[]⟩ = r
  unfold rdA at hr
  simp only [Tryz.f16,cF,rangeOf,Option.getD,cA,cB,cI,codeS,cRegion_run,opsS_nil,opsS_run,opS_free,normalS_ok,dispatch,dMove,opMove,evT_tmp,valR,afterS_value,putT_some,get_put,lim,Nat.reduceLT,hv] at hr
  exact hr.symm

theorem setTmps_one {tm : Tr Value} {v : Value} : setTmps tm 11 [(6,v)] = some (tm.put 6 (some v)) := by
  simp only [setTmps,show Nat.blt 6 11 = true from rfl,cond_true,force_eq]

/-- A ROUND of text's loop -/
theorem rd_run {k : Nat} (o65 : O 65 = none) (o28 : O 28 = none) (o29 : O 29 = none) {h : SHeap} {B L D : Nat} {R : Option Nat} {l s : List UInt8} {tm : Tr Value} (t3 : tm.get 3 = some (.pointer (some ⟨B,0,none⟩)))
    (hL : h.t.get L = some (.loop (lp tm D .ready))) (hLn : L < h.next) (hb : BS h B R l) (hB : B < h.next) (hl : h.next + 20 ≤ lim) (hs : 0 < s.length) (hsl : s.length ≤ 1000000) (hll : l.length + s.length ≤ 3900000000) :
    ∃ h',run (Eo O) (k + 3) (.round L (lp tm D .ready) #[.string ⟨s.toArray⟩]) h = .ok (.bool true,h') ∧ BS h' B (some (h.next + 2)) (l ++ s ++ [10]) ∧ h'.next = h.next + 3 ∧ h'.t.get L = some (.loop (lp tm D .ready)) ∧ ∀ x,x < h.next → x ≠ B → x ≠ L → R ≠ some x → h'.t.get x = h.t.get x := by
  have hLB : L ≠ B := by
    rintro rfl
    cases hb with
    | fresh a => rw [hL] at a; simp at a
    | empty a => rw [hL] at a; simp at a
    | full a => rw [hL] at a; simp at a
  have hLR : R ≠ some L := by
    intro e
    obtain ⟨_,_,ct,n,h2⟩ := hb.row e
    rw [hL] at h2; simp at h2
  obtain ⟨h1,e1⟩ : ∃ h1,h1 = h.set L (some (.loop (lp tm D .busy))) := ⟨_,rfl⟩
  have hbeg : beginS L h = .ok h1 := by
    unfold beginS
    rw [hL,e1]
    rfl
  have n1 : h1.next = h.next := by rw [e1]; rfl
  have g1 : ∀ x,x ≠ L → h1.t.get x = h.t.get x := fun x hx => by
    rw [e1]; simp only [SHeap.set,get_put]; rw [if_neg (fun e => hx e.1)]
  have g1L : h1.t.get L = some (.loop (lp tm D .busy)) := by
    rw [e1]; simp only [SHeap.set,get_put]; rw [if_pos ⟨trivial,by omega⟩]
  have hb1 : BS h1 B R l := hb.keep (by omega) fun x hx => by
    refine g1 x fun e => ?_
    subst e
    rcases hx with hx | hx
    · exact hLB hx
    · exact hLR hx
  obtain ⟨v,h2,c1,c2⟩ := ws_run (k := k) o65 o28 hb1 (by omega) (by omega) hs hsl (by omega)
  obtain ⟨w,h3,d1,d2⟩ := wb_run (k := k) o65 o29 c2.bs (by rw [c2.next]; omega) (by rw [c2.next]; omega) (by rw [List.length_append]; omega)
  obtain ⟨tm',hcode⟩ := rd_code (O := O) (ih := run (Eo O) (k + 2)) (L := L) (tm := (tm.put 6 (some (.string ⟨s.toArray⟩))).put 4 (some (.string ⟨s.toArray⟩))) (by rw [get_put,if_neg (by simp),get_put,if_neg (by simp)]; exact t3) c1 d1 (by rw [get_put,if_pos ⟨rfl,by decide⟩])
  have g3L : h3.t.get L = some (.loop (lp tm D .busy)) := by
    rw [d2.keep L (by rw [c2.next]; omega) hLB (by omega),c2.keep L (by omega) hLB hLR,g1L]
  refine ⟨h3.set L (some (.loop (lp tm D .ready))),?_,?_,?_,?_,fun x hx hxB hxL hxR => ?_⟩
  · show roundS (Eo O) (run (Eo O) (k + 2)) L (lp tm D .ready) #[.string ⟨s.toArray⟩] h = _
    unfold roundS
    simp only [lp]
    rw [show (#[6] : Array Tmp).toList.zip (#[Value.string ⟨s.toArray⟩] : Array Value).toList = [(6,.string ⟨s.toArray⟩)] from rfl,setTmps_one]
    simp only
    rw [rd_assign (v := .string ⟨s.toArray⟩) (by rw [get_put,if_pos ⟨rfl,by decide⟩])]
    simp only [hbeg]
    rw [hcode]
    simp only [endRoundS,g3L,lp]
    rfl
  · have q : BS (h3.set L (some (.loop (lp tm D .ready)))) B (some (h2.next + 1)) (l ++ s ++ [10]) := by
      refine d2.bs.keep (Nat.le_refl _) (fun x hx => ?_)
      simp only [SHeap.set,get_put]
      rw [if_neg]
      rintro ⟨e,_⟩
      rcases hx with hx | hx
      · exact hLB (e ▸ hx)
      · have := Option.some.inj hx
        rw [c2.next] at this
        omega
    rw [c2.next,n1] at q
    exact q
  · simp only [SHeap.set]; rw [d2.next,c2.next]; omega
  · simp only [SHeap.set,get_put]; rw [if_pos ⟨trivial,by omega⟩]
  · simp only [SHeap.set,get_put]
    rw [if_neg (fun e => hxL e.1),d2.keep x (by rw [c2.next]; omega) hxB (by omega),c2.keep x (by omega) hxB hxR,g1 x hxL]
end Go.Proofs.YtaclddcneogolaaGreatDoor

set_option linter.unusedSimpArgs false
set_option linter.unusedVariables false
namespace Go.Proofs.YtaclddcneogolaaGreatDoor
open Go Go.Sim
set_option maxRecDepth 100000
variable {O : Nat → Option (List Value → SHeap → Except String (Value × SHeap))} {ih : K}

/-! ## String of a builder that nothing was written to -/
theorem sd_none {G : Nat} {tm : Tr Value} {dst : Option Tmp} {ty : TypeId} {pos : String} {after : Array Edge} {g : Option (Nat × Bool)} {h : SHeap} (t6 : tm.get 6 = some (.slice none 0 0)) :
    opBuiltin (Eo O) (evT G tm) ⟨dst,.call ⟨.builtin .unsafeSliceData,#[.tmp 6],#[38]⟩,ty,pos,after,g⟩ ⟨.builtin .unsafeSliceData,#[.tmp 6],#[38]⟩ .unsafeSliceData (some [.slice none 0 0]) h = .ok (.value (.pointer none),h) := by
  rw [opBuiltin_congr (e2 := fun _ => some (.slice none 0 0)) (pureOp_congr (fun _ _ e => by cases e) (fun x hx => by
    rw [show (Op.call ⟨.builtin .unsafeSliceData,#[.tmp 6],#[38]⟩).operands.toList = [.tmp 6] from rfl] at hx
    obtain rfl := List.mem_singleton.1 hx
    exact t6))]
  kernel_rfl
def ev712 : Ev := fun o => match o with | .tmp n => bif Nat.beq n 7 then some (.pointer none) else some (.int .i64 (.ofNat 0)) | _ => none
theorem us_none {G : Nat} {tm : Tr Value} {dst : Option Tmp} {ty : TypeId} {pos : String} {after : Array Edge} {g : Option (Nat × Bool)} {h : SHeap} (t7 : tm.get 7 = some (.pointer none)) (t12 : tm.get 12 = some (.int .i64 (.ofNat 0))) :
    opBuiltin (Eo O) (evT G tm) ⟨dst,.call ⟨.builtin .unsafeString,#[.tmp 7,.tmp 12],#[146,3]⟩,ty,pos,after,g⟩ ⟨.builtin .unsafeString,#[.tmp 7,.tmp 12],#[146,3]⟩ .unsafeString (some [.pointer none,.int .i64 (.ofNat 0)]) h = .ok (.value (.string ⟨#[]⟩),h) := by
  rw [opBuiltin_congr (e2 := ev712) (pureOp_congr (fun _ _ e => by cases e) (fun x hx => by
    rw [show (Op.call ⟨.builtin .unsafeString,#[.tmp 7,.tmp 12],#[146,3]⟩).operands.toList = [.tmp 7,.tmp 12] from rfl] at hx
    rcases List.mem_cons.1 hx with rfl | hx
    · exact t7
    · obtain rfl := List.mem_singleton.1 hx
      exact t12))]
  kernel_rfl

theorem sf_code {h : SHeap} {B : Nat} (hb : BS h B none []) {tm : Tr Value} (t0 : tm.get 0 = some (.pointer (some ⟨B,0,none⟩))) (hl : h.next + 10 ≤ lim) :
    ∃ tm',codeS (cF Tryz.f30) (Eo O) ih ⟨30,14,.normal,none⟩ ⟨tm,h,[]⟩ = .ok (.ret,⟨tm',h,[]⟩) ∧ tm'.get 2 = some (.string ⟨#[]⟩) := by
  obtain ⟨G,nx⟩ := h
  replace hl : nx + 10 ≤ lim := hl
  have hgl : (⟨G,nx⟩ : SHeap).next ≤ lim := by show nx ≤ lim; omega
  have hp30 := pl30 (O := O)
  simp only [Tryz.f30,cF,Option.getD,cA,cB,cI,drawsOf,nthD,List.append_nil,List.nil_append,List.cons_append] at hp30
  obtain ⟨tb,g1,g3⟩ : ∃ tb,G.get B = some (.cells tb 2 84 false false) ∧ tb.get 1 = some (.slice none 0 0) := by
    cases hb with
    | fresh a b c => exact ⟨_,a,c⟩
    | empty a b c => exact ⟨_,a,c⟩
  generalize hr : codeS (cF Tryz.f30) (Eo O) ih ⟨30,14,.normal,none⟩ ⟨tm,⟨G,nx⟩,[]⟩ = r
  have l1 := fun (k : Nat) => load_one (E := Eo O) (h := ⟨G,k⟩) E38 rfl g1 (show tb.get (0 + 1) = _ from g3)
  have bl : Nat.ble (nx + 0) 4294967296 = true := by rw [Nat.ble_eq]; unfold lim at hl; omega
  have bl' : Nat.ble nx 4294967296 = true := by rw [Nat.ble_eq]; unfold lim at hl; omega
  simp only [Tryz.f30,cF,Option.getD,cA,cB,cI,codeS,cSeq_run,cCond_run,cRegion_run,cRegion_draw,cBlock_run,cSkip_run,cRet_run,cExit_run,opsS_nil,opsS_run,opS_free,thenS_normal,thenS_ret,thenS_exit,exitBlock_normal,exitBlock_ret,exitBlock_exit,normalS_ok,dispatch,dMove,opMove,evT_tmp,evT_int,evT_bool,evT_str,dBin,valR,afterS_value,putT_some,putT_none,get_put,lim,Nat.reduceLT,Nat.reduceEqDiff,and_true,if_true,if_false,reduceIte,false_and,true_and,cLoop_run,Nat.beq,cond_true,
    dIndexAddr,dFieldAddr,dNilCheck,dLoad,nilCheck_ptr,Option.bind_some,natOf_int,addrAdd_free,drawS_nil',drawS_cons',dstep_pure',dstep_reads',dstep_eff',readAgain_nil,readAgain_cons,valEq_int,valEq_slc0,callOut_enter,simOp_run,outVal_val,List.getElem?_toArray,List.getElem?_cons_succ,List.getElem?_cons_zero,List.drop_succ_cons,List.drop_zero,opS_guard,wantedS,Option.bind_some,dCall,evParts,evList,opCall_len,opCall_sd,opCall_us,bi_len,len38,fa84x,t0,l1,sd_none,us_none,bDraw_list hp30 hgl,bl,bl',callOut_value,Bool.and_self] at hr
  subst hr
  exact ⟨_,rfl,by simp [get_put,lim]⟩

/-- STRING of any builder -/
theorem str_run {k : Nat} (o30 : O 30 = none) {h : SHeap} {B : Nat} {R : Option Nat} {l : List UInt8} (hb : BS h B R l) (hl : h.next + 10 ≤ lim) (hR : R = none ∨ 0 < l.length) :
    ∃ h',run (Eo O) (k + 1) (.call 30 #[.pointer (some ⟨B,0,none⟩)] .normal) h = .ok (.string ⟨l.toArray⟩,h') ∧ h'.next = h.next ∧ ∀ x,R ≠ some x → h'.t.get x = h.t.get x := by
  cases R with
  | some r =>
    obtain ⟨h',a,b,c⟩ := st_run (k := k) o30 hb (by rcases hR with e | e; cases e; exact e) hl
    exact ⟨h',a,b,fun x hx => c x fun e => hx (by rw [e])⟩
  | none =>
    obtain rfl : l = [] := by cases hb <;> rfl
    obtain ⟨tm',k1,k2⟩ := sf_code (O := O) (ih := run (Eo O) k) hb (tm := Tr.ofL 33 [.pointer (some ⟨B,0,none⟩)]) rfl hl
    exact ⟨h,(run_call (show (Eo O).O 30 = none from o30)).trans (enterS_ret (vs := [_]) fn30 body30 nt30 rfl res30 k1 (by simp only [resultsS,k2,need])),rfl,fun _ _ => rfl⟩

/-! ## what a loop's rounds leave -/
structure Said (h1 h2 : SHeap) (B L D : Nat) (tm : Tr Value) (l : List UInt8) : Prop where
  bs : ∃ R,BS h2 B R l ∧ (∀ r,R = some r → h1.next ≤ r) ∧ (R = none ∨ 0 < l.length)
  loop : h2.t.get L = some (.loop (lp tm D .ready))
  next : h1.next ≤ h2.next
  keep : ∀ x,x < h1.next → x ≠ B → x ≠ L → h2.t.get x = h1.t.get x

theorem Said.refl {h : SHeap} {B L D : Nat} {tm : Tr Value} (hb : BS h B none []) (hL : h.t.get L = some (.loop (lp tm D .ready))) : Said h h B L D tm [] :=
  ⟨⟨none,hb,(fun _ e => by cases e),.inl rfl⟩,hL,Nat.le_refl _,fun _ _ _ _ => rfl⟩

/-- a step that leaves all there was -/
theorem Said.grow {h1 h2 h3 : SHeap} {B L D : Nat} {tm : Tr Value} {l : List UInt8} (s : Said h1 h2 B L D tm l) (hB : B < h1.next) (hL : L < h1.next) (hn : h2.next ≤ h3.next) (hk : ∀ x,x < h2.next → h3.t.get x = h2.t.get x) : Said h1 h3 B L D tm l := by
  obtain ⟨⟨R,b1,b2,b3⟩,lo,nx,ke⟩ := s
  refine ⟨⟨R,b1.keep hn fun x hx => ?_,b2,b3⟩,?_,by omega,fun x hx hxB hxL => ?_⟩
  · rcases hx with rfl | hx
    · exact hk _ (by omega)
    · exact hk _ (b1.row hx).1
  · rw [hk _ (by omega),lo]
  · rw [hk _ (by omega),ke x hx hxB hxL]

/-- a round -/
theorem Said.round {k : Nat} (o65 : O 65 = none) (o28 : O 28 = none) (o29 : O 29 = none) {h1 h2 : SHeap} {B L D : Nat} {tm : Tr Value} {l s : List UInt8} (sd : Said h1 h2 B L D tm l) (hB : B < h1.next) (hL : L < h1.next) (t3 : tm.get 3 = some (.pointer (some ⟨B,0,none⟩)))
    (hl : h2.next + 20 ≤ lim) (hs : 0 < s.length) (hsl : s.length ≤ 1000000) (hll : l.length + s.length ≤ 3900000000) :
    ∃ h3,run (Eo O) (k + 3) (.round L (lp tm D .ready) #[.string ⟨s.toArray⟩]) h2 = .ok (.bool true,h3) ∧ h3.next = h2.next + 3 ∧ Said h1 h3 B L D tm (l ++ s ++ [10]) := by
  obtain ⟨⟨R,b1,b2,b3⟩,lo,nx,ke⟩ := sd
  obtain ⟨h3,r1,r2,r3,r4,r5⟩ := rd_run (k := k) o65 o28 o29 t3 lo (by omega) b1 (by omega) hl hs hsl hll
  refine ⟨h3,r1,r3,⟨⟨_,r2,(fun r e => by cases e; omega),.inr (by simp only [List.length_append,List.length_cons,List.length_nil]; omega)⟩,r4,by omega,fun x hx hxB hxL => ?_⟩⟩
  rw [r5 x (by omega) hxB hxL (fun e => by have := b2 x e; omega),ke x hx hxB hxL]

/-! ## the whole of text -/
theorem alloc84 {h : SHeap} : opAlloc ((Eo O).T 84) 84 h = .ok (.value (.pointer (some ⟨h.next,0,none⟩)),newCells h 84 [.pointer none,.slice none 0 0] false) := by kernel_rfl
theorem en31 : EntersS (Eo O) 31 := fun _ _ => by kernel_rfl
theorem cRange_run {E : Env} {ih : K} {fx : Fx} {f : Operand} {ps : Array Tmp} {a b : Code} {tm : Tr Value} {h : SHeap} {ds : List Deferred} : cRange f ps a b E ih fx ⟨tm,h,ds⟩ = bRange E ih fx f ps a b ⟨tm,h,ds⟩ := (id rfl)

/-- the heap at the loop's beginning -/
noncomputable def txH (h : SHeap) (tm : Tr Value) : SHeap := ((newCells h 84 [.pointer none,.slice none 0 0] false).new (.deferred (some []))).new (.loop (lp tm (h.next + 1) .ready))

theorem rg_run {C : Nat} {h h2 : SHeap} {tm : Tr Value} {l : List UInt8} {v : Value} (t5 : tm.get 5 = some (.func (.func 31) #[] #[.pointer (some ⟨C,0,none⟩)]))
    (hc : ih (.call 31 #[.func (.yield (h.next + 2)) #[] #[],.pointer (some ⟨C,0,none⟩)] .normal) (txH h tm) = .ok (v,h2)) (hL : h2.t.get (h.next + 2) = some (.loop (lp tm (h.next + 1) .ready))) :
    bRange (Eo O) ih ⟨16,11,.normal,none⟩ (.tmp 5) #[6] rdA rdB ⟨tm,newCells h 84 [.pointer none,.slice none 0 0] false,[]⟩ =
      .ok (.normal,⟨tm,h2.set (h.next + 2) (some (.loop (lp tm (h.next + 1) .exhausted))),[⟨.collected (h.next + 1),#[]⟩]⟩) := by
  have hcf : ∀ a g,callF (Eo O) 31 a g = .ok (.enter 31 a,g) := fun a g => en31 a g
  simp only [bRange,evT_tmp,t5,rangeGo,invokeS]
  rw [hcf]
  simp only
  rw [show (#[] ++ #[Value.func (.yield ((newCells h 84 [.pointer none,.slice none 0 0] false).new (.deferred (some []))).next) #[] #[]] ++ #[Value.pointer (some ⟨C,0,none⟩)]) = #[.func (.yield (h.next + 2)) #[] #[],.pointer (some ⟨C,0,none⟩)] from rfl]
  rw [show (((newCells h 84 [.pointer none,.slice none 0 0] false).new (.deferred (some []))).new (.loop ⟨.ready,none,16,tm,11,#[6],rdA,rdB,(newCells h 84 [.pointer none,.slice none 0 0] false).next⟩)) = txH h tm from rfl,hc]
  simp only [endLoopS]
  rw [show ((newCells h 84 [.pointer none,.slice none 0 0] false).new (.deferred (some []))).next = h.next + 2 from rfl,hL]
  simp only [lp,jumpOut,stOk,force_eq,forceN_eq,normalS_ok]
  rfl

/-- text's own temporaries at the loop -/
def txTm (tm : Tr Value) (h : SHeap) (f : Value) : Tr Value := ((tm.put 2 (some (.string ⟨#[]⟩))).put 3 (some (.pointer (some ⟨h.next,0,none⟩)))).put 5 (some f)

theorem tx_code {C : Nat} {h h2 h4 : SHeap} {tm : Tr Value} {l : List UInt8} {v : Value} (t0 : tm.get 0 = some (.func (.func 31) #[] #[.pointer (some ⟨C,0,none⟩)]))
    (hc : ih (.call 31 #[.func (.yield (h.next + 2)) #[] #[],.pointer (some ⟨C,0,none⟩)] .normal) (txH h (txTm tm h (.func (.func 31) #[] #[.pointer (some ⟨C,0,none⟩)]))) = .ok (v,h2))
    (hL : h2.t.get (h.next + 2) = some (.loop (lp (txTm tm h (.func (.func 31) #[] #[.pointer (some ⟨C,0,none⟩)])) (h.next + 1) .ready)))
    (hs : ih (.call 30 #[.pointer (some ⟨h.next,0,none⟩)] .normal) (h2.set (h.next + 2) (some (.loop (lp (txTm tm h (.func (.func 31) #[] #[.pointer (some ⟨C,0,none⟩)])) (h.next + 1) .exhausted)))) = .ok (.string ⟨l.toArray⟩,h4)) :
    ∃ tm',codeS (cF Tryz.f16) (Eo O) ih ⟨16,11,.normal,none⟩ ⟨tm,h,[]⟩ = .ok (.ret,⟨tm',h4,[⟨.collected (h.next + 1),#[]⟩]⟩) ∧ tm'.get 2 = some (.string ⟨l.toArray⟩) := by
  have rg := rg_run (O := O) (ih := ih) (C := C) (h := h) (h2 := h2) (l := l) (tm := txTm tm h (.func (.func 31) #[] #[.pointer (some ⟨C,0,none⟩)])) (by unfold txTm; simp [get_put,lim]) hc hL
  generalize h2.set (h.next + 2) (some (.loop (lp (txTm tm h (.func (.func 31) #[] #[.pointer (some ⟨C,0,none⟩)])) (h.next + 1) .exhausted))) = h3 at rg hs
  unfold rdA rdB txTm at rg
  simp only [Tryz.f16,cF,rangeOf,Option.getD] at rg
  generalize hr : codeS (cF Tryz.f16) (Eo O) ih ⟨16,11,.normal,none⟩ ⟨tm,h,[]⟩ = r
  simp only [Tryz.f16,cF,Option.getD,cA,cB,cI,codeS,cSeq_run,cCond_run,cRegion_run,cRegion_draw,cBlock_run,cSkip_run,cRet_run,cExit_run,opsS_nil,opsS_run,opS_free,thenS_normal,thenS_ret,thenS_exit,exitBlock_normal,exitBlock_ret,exitBlock_exit,normalS_ok,dispatch,dMove,opMove,evT_tmp,evT_int,evT_bool,evT_str,dBin,valR,afterS_value,putT_some,putT_none,get_put,lim,Nat.reduceLT,Nat.reduceEqDiff,and_true,if_true,if_false,reduceIte,false_and,true_and,Nat.beq,cond_true,
    dCall,evList,List.getElem?_toArray,List.getElem?_cons_succ,List.getElem?_cons_zero,afterS_enter,call_fn en30,dAlloc,alloc84,cRange_run,rg,t0,hs] at hr
  subst hr
  exact ⟨_,rfl,by simp [get_put,lim]⟩

theorem body16 : Tryz.f16.body = some (cF Tryz.f16) := rfl
theorem fn16 : (Eo O).F 16 = some Tryz.f16 := by show Tab.funcs.get 16 = _; kernel_rfl
theorem nt16 {a : Value} : max Tryz.f16.ntmps (#[a] : Array Value).size = 11 := rfl
theorem res16 : Tryz.f16.results.toList = [.tmp 2] := rfl
theorem en16 : EntersS (Eo O) 16 := fun _ _ => by kernel_rfl

/-- TEXT,given what the lines' function does -/
theorem tx_run {k C : Nat} (o16 : O 16 = none) (o30 : O 30 = none) {h h2 : SHeap} {l : List UInt8} {v : Value} {tm : Tr Value} (htm : tm = txTm (Tr.ofL 33 [.func (.func 31) #[] #[.pointer (some ⟨C,0,none⟩)]]) h (.func (.func 31) #[] #[.pointer (some ⟨C,0,none⟩)]))
    (hc : run (Eo O) (k + 1) (.call 31 #[.func (.yield (h.next + 2)) #[] #[],.pointer (some ⟨C,0,none⟩)] .normal) (txH h tm) = .ok (v,h2))
    (sd : Said (txH h tm) h2 h.next (h.next + 2) (h.next + 1) tm l) (hl : h2.next + 20 ≤ lim) :
    ∃ h',run (Eo O) (k + 2) (.call 16 #[.func (.func 31) #[] #[.pointer (some ⟨C,0,none⟩)]] .normal) h = .ok (.string ⟨l.toArray⟩,h') ∧ h'.next = h2.next ∧ ∀ x,x < h.next → h'.t.get x = h.t.get x := by
  subst htm
  have nx1 : (txH h (txTm (Tr.ofL 33 [.func (.func 31) #[] #[.pointer (some ⟨C,0,none⟩)]]) h (.func (.func 31) #[] #[.pointer (some ⟨C,0,none⟩)]))).next = h.next + 3 := rfl
  obtain ⟨⟨R,b1,b2,b3⟩,lo,nx,ke⟩ := sd
  rw [nx1] at b2 nx ke
  have hRL : R ≠ some (h.next + 2) := fun e => by have := b2 _ e; omega
  have hRD : R ≠ some (h.next + 1) := fun e => by have := b2 _ e; omega
  obtain ⟨h3,e3⟩ : ∃ h3,h3 = h2.set (h.next + 2) (some (.loop (lp (txTm (Tr.ofL 33 [.func (.func 31) #[] #[.pointer (some ⟨C,0,none⟩)]]) h (.func (.func 31) #[] #[.pointer (some ⟨C,0,none⟩)])) (h.next + 1) .exhausted))) := ⟨_,rfl⟩
  have g3 : ∀ x,x ≠ h.next + 2 → h3.t.get x = h2.t.get x := fun x hx => by
    rw [e3]; simp only [SHeap.set,get_put]; rw [if_neg (fun e => hx e.1)]
  have n3 : h3.next = h2.next := by rw [e3]; rfl
  have b3' : BS h3 h.next R l := b1.keep (by omega) fun x hx => g3 x fun e => by
    subst e
    rcases hx with hx | hx
    · omega
    · exact hRL hx
  obtain ⟨h4,s1,s2,s3⟩ := str_run (k := k) o30 b3' (by omega) b3
  obtain ⟨tm',c1,c2⟩ := tx_code (O := O) (ih := run (Eo O) (k + 1)) (C := C) (h := h) (h2 := h2) (h4 := h4) (l := l) (v := v) (tm := Tr.ofL 33 [.func (.func 31) #[] #[.pointer (some ⟨C,0,none⟩)]]) rfl hc lo (by rw [← e3]; exact s1)
  have gD : h4.t.get (h.next + 1) = some (.deferred (some [])) := by
    rw [s3 _ hRD,g3 _ (by omega),ke _ (by omega) (by omega) (by omega)]
    unfold txH
    simp only [SHeap.new,get_put,show (newCells h 84 [.pointer none,.slice none 0 0] false).next = h.next + 1 from rfl]
    rw [if_neg (by omega),if_pos ⟨trivial,by omega⟩]
  refine ⟨h4.set (h.next + 1) (some (.deferred none)),?_,by show h4.next = _; omega,fun x hx => ?_⟩
  · rw [run_call (show (Eo O).O 16 = none from o16),enterS_run fn16 body16]
    rw [show max Tryz.f16.ntmps (#[Value.func (.func 31) #[] #[.pointer (some ⟨C,0,none⟩)]] : Array Value).size = 11 from rfl]
    rw [show (#[Value.func (.func 31) #[] #[.pointer (some ⟨C,0,none⟩)]] : Array Value).toList = [Value.func (.func 31) #[] #[.pointer (some ⟨C,0,none⟩)]] from rfl,c1]
    simp only [leaveS,defersS,gD,List.append_nil,res16,resultsS,c2,need]
    rfl
  · simp only [SHeap.set,get_put]
    rw [if_neg (by omega),s3 x (fun e => by have := b2 x e; omega),g3 x (by omega),ke x (by omega) (by omega) (by omega)]
    unfold txH
    simp only [SHeap.new,get_put,show (newCells h 84 [.pointer none,.slice none 0 0] false).next = h.next + 1 from rfl]
    rw [if_neg (by omega),if_neg (by omega),new_low (by omega)]
end Go.Proofs.YtaclddcneogolaaGreatDoor

set_option linter.unusedSimpArgs false
set_option linter.unusedVariables false
namespace Go.Sim
open Go
theorem dstep_pg {E : Env} {ih : K} {l : List Oper} {nt base i lo : Nat} {heaps : List SHeap} {tm : Tr Value} {h : SHeap} {cur : List Nat} :
    dstepS E ih l.toArray nt base ⟨i,.pure,lo⟩ ⟨heaps,tm,h,cur⟩ = (match l[i]? with
      | none => .error "draw  no operation"
      | some ⟨dst,op,ty,pos,after,g⟩ => match wantedS l.toArray tm g with
        | none => .error "draw  guard"
        | some false => .ok ⟨heaps,putT tm nt dst (.tuple #[]),h,cur⟩
        | some true => match outVal (dispatch op E (evT E.G tm) ⟨dst,op,ty,pos,after,g⟩ voidH) with
          | .ok v => .ok ⟨heaps,putT tm nt dst v,h,cur⟩
          | .error e => .error e) := by
  rcases ho : l[i]? with _ | ⟨dst,op,ty,pos,after,g⟩
  · simp only [dstepS,List.getElem?_toArray,ho]
  · simp only [dstepS,List.getElem?_toArray,ho]
    cases wantedS l.toArray tm g with
    | none => rfl
    | some b => cases b with
      | false => rfl
      | true =>
        simp only [PKind.isEff,cond_false,floatS,simOp]
        cases outVal (dispatch op E (evT E.G tm) ⟨dst,op,ty,pos,after,g⟩ voidH) <;> rfl
theorem dstep_rg {E : Env} {ih : K} {l : List Oper} {nt base i : Nat} {hh : SHeap} {old : List SHeap} {tm : Tr Value} {h : SHeap} {cur : List Nat} :
    dstepS E ih l.toArray nt base ⟨i,.read,0⟩ ⟨hh :: old,tm,h,cur⟩ = (match l[i]? with
      | none => .error "draw  no operation"
      | some ⟨dst,op,ty,pos,after,g⟩ => match wantedS l.toArray tm g with
        | none => .error "draw  guard"
        | some false => .ok ⟨hh :: old,putT tm nt dst (.tuple #[]),h,cur⟩
        | some true => match outVal (dispatch op E (evT E.G tm) ⟨dst,op,ty,pos,after,g⟩ hh) with
          | .ok v => bif readAgain E (evT E.G tm) ⟨dst,op,ty,pos,after,g⟩ v old then .ok ⟨hh :: old,putT tm nt dst v,h,cur⟩ else .error "draw  a read that hangs on the order"
          | .error e => .error e) := by
  rcases ho : l[i]? with _ | ⟨dst,op,ty,pos,after,g⟩
  · simp only [dstepS,List.getElem?_toArray,ho]
  · simp only [dstepS,List.getElem?_toArray,ho]
    cases wantedS l.toArray tm g with
    | none => rfl
    | some b => cases b with
      | false => rfl
      | true =>
        simp only [PKind.isEff,cond_false,floatS,simOp,Nat.sub_zero,List.take_length]
        cases outVal (dispatch op E (evT E.G tm) ⟨dst,op,ty,pos,after,g⟩ hh) with
        | error e => rfl
        | ok v =>
          simp only
          cases hR : readAgain E (evT E.G tm) ⟨dst,op,ty,pos,after,g⟩ v old <;> simp only [hR,cond_true,cond_false]
theorem dstep_eg {E : Env} {ih : K} {l : List Oper} {nt base i lo : Nat} {heaps : List SHeap} {tm : Tr Value} {h : SHeap} {cur : List Nat} :
    dstepS E ih l.toArray nt base ⟨i,.eff,lo⟩ ⟨heaps,tm,h,cur⟩ = (match l[i]? with
      | none => .error "draw  no operation"
      | some ⟨dst,op,ty,pos,after,g⟩ => match wantedS l.toArray tm g with
        | none => .error "draw  guard"
        | some false => .ok ⟨h :: heaps,putT tm nt dst (.tuple #[]),h,[]⟩
        | some true => match dispatch op E (evT E.G tm) ⟨dst,op,ty,pos,after,g⟩ h with
          | .error e => .error e
          | .ok out => match callOut ih out with
            | .error e => .error e
            | .ok (v,h) => bif Nat.ble h.next lim then .ok ⟨h :: heaps,putT tm nt dst v,h,[]⟩ else .error "draw  too many names") := by
  rcases ho : l[i]? with _ | ⟨dst,op,ty,pos,after,g⟩
  · simp only [dstepS,List.getElem?_toArray,ho]
  · simp only [dstepS,List.getElem?_toArray,ho]
    cases wantedS l.toArray tm g with
    | none => rfl
    | some b => cases b with
      | false => rfl
      | true =>
        simp only [PKind.isEff,cond_true,simOp]
        cases dispatch op E (evT E.G tm) ⟨dst,op,ty,pos,after,g⟩ h with
        | error e => rfl
        | ok out =>
          simp only
          cases callOut ih out with
          | error e => rfl
          | ok p => rfl
/-- a new row in a drawn region -/
theorem dstep_bg {E : Env} {ih : K} {l : List Oper} {nt base i lo : Nat} {heaps : List SHeap} {tm : Tr Value} {h : SHeap} {cur : List Nat} :
    dstepS E ih l.toArray nt base ⟨i,.alloc,lo⟩ ⟨heaps,tm,h,cur⟩ = (match l[i]? with
      | none => .error "draw  no operation"
      | some ⟨dst,op,ty,pos,after,g⟩ => match wantedS l.toArray tm g with
        | none => .error "draw  guard"
        | some false => .ok ⟨heaps,putT tm nt dst (.tuple #[]),h,cur⟩
        | some true => match allocOf E (evT E.G tm) op with
          | some (elem,cs,av) => .ok ⟨heaps,putT tm nt dst (mkAV av (base + i)),h.set (base + i) (some (.cells (Tr.ofL 33 cs) cs.length elem false false)),i :: cur⟩
          | none => .error "draw  alloc") := by
  rcases ho : l[i]? with _ | ⟨dst,op,ty,pos,after,g⟩
  · simp only [dstepS,List.getElem?_toArray,ho]
  · simp only [dstepS,List.getElem?_toArray,ho]
    cases wantedS l.toArray tm g with
    | none => rfl
    | some b => cases b with
      | false => rfl
      | true =>
        simp only [PKind.isEff,cond_false,floatS]
        cases allocOf E (evT E.G tm) op with
        | none => rfl
        | some p => rfl
theorem bDraw_res {E : Env} {ih : K} {fx : Fx} {l : List Oper} {G : Tr SObj} {n : Nat} {tm : Tr Value} {ds : List Deferred} {steps : List PStep} {m res : Nat} (hp : planOf E l = some ⟨steps,m,res⟩) (hn : n + res ≤ lim) :
    bDraw E ih fx l.toArray ⟨tm,⟨G,n⟩,ds⟩ = (match drawS E ih l.toArray fx.nt n steps ⟨[⟨G,n + res⟩],tm,⟨G,n + res⟩,[]⟩ with
      | .error e => .error e
      | .ok ph => normalS (opsS E ih fx l.toArray (l.drop m) ⟨ph.tm,ph.h,ds⟩)) := by
  have hn : Nat.ble (n + res) lim = true := by rw [Nat.ble_eq]; exact hn
  simp only [bDraw,hp,hn,cond_true]
  cases drawS E ih l.toArray fx.nt n steps ⟨[⟨G,n + res⟩],tm,⟨G,n + res⟩,[]⟩ <;> rfl
theorem afterS_round {ih : K} {fx : Fx} {dst : Option Tmp} {tm : Tr Value} {ds : List Deferred} {l : Nat} {r : SLoop} {args : Array Value} {h : SHeap} : afterS ih fx dst tm ds (.round l r args,h) = (match ih (.round l r args) h with
    | .error e => .error e
    | .ok (v,h') => .ok ⟨putT tm fx.nt dst v,h',ds⟩) := by
  simp only [afterS]
  cases ih (.round l r args) h with
  | error e => rfl
  | ok p =>
    obtain ⟨v,⟨t,n⟩⟩ := p
    simp only [forceV_eq,stOk,force_eq,forceN_eq]
theorem call_yield {E : Env} {G : Nat} {tm : Tr Value} {o : Oper} {a b : Tmp} {ats : Array TypeId} {h : SHeap} {L : Nat} {r : SLoop} {v : Value} (ha : tm.get a = some (.func (.yield L) #[] #[])) (hb : tm.get b = some v) (hl : h.t.get L = some (.loop r)) (hr : r.params.size = 1) :
    opCall E (evT G tm) o ⟨.value (.tmp a),#[.tmp b],ats⟩ h = .ok (.round L r #[v],h) := by
  simp only [opCall,resolveS,evList,evT,ha,hb,invokeS,Array.append_empty,Array.empty_append,hl,hr]
  rfl
theorem wantedS_none {all : Array Oper} {tm : Tr Value} : wantedS all tm none = some true := (id rfl)
theorem wantedS_some {l : List Oper} {tm : Tr Value} {j : Nat} {w : Bool} : wantedS l.toArray tm (some (j,w)) = (match l[j]? with
    | some ⟨some d,op,ty,pos,after,g⟩ => (match tm.get d with
      | some (.bool b) => some (b == w)
      | some _ => some false
      | none => none)
    | _ => some false) := by
  simp only [wantedS,List.getElem?_toArray]
  rcases l[j]? with _ | ⟨dst,op,ty,pos,after,g⟩
  · rfl
  · cases dst <;> rfl
/-- a tree of a list,read back -/
theorem split_spec {α : Type} : ∀ (l : List α),merge (split l).1 (split l).2 = l ∧ (split l).1.length = (l.length + 1) / 2 ∧ (split l).2.length = l.length / 2
  | [] => by simp [split,merge]
  | [x] => by simp [split,merge]
  | x :: y :: r => by
    obtain ⟨h1,h2,h3⟩ := split_spec r
    simp only [split]
    refine ⟨?_,?_,?_⟩
    · simp only [merge,h1]
    · simp only [List.length_cons,h2]; omega
    · simp only [List.length_cons,h3]; omega
theorem toL_two {α : Type} {f : Nat} {l r : Tr α} {x : α} : Tr.toL (f + 1) (.node l (some x) r) 2 = (match Tr.toL f l 1 with | none => none | some o => some (x :: o)) := rfl
theorem toL_more {α : Type} {f j : Nat} {l r : Tr α} {x : α} : Tr.toL (f + 1) (.node l (some x) r) (j + 3) = (match Tr.toL f l ((j + 1) / 2 + 1) with | none => none | some o => match Tr.toL f r (j / 2 + 2) with
  | some (_ :: e) => some (x :: merge o e)
  | _ => none) := rfl
def ofLr {α : Type} (f : Nat) (x : α) : List α → Tr α
  | [] => .nil
  | e0 :: e => Tr.ofL f (x :: e0 :: e)
theorem ofL_two {α : Type} {f : Nat} {x y : α} {ys o e : List α} (hs : split (y :: ys) = (o,e)) : Tr.ofL (f + 1) (x :: y :: ys) = .node (Tr.ofL f o) (some x) (ofLr f x e) := by
  rw [show Tr.ofL (f + 1) (x :: y :: ys) = (match split (y :: ys) with | (o,e) => (Tr.ofL f o).force fun l => match e with | [] => .node l (some x) .nil | _ :: _ => (Tr.ofL f (x :: e)).force fun r => .node l (some x) r) from rfl,hs]
  simp only [force_eq]
  cases e <;> rfl
theorem toL_of_ofL {α : Type} : ∀ (f g : Nat) (l : List α),f ≤ g → l.length ≤ 2 ^ f → (Tr.ofL (g + 1) l).toL (f + 1) l.length = some l
  | _,_,[],_,_ => rfl
  | f,g,[x],_,_ => by simp [Tr.ofL,Tr.toL]
  | f,g,x :: y :: ys,hfg,hl => by
    cases f with
    | zero => simp at hl
    | succ f =>
      obtain ⟨g,rfl⟩ : ∃ g',g = g' + 1 := ⟨g - 1,by omega⟩
      obtain ⟨h1,h2,h3⟩ := split_spec (y :: ys)
      have hp : 2 ^ (f + 1) = 2 * 2 ^ f := by rw [Nat.pow_succ]; omega
      simp only [List.length_cons] at hl h2 h3
      have i1 := toL_of_ofL f g (split (y :: ys)).1 (by omega) (by omega)
      have i2 := toL_of_ofL f g (x :: (split (y :: ys)).2) (by omega) (by simp only [List.length_cons]; omega)
      rw [h2] at i1
      simp only [List.length_cons,h3] at i2
      rcases hs : split (y :: ys) with ⟨o,e⟩
      rw [hs] at h1 h2 h3 i1 i2
      simp only at h1 h2 h3 i1 i2
      rw [ofL_two hs]
      cases ys with
      | nil =>
        show Tr.toL (f + 1 + 1) _ 2 = _
        rw [toL_two]
        rw [show ([] : List α).length + 1 + 1 = 2 from rfl] at i1
        rw [show 2 / 2 = 1 from rfl] at i1
        rw [i1,← h1]
        cases o with
        | nil => simp at h2
        | cons a o =>
          cases e with
          | cons _ _ => simp at h3
          | nil => cases o <;> rfl
      | cons z zs =>
        cases e with
        | nil => simp only [List.length_cons,List.length_nil] at h3; omega
        | cons e0 e =>
          show Tr.toL (f + 1 + 1) _ (zs.length + 3) = _
          rw [toL_more]
          simp only [List.length_cons] at i1 i2
          rw [show (zs.length + 1) / 2 + 1 = (zs.length + 1 + 1 + 1) / 2 by omega,i1]
          simp only
          rw [show zs.length / 2 + 2 = (zs.length + 1 + 1) / 2 + 1 by omega,show ofLr (g + 1) x (e0 :: e) = Tr.ofL (g + 1) (x :: e0 :: e) from rfl,i2]
          simp only [h1]
end Go.Sim

/- The simulator on code whose numbers are not known: laws of its steps. -/
import Derived.Test.YtgiompikfhhkmaaGreatDoorEnv2
import Derived.Test.YtgiompikfhhkmaaGreatDoorMemo
set_option linter.unusedVariables false
set_option linter.unusedSimpArgs false
namespace Go.Sim

def cA : Code → Code | .seq a _ => a | c => c
def cB : Code → Code | .seq _ b => b | c => c
def cI : Code → Code | .block _ b => b | .loop b => b | .scope b => b | c => c
def cF (f : Func) : Code := f.body.getD .skip

theorem opsS_nil {E : Env} {ih : K} {fx : Fx} {all : Array Oper} {st : St} : opsS E ih fx all [] st = .ok st := (id rfl)
theorem opsS_cons {E : Env} {ih : K} {fx : Fx} {all : Array Oper} {o : Oper} {r : List Oper} {st : St} : opsS E ih fx all (o :: r) st = (match opS E ih fx all o st with | .error e => .error e | .ok st => opsS E ih fx all r st) := (id rfl)

theorem opS_free {E : Env} {ih : K} {fx : Fx} {all : Array Oper} {dst : Option Tmp} {op : Op} {ty : TypeId} {pos : String} {after : Array Edge} {tm : Tr Value} {h : SHeap} {ds : List Deferred} :
    opS E ih fx all ⟨dst,op,ty,pos,after,none⟩ ⟨tm,h,ds⟩ = (match dispatch op E (evT E.G tm) ⟨dst,op,ty,pos,after,none⟩ h with
      | .error e => .error (pos ++ "  " ++ e)
      | .ok out => afterS ih fx dst tm ds out) := (id rfl)
theorem afterS_value {ih : K} {fx : Fx} {dst : Option Tmp} {tm : Tr Value} {ds : List Deferred} {v : Value} {h : SHeap} : afterS ih fx dst tm ds (.value v,h) = .ok ⟨putT tm fx.nt dst v,h,ds⟩ := by
  obtain ⟨t,n⟩ := h
  simp only [afterS,forceV_eq,stOk,force_eq,forceN_eq]
theorem putT_some {tm : Tr Value} {nt : Nat} {d : Tmp} {v : Value} (h : d < nt) : putT tm nt (some d) v = tm.put d (some v) := by
  simp only [putT,blt_of h,cond_true]
theorem putT_none {tm : Tr Value} {nt : Nat} {v : Value} : putT tm nt none v = tm := (id rfl)

theorem wrap_small {m : Nat} (h : m < 9223372036854775808) : wrapF .i64 (.ofNat m) = .ofNat m := by
  simp only [wrapF,blt_of h,cond_true]

theorem loopS_inv {f : St → RS} {I : Nat → St → Prop} {N id : Nat} {Q : St → Prop} (hs : ∀ j st,j < N → I j st → ∃ st',f st = .ok (.normal,st') ∧ I (j + 1) st') (he : ∀ st,I N st → ∃ st',f st = .ok (.exit id,st') ∧ Q st') :
    ∀ (n fuel j : Nat) (st : St),N = j + n → n < fuel → I j st → ∃ st',loopS f fuel st = .ok (.exit id,st') ∧ Q st'
  | 0,0,j,st,hn,hf,hi => by omega
  | n + 1,0,j,st,hn,hf,hi => by omega
  | 0,fuel + 1,j,st,hn,hf,hi => by
    obtain rfl : N = j := by omega
    obtain ⟨st',h1,h2⟩ := he st hi
    exact ⟨st',by simp only [loopS,h1],h2⟩
  | n + 1,fuel + 1,j,st,hn,hf,hi => by
    obtain ⟨st',h1,h2⟩ := hs j st (by omega) hi
    obtain ⟨st'',h3,h4⟩ := loopS_inv hs he n fuel (j + 1) st' (by omega) (by omega) h2
    exact ⟨st'',by simp only [loopS,h1]; exact h3,h4⟩

theorem cRegion_run {E : Env} {ih : K} {fx : Fx} {ops : Array Oper} {tm : Tr Value} {h : SHeap} {ds : List Deferred} : cRegion ops false E ih fx ⟨tm,h,ds⟩ = normalS (opsS E ih fx ops ops.toList ⟨tm,h,ds⟩) := (id rfl)
theorem cSeq_run {E : Env} {ih : K} {fx : Fx} {a b : CD} {tm : Tr Value} {h : SHeap} {ds : List Deferred} : cSeq a b E ih fx ⟨tm,h,ds⟩ = thenS (a E ih fx ⟨tm,h,ds⟩) (b E ih fx) := (id rfl)
theorem cBlock_run {E : Env} {ih : K} {fx : Fx} {i : Nat} {b : CD} {tm : Tr Value} {h : SHeap} {ds : List Deferred} : cBlock i b E ih fx ⟨tm,h,ds⟩ = exitBlock i (b E ih fx ⟨tm,h,ds⟩) := (id rfl)
theorem cSkip_run {E : Env} {ih : K} {fx : Fx} {tm : Tr Value} {h : SHeap} {ds : List Deferred} : cSkip E ih fx ⟨tm,h,ds⟩ = .ok (.normal,⟨tm,h,ds⟩) := (id rfl)
theorem cRet_run {E : Env} {ih : K} {fx : Fx} {tm : Tr Value} {h : SHeap} {ds : List Deferred} : cRet E ih fx ⟨tm,h,ds⟩ = .ok (.ret,⟨tm,h,ds⟩) := (id rfl)
theorem cExit_run {E : Env} {ih : K} {fx : Fx} {i : Nat} {tm : Tr Value} {h : SHeap} {ds : List Deferred} : cExit i E ih fx ⟨tm,h,ds⟩ = .ok (.exit i,⟨tm,h,ds⟩) := (id rfl)
theorem cLoop_run {E : Env} {ih : K} {fx : Fx} {b : CD} {tm : Tr Value} {h : SHeap} {ds : List Deferred} : cLoop b E ih fx ⟨tm,h,ds⟩ = loopS (b E ih fx) 1000000 ⟨tm,h,ds⟩ := (id rfl)
theorem cCond_run {E : Env} {ih : K} {fx : Fx} {c : Operand} {a b : CD} {tm : Tr Value} {h : SHeap} {ds : List Deferred} : cCond c a b E ih fx ⟨tm,h,ds⟩ = (match evT E.G tm c with
  | some (.bool t) => match t with | true => a E ih fx ⟨tm,h,ds⟩ | false => b E ih fx ⟨tm,h,ds⟩
  | _ => .error "cond") := (id rfl)
theorem thenS_normal {st : St} {k : St → RS} : thenS (.ok (.normal,st)) k = k st := (id rfl)
theorem thenS_exit {st : St} {i : Nat} {k : St → RS} : thenS (.ok (.exit i,st)) k = .ok (.exit i,st) := (id rfl)
theorem thenS_ret {st : St} {k : St → RS} : thenS (.ok (.ret,st)) k = .ok (.ret,st) := (id rfl)
theorem exitBlock_normal {st : St} {i : Nat} : exitBlock i (.ok (.normal,st)) = .ok (.normal,st) := (id rfl)
theorem exitBlock_ret {st : St} {i : Nat} : exitBlock i (.ok (.ret,st)) = .ok (.ret,st) := (id rfl)
theorem exitBlock_exit {st : St} {i j : Nat} : exitBlock i (.ok (.exit j,st)) = bif Nat.beq j i then .ok (.normal,st) else .ok (.exit j,st) := (id rfl)
theorem normalS_ok {st : St} : normalS (.ok st) = .ok (.normal,st) := (id rfl)
theorem opsS_run {E : Env} {ih : K} {fx : Fx} {all : Array Oper} {o : Oper} {r : List Oper} {tm : Tr Value} {h : SHeap} {ds : List Deferred} : opsS E ih fx all (o :: r) ⟨tm,h,ds⟩ = (match opS E ih fx all o ⟨tm,h,ds⟩ with | .error e => .error e | .ok st => opsS E ih fx all r st) := (id rfl)
theorem evT_tmp {G : Nat} {tm : Tr Value} {t : Tmp} : evT G tm (.tmp t) = tm.get t := (id rfl)
theorem evT_int {G : Nat} {tm : Tr Value} {k : IntKind} {n : Int} : evT G tm (.const (.int k n)) = some (.int k n) := (id rfl)
theorem evT_bool {G : Nat} {tm : Tr Value} {b : Bool} : evT G tm (.const (.bool b)) = some (.bool b) := (id rfl)
theorem bin_i64 {E : Env} {ev : Ev} {o : Oper} {op : BinOp} {t : TypeId} {x y : Int} {h : SHeap} (hs : isShift op = false) : opBin E ev o op t (some (.int .i64 x)) (some (.int .i64 y)) h = opInt E ev o (intBin op .i64 x y) h := by
  simp only [opBin,hs,cond_false,if_true]
theorem lss_i64 {E : Env} {ev : Ev} {o : Oper} {t : TypeId} {x y : Int} {h : SHeap} : opBin E ev o .lss t (some (.int .i64 x)) (some (.int .i64 y)) h = .ok (.value (.bool (decide (x < y))),h) := bin_i64 rfl
theorem addrAdd_free {b o n : Nat} : addrAdd ⟨b,o,none⟩ n = ⟨b,o + n,none⟩ := by
  unfold addrAdd
  split
  · rename_i h; subst h; rfl
  · rfl
theorem natOf_int {k : IntKind} {n : Nat} : natOf (.int k (.ofNat n)) = some n := (id rfl)
theorem gtr_i64 {E : Env} {ev : Ev} {o : Oper} {t : TypeId} {x y : Int} {h : SHeap} : opBin E ev o .gtr t (some (.int .i64 x)) (some (.int .i64 y)) h = .ok (.value (.bool (decide (x > y))),h) := bin_i64 rfl
theorem neq_i64 {E : Env} {ev : Ev} {o : Oper} {t : TypeId} {x y : Int} {h : SHeap} : opBin E ev o .neq t (some (.int .i64 x)) (some (.int .i64 y)) h = .ok (.value (.bool (x != y)),h) := bin_i64 rfl
theorem add_i64 {E : Env} {ev : Ev} {o : Oper} {t : TypeId} {x y : Int} {h : SHeap} : opBin E ev o .add t (some (.int .i64 x)) (some (.int .i64 y)) h = .ok (.value (.int .i64 (wrapF .i64 (x + y))),h) := bin_i64 rfl

theorem run_call {E : Env} {n f : Nat} {args : Array Value} {h : SHeap} (hO : E.O f = none) : run E (n + 1) (.call f args .normal) h = enterS E (run E n) f args .normal h := by
  show bodyR E (run E n) _ h = _
  unfold bodyR
  simp only [hO]
theorem enterS_run {E : Env} {ih : K} {f : FuncId} {args : Array Value} {k : CallKind} {h : SHeap} {fd : Func} {c : Code} (hF : E.F f = some fd) (hb : fd.body = some c) : enterS E ih f args k h =
    (match codeS c E ih ⟨f,max fd.ntmps args.size,k,none⟩ ⟨Tr.ofL 33 args.toList,h,[]⟩ with
      | .error e => .error e
      | .ok (o,st) => match o with
        | .exit _ => .error "exit  no such block"
        | _ => leaveS E ih fd st) := by
  unfold enterS
  simp only [hF,hb]
  rfl
theorem enterS_ret {E : Env} {ih : K} {f : FuncId} {args : Array Value} {k : CallKind} {h h' : SHeap} {fd : Func} {c : Code} {nt : Nat} {al vs : List Value} {tm' : Tr Value} {rv : List ResultVar} (hF : E.F f = some fd) (hb : fd.body = some c) (hn : max fd.ntmps args.size = nt) (ha : args.toList = al)
    (hv : fd.results.toList = rv) (hc : codeS c E ih ⟨f,nt,k,none⟩ ⟨Tr.ofL 33 al,h,[]⟩ = .ok (.ret,⟨tm',h',[]⟩)) (hr : resultsS E tm' h' rv = .ok vs) : enterS E ih f args k h = .ok (tupled vs,h') := by
  subst hn ha hv
  rw [enterS_run hF hb,hc]
  simp only [leaveS,defersS,hr]
theorem leaveS_run {E : Env} {ih : K} {fd : Func} {tm : Tr Value} {h : SHeap} : leaveS E ih fd ⟨tm,h,[]⟩ = (match resultsS E tm h fd.results.toList with
      | .ok vs => .ok (tupled vs,h)
      | .error e => .error e) := (id rfl)

def cOps : Code → Array Oper | .region _ ops _ => ops | _ => #[]
def cT : Code → Code | .cond _ a _ => a | c => c

theorem loopS_or {f : St → RS} {I : Nat → St → Prop} {N : Nat} {P : Out → St → Prop} (hs : ∀ j st,j < N → I j st → (∃ st',f st = .ok (.normal,st') ∧ I (j + 1) st') ∨ (∃ o st',o ≠ .normal ∧ f st = .ok (o,st') ∧ P o st')) (he : ∀ st,I N st → ∃ o st',o ≠ .normal ∧ f st = .ok (o,st') ∧ P o st') :
    ∀ (n fuel j : Nat) (st : St),N = j + n → n < fuel → I j st → ∃ o st',o ≠ .normal ∧ loopS f fuel st = .ok (o,st') ∧ P o st' := by
  have out : ∀ fuel st o st',o ≠ .normal → f st = .ok (o,st') → loopS f (fuel + 1) st = .ok (o,st') := by
    intro fuel st o st' ho hf
    cases o with
    | normal => exact absurd rfl ho
    | exit => simp only [loopS,hf]
    | ret => simp only [loopS,hf]
  intro n
  induction n with
  | zero =>
    intro fuel j st hn hf hi
    obtain rfl : N = j := by omega
    obtain ⟨o,st',h1,h2,h3⟩ := he st hi
    cases fuel with
    | zero => omega
    | succ fuel => exact ⟨o,st',h1,out _ _ _ _ h1 h2,h3⟩
  | succ n ihn =>
    intro fuel j st hn hf hi
    cases fuel with
    | zero => omega
    | succ fuel =>
      rcases hs j st (by omega) hi with ⟨st',h1,h2⟩ | ⟨o,st',h1,h2,h3⟩
      · obtain ⟨o,st'',k1,k2,k3⟩ := ihn fuel (j + 1) st' (by omega) (by omega) h2
        exact ⟨o,st'',k1,by simp only [loopS,h1]; exact k2,k3⟩
      · exact ⟨o,st',h1,out _ _ _ _ h1 h2,h3⟩

theorem cRegion_draw {E : Env} {ih : K} {fx : Fx} {ops : Array Oper} {tm : Tr Value} {h : SHeap} {ds : List Deferred} : cRegion ops true E ih fx ⟨tm,h,ds⟩ = bDraw E ih fx ops ⟨tm,h,ds⟩ := (id rfl)
theorem bDraw_run {E : Env} {ih : K} {fx : Fx} {ops : Array Oper} {tm : Tr Value} {h : SHeap} {ds : List Deferred} {steps : List PStep} {m : Nat} (hp : planOf E ops.toList = some ⟨steps,m,0⟩) (hn : h.next ≤ lim) :
    bDraw E ih fx ops ⟨tm,h,ds⟩ = (match drawS E ih ops fx.nt h.next steps ⟨[h],tm,h,[]⟩ with
      | .error e => .error e
      | .ok ph => normalS (opsS E ih fx ops (ops.toList.drop m) ⟨ph.tm,ph.h,ds⟩)) := by
  obtain ⟨t,n⟩ := h
  have hn : Nat.ble n lim = true := by rw [Nat.ble_eq]; exact hn
  simp only [bDraw,hp,Nat.add_zero,hn,cond_true]
  cases drawS E ih ops fx.nt n steps ⟨[⟨t,n⟩],tm,⟨t,n⟩,[]⟩ <;> rfl
theorem bDraw_list {E : Env} {ih : K} {fx : Fx} {l : List Oper} {tm : Tr Value} {h : SHeap} {ds : List Deferred} {steps : List PStep} {m : Nat} (hp : planOf E l = some ⟨steps,m,0⟩) (hn : h.next ≤ lim) :
    bDraw E ih fx l.toArray ⟨tm,h,ds⟩ = (match drawS E ih l.toArray fx.nt h.next steps ⟨[h],tm,h,[]⟩ with
      | .error e => .error e
      | .ok ph => normalS (opsS E ih fx l.toArray (l.drop m) ⟨ph.tm,ph.h,ds⟩)) := bDraw_run hp hn
theorem drawS_nil' {E : Env} {ih : K} {all : Array Oper} {nt base : Nat} {ph : Ph} : drawS E ih all nt base [] ph = .ok ph := (id rfl)
theorem drawS_cons' {E : Env} {ih : K} {all : Array Oper} {nt base : Nat} {s : PStep} {r : List PStep} {ph : Ph} : drawS E ih all nt base (s :: r) ph = (match dstepS E ih all nt base s ph with
    | .error e => .error e
    | .ok ph => drawS E ih all nt base r ph) := by
  simp only [drawS]
  cases dstepS E ih all nt base s ph with
  | error e => rfl
  | ok ph =>
    obtain ⟨a,b,⟨c,d⟩,e⟩ := ph
    simp only [phOk,force_eq,forceN_eq]
theorem dstep_pure {E : Env} {ih : K} {all : Array Oper} {nt base i lo : Nat} {heaps : List SHeap} {tm : Tr Value} {h : SHeap} {cur : List Nat} {o : Oper} (ho : all[i]? = some o) (hg : o.guard = none) :
    dstepS E ih all nt base ⟨i,.pure,lo⟩ ⟨heaps,tm,h,cur⟩ = (match outVal (simOp E (evT E.G tm) o voidH) with
      | .ok v => .ok ⟨heaps,putT tm nt o.dst v,h,cur⟩
      | .error e => .error e) := by
  simp only [dstepS,ho,hg,wantedS,PKind.isEff,cond_false,floatS]
  cases outVal (simOp E (evT E.G tm) o voidH) <;> rfl
theorem dstep_read {E : Env} {ih : K} {all : Array Oper} {nt base i : Nat} {hh : SHeap} {tm : Tr Value} {h : SHeap} {cur : List Nat} {o : Oper} (ho : all[i]? = some o) (hg : o.guard = none) :
    dstepS E ih all nt base ⟨i,.read,0⟩ ⟨[hh],tm,h,cur⟩ = (match outVal (simOp E (evT E.G tm) o hh) with
      | .ok v => .ok ⟨[hh],putT tm nt o.dst v,h,cur⟩
      | .error e => .error e) := by
  simp only [dstepS,ho,hg,wantedS,PKind.isEff,cond_false,floatS]
  cases outVal (simOp E (evT E.G tm) o hh) <;> rfl
theorem dstep_pure' {E : Env} {ih : K} {l : List Oper} {nt base i lo : Nat} {heaps : List SHeap} {tm : Tr Value} {h : SHeap} {cur : List Nat} :
    dstepS E ih l.toArray nt base ⟨i,.pure,lo⟩ ⟨heaps,tm,h,cur⟩ = (match l[i]? with
      | none => .error "draw  no operation"
      | some ⟨dst,op,ty,pos,after,g⟩ => match g with
        | none => (match outVal (dispatch op E (evT E.G tm) ⟨dst,op,ty,pos,after,none⟩ voidH) with
          | .ok v => .ok ⟨heaps,putT tm nt dst v,h,cur⟩
          | .error e => .error e)
        | some _ => dstepS E ih l.toArray nt base ⟨i,.pure,lo⟩ ⟨heaps,tm,h,cur⟩) := by
  rcases ho : l[i]? with _ | ⟨dst,op,ty,pos,after,g⟩
  · simp only [dstepS,List.getElem?_toArray,ho]
  · cases g with
    | none => exact dstep_pure (all := l.toArray) (o := ⟨dst,op,ty,pos,after,none⟩) (by rw [List.getElem?_toArray]; exact ho) rfl
    | some _ => rfl
theorem dstep_read' {E : Env} {ih : K} {l : List Oper} {nt base i : Nat} {hh : SHeap} {tm : Tr Value} {h : SHeap} {cur : List Nat} :
    dstepS E ih l.toArray nt base ⟨i,.read,0⟩ ⟨[hh],tm,h,cur⟩ = (match l[i]? with
      | none => .error "draw  no operation"
      | some ⟨dst,op,ty,pos,after,g⟩ => match g with
        | none => (match outVal (dispatch op E (evT E.G tm) ⟨dst,op,ty,pos,after,none⟩ hh) with
          | .ok v => .ok ⟨[hh],putT tm nt dst v,h,cur⟩
          | .error e => .error e)
        | some _ => dstepS E ih l.toArray nt base ⟨i,.read,0⟩ ⟨[hh],tm,h,cur⟩) := by
  rcases ho : l[i]? with _ | ⟨dst,op,ty,pos,after,g⟩
  · simp only [dstepS,List.getElem?_toArray,ho]
  · cases g with
    | none => exact dstep_read (all := l.toArray) (o := ⟨dst,op,ty,pos,after,none⟩) (by rw [List.getElem?_toArray]; exact ho) rfl
    | some _ => rfl
theorem simOp_run {E : Env} {ev : Ev} {dst : Option Tmp} {op : Op} {ty : TypeId} {pos : String} {after : Array Edge} {g : Option (Nat × Bool)} {h : SHeap} : simOp E ev ⟨dst,op,ty,pos,after,g⟩ h = dispatch op E ev ⟨dst,op,ty,pos,after,g⟩ h := (id rfl)
theorem outVal_val {v : Value} {h : SHeap} : outVal (.ok (.value v,h)) = .ok v := (id rfl)
theorem nilCheck_ptr {a : Addr} {h : SHeap} : opNilCheck (some (.pointer (some a))) h = .ok (.value (.pointer (some a)),h) := (id rfl)
theorem pick_true {a b : Option Value} {h : SHeap} : opPick (some (.bool true)) a b h = opMove a h := (id rfl)
theorem pick_false {a b : Option Value} {h : SHeap} : opPick (some (.bool false)) a b h = opMove b h := (id rfl)
theorem load_one {E : Env} {t b k n e : Nat} {o r : Bool} {c : Tr Value} {ti : TI} {v : Value} {h : SHeap} (ht : E.T t = some ti) (hs : ti.agg = false) (hb : h.t.get b = some (.cells c n e o r)) (hk : c.get k = some v) :
    opLoad E t (some (.pointer (some ⟨b,k,none⟩))) h = .ok (.value v,h) := by
  unfold opLoad loadAt
  simp only [ht,hb,hs,hk]
  rfl
theorem opS_guard {E : Env} {ih : K} {fx : Fx} {all : Array Oper} {dst : Option Tmp} {op : Op} {ty : TypeId} {pos : String} {after : Array Edge} {g : Nat × Bool} {tm : Tr Value} {h : SHeap} {ds : List Deferred} :
    opS E ih fx all ⟨dst,op,ty,pos,after,some g⟩ ⟨tm,h,ds⟩ = (match wantedS all tm (some g) with
      | none => .error "guard"
      | some false => .ok ⟨putT tm fx.nt dst (.tuple #[]),h,ds⟩
      | some true => match dispatch op E (evT E.G tm) ⟨dst,op,ty,pos,after,some g⟩ h with
        | .error e => .error (pos ++ "  " ++ e)
        | .ok out => afterS ih fx dst tm ds out) := by
  obtain ⟨t,n⟩ := h
  simp only [opS]
  cases wantedS all tm (some g) with
  | none => rfl
  | some b => cases b with
    | true => rfl
    | false => simp only [stOk,force_eq,forceN_eq]

theorem allI64xget : ∀ {l : List Value} {k : Nat},allI64 l = true → k < l.length → ∃ x,l[k]? = some (.int .i64 x)
  | [],k,_,hk => by simp at hk
  | v :: r,k,h,hk => by
    unfold allI64 at h
    split at h
    · split at h
      · cases k with
        | zero => exact ⟨_,rfl⟩
        | succ k => simpa using allI64xget h (by simpa using hk)
      · simp at h
    · simp at h
theorem leAll2xstep {l m : List Value} {k : Nat} {x y : Int} (hl : l[k]? = some (.int .i64 x)) (hm : m[k]? = some (.int .i64 y)) : leAll2 (l.drop k) (m.drop k) = bif decide (x ≤ y) then leAll2 (l.drop (k + 1)) (m.drop (k + 1)) else false := by
  have d : ∀ {l : List Value} {v : Value},l[k]? = some v → l.drop k = v :: l.drop (k + 1) := by
    intro l v h
    have hk : k < l.length := by
      rcases Nat.lt_or_ge k l.length with h' | h'
      · exact h'
      · rw [List.getElem?_eq_none h'] at h; simp at h
    rw [List.drop_eq_getElem_cons hk]
    rw [List.getElem?_eq_getElem hk] at h
    rw [Option.some.inj h]
  rw [d hl,d hm]
  simp only [leAll2]

/-- what is known of the one is known of the other -/
structure ObjLe (E : Env) (o2 o : SObj) : Prop where
  at_ : ∀ ρ w r κ,ObjAt E ρ w r κ o2 → ObjAt E ρ w r κ o
  ro : notRo o ↔ notRo o2
  sent : notSent o → notSent o2
theorem ObjLe.refl {E : Env} (o : SObj) : ObjLe E o o := ⟨fun _ _ _ _ h => h,Iff.rfl,id⟩
theorem ObjLe.cells {E : Env} {c d : Tr Value} {n e : Nat} {p r : Bool} (h : ∀ i v,d.get i = some v → c.get i = some v) : ObjLe E (.cells c n e p r) (.cells d n e p r) :=
  ⟨fun _ _ _ _ ⟨m,k⟩ => ⟨m,k.shape,k.le,fun i v hi => k.lt i v (h i v hi),k.shut,k.room,fun i v hi => k.get i v (h i v hi),k.free,k.calm⟩,Iff.rfl,fun _ => trivial⟩

theorem orc_of_run {E : Env} {ih : K} (hih : KOK E ih) {f : FuncId} {g : List Value → SHeap → Except String (Value × SHeap)} (hg : ∀ (args : Array Value) h v h',(∀ b o,h.t.get b = some o → b < h.next) → g args.toList h = .ok (v,h') →
    ∃ h'',ih (.call f args .normal) h = .ok (v,h'') ∧ h''.next = h'.next ∧ ∀ b o,h'.t.get b = some o → ∃ o2,h''.t.get b = some o2 ∧ ObjLe E o2 o) : OrcOK E f g := by
  intro args h v h' hok ρ w hw hgr rargs ha c cs
  obtain ⟨h'',h1,h2,h3⟩ := hg args h v h' (fun b o hb => let ⟨r,κ,a,_⟩ := hw.live b o hb; hw.dom b _ a) hok
  obtain ⟨ρ',w',u,k1,k2,k3,k4⟩ := hih _ _ _ _ h1 ρ w hw hgr rargs ha c cs (.inl rfl)
  have hM : ∀ r,Mapped ρ' h' r → Mapped ρ' h'' r := fun r ⟨b,o,κ,a,e⟩ => let ⟨o2,b1,_⟩ := h3 b o a; ⟨b,o2,κ,b1,e⟩
  have hO : ∀ r,Own ρ' h' r → Own ρ' h'' r := fun r ⟨b,o,κ,a,e,n⟩ => let ⟨o2,b1,b2⟩ := h3 b o a; ⟨b,o2,κ,b1,e,b2.ro.1 n⟩
  refine ⟨ρ',w',u,k1,⟨fun b p hb => by have := k2.dom b p hb; omega,fun b o hb => ?_,fun b b' o o' r κ κ' hb hb' => ?_,k2.glob⟩,
    ⟨k3.le,k3.size,fun r hr hn => let ⟨a,e⟩ := k3.keep r hr hn; ⟨a,fun h => e (hO r h)⟩,k3.os,k3.output,k3.tape,fun r hr hn h => k3.fresh r hr hn (hM r h),k3.names,by have := k3.next; omega⟩,k4⟩
  · obtain ⟨o2,b1,b2⟩ := h3 b o hb
    obtain ⟨r,κ,c1,c2⟩ := k2.live b o2 b1
    exact ⟨r,κ,c1,b2.at_ _ _ _ _ c2⟩
  · obtain ⟨o2,b1,q⟩ := h3 b o hb
    obtain ⟨o2',b1',_⟩ := h3 b' o' hb'
    exact fun e1 e2 hs => k2.inj b b' o2 o2' r κ κ' b1 b1' e1 e2 (hs.imp q.sent id)

/-- a store of one number -/
theorem store_int {E : Env} {t b k n e : Nat} {o : Bool} {c : Tr Value} {ti : TI} {x : Int} {kd : IntKind} {h : SHeap} (ht : E.T t = some ti) (hs : ti.size = 1) (hb : h.t.get b = some (.cells c n e o false)) (hk : k < n) :
    opStore E t (some (.pointer (some ⟨b,k,none⟩))) (some (.int kd x)) h = .ok (.value (.tuple #[]),h.set b (some (.cells (c.put k (some (.int kd x))) n e o false))) := by
  unfold opStore storeAt
  simp only [ht,hb,hs,Value.cells]
  simp [storeRange,storeList,blt_of hk,force_eq,forceN_eq]
  rfl

theorem toL_nil {α : Type} {f n : Nat} : ((Tr.nil : Tr α).toL f n).isSome = true → n = 0 := by
  cases f <;> cases n <;> simp [Tr.toL]

/-- a row stays a row when a cell is written -/
theorem toL_put' {α : Type} {x : α} : ∀ (f : Nat) (t : Tr α) (n : Nat) (p : List Bool),(t.toL f n).isSome = true → ((t.put' (some x) p).toL f n).isSome = true
  | 0,t,n,p,h => by simp [Tr.toL] at h
  | f + 1,t,n,p,h => by
    cases n with
    | zero => simp [Tr.toL]
    | succ m =>
      cases t with
      | nil => simp [Tr.toL] at h
      | node l v r =>
        cases v with
        | none => simp [Tr.toL] at h
        | some y =>
          cases p with
          | nil =>
            simp only [Tr.put',Tr.toL] at h ⊢
            cases m with
            | zero => simp
            | succ k =>
              simp only at h ⊢
              cases hl : l.toL f (k / 2 + 1) with
              | none => rw [hl] at h; simp at h
              | some o =>
                rw [hl] at h
                cases k with
                | zero => simp
                | succ j =>
                  simp only at h ⊢
                  cases hr : r.toL f (j / 2 + 2) with
                  | none => rw [hr] at h; simp at h
                  | some e => cases e with
                    | nil => rw [hr] at h; simp at h
                    | cons => simp
          | cons b p =>
            have ll : (l.toL f (m / 2 + 1 - 1 + (if m % 2 = 1 then 1 else 0))).isSome = true → True := fun _ => trivial
            clear ll
            cases b with
            | true =>
              simp only [Tr.put',cond_true,force_eq,Tr.toL] at h ⊢
              cases m with
              | zero => simp
              | succ k =>
                simp only at h ⊢
                cases hl : l.toL f (k / 2 + 1) with
                | none => rw [hl] at h; simp at h
                | some o =>
                  have := toL_put' (x := x) f l (k / 2 + 1) p (by rw [hl]; rfl)
                  cases hl' : (Tr.put' (some x) p l).toL f (k / 2 + 1) with
                  | none => rw [hl'] at this; simp at this
                  | some o' =>
                    rw [hl] at h
                    cases k with
                    | zero => simp
                    | succ j =>
                      simp only at h ⊢
                      cases hr : r.toL f (j / 2 + 2) with
                      | none => rw [hr] at h; simp at h
                      | some e => cases e with
                        | nil => rw [hr] at h; simp at h
                        | cons => simp
            | false =>
              simp only [Tr.put',cond_false,force_eq,Tr.toL] at h ⊢
              cases m with
              | zero => simp
              | succ k =>
                simp only at h ⊢
                cases hl : l.toL f (k / 2 + 1) with
                | none => rw [hl] at h; simp at h
                | some o =>
                  rw [hl] at h
                  cases k with
                  | zero => simp
                  | succ j =>
                    simp only at h ⊢
                    cases hr : r.toL f (j / 2 + 2) with
                    | none => rw [hr] at h; simp at h
                    | some e => cases e with
                      | nil => rw [hr] at h; simp at h
                      | cons a e =>
                        have := toL_put' (x := x) f r (j / 2 + 2) p (by rw [hr]; rfl)
                        cases hr' : (Tr.put' (some x) p r).toL f (j / 2 + 2) with
                        | none => rw [hr'] at this; simp at this
                        | some e' => cases e' with
                          | nil =>
                            obtain ⟨hl2,_⟩ := toL_spec f _ _ _ hr'
                            simp at hl2
                          | cons => simp

theorem toL_put {α : Type} {x : α} {t : Tr α} {n k : Nat} (h : (t.toL 32 n).isSome = true) : ((t.put k (some x)).toL 32 n).isSome = true := by
  unfold Tr.put
  cases Nat.blt k lim with
  | true => exact toL_put' 32 t n _ h
  | false => exact h

theorem bqa : (true == true) = true := (id rfl)
theorem bqb : (false == true) = false := (id rfl)
theorem bqc : (true == false) = false := (id rfl)
theorem bqd : (false == false) = true := (id rfl)
end Go.Sim

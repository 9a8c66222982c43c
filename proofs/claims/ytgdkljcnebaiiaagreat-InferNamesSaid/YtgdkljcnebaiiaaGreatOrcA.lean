/- The simulator on code whose numbers are not known: laws of its steps. The simulator on zone.top. The simulator on Within. The simulator on Cons. The simulator on zone.sum. Drawn regions with effects, calls: laws for symbolic runs. -/
import Derived.Test.YtgdkljcnebaiiaaGreatEnvA
import Derived.Test.YtgdkljcnebaiiaaGreatMemA
set_option linter.unusedVariables false
set_option linter.unusedSimpArgs false
namespace Go.Sim
theorem bqa : (true == true) = true := (id rfl)
theorem bqb : (false == true) = false := (id rfl)
theorem bqc : (true == false) = false := (id rfl)
theorem bqd : (false == false) = true := (id rfl)

def cA : Code → Code | .seq a _ => a | c => c
def cB : Code → Code | .seq _ b => b | c => c
def cI : Code → Code | .block _ b => b | .loop b => b | .scope b => b | c => c
def cF (f : Func) : Code := f.body.getD .skip

theorem zbq {E : Env} {ih : K} {fx : Fx} {all : Array Oper} {st : St} : zeI E ih fx all [] st = .ok st := (id rfl)
theorem zbt {E : Env} {ih : K} {fx : Fx} {all : Array Oper} {dst : Option Tmp} {op : Op} {ty : TypeId} {pos : String} {after : Array Edge} {tm : Tr Value} {h : SHeap} {ds : List Deferred} :
  opS E ih fx all ⟨dst,op,ty,pos,after,none⟩ ⟨tm,h,ds⟩ = (match zaf op E (evT E.G tm) ⟨dst,op,ty,pos,after,none⟩ h with
   | .error e => .error (pos ++ "  " ++ e)
   | .ok out => zgI ih fx dst tm ds out) := (id rfl)
theorem zaK {ih : K} {fx : Fx} {dst : Option Tmp} {tm : Tr Value} {ds : List Deferred} {v : Value} {h : SHeap} : zgI ih fx dst tm ds (.value v,h) = .ok ⟨zce tm fx.nt dst v,h,ds⟩ := by
 obtain ⟨t,n⟩ := h
 simp only [zgI,zfe,zgq,zaA,zaY]
theorem zbb {tm : Tr Value} {nt : Nat} {d : Tmp} {v : Value} (h : d < nt) : zce tm nt (some d) v = tm.put d (some v) := by
 simp only [zce,zbI h,cond_true]
theorem zbc {tm : Tr Value} {nt : Nat} {v : Value} : zce tm nt none v = tm := (id rfl)

theorem zbo {m : Nat} (h : m < 9223372036854775808) : zbh .i64 (.ofNat m) = .ofNat m := by
 simp only [zbh,zbI h,cond_true]

theorem zgG {f : St → RS} {I : Nat → St → Prop} {N id : Nat} {Q : St → Prop} (hs : ∀ j st,j < N → I j st → ∃ st',f st = .ok (.normal,st') ∧ I (j + 1) st') (he : ∀ st,I N st → ∃ st',f st = .ok (.exit id,st') ∧ Q st') :
  ∀ (n fuel j : Nat) (st : St),N = j + n → n < fuel → I j st → ∃ st',zeX f fuel st = .ok (.exit id,st') ∧ Q st'
 | 0,0,j,st,hn,hf,hi => by omega
 | n + 1,0,j,st,hn,hf,hi => by omega
 | 0,fuel + 1,j,st,hn,hf,hi => by
  obtain rfl : N = j := by omega
  obtain ⟨st',h1,h2⟩ := he st hi
  exact ⟨st',by simp only [zeX,h1],h2⟩
 | n + 1,fuel + 1,j,st,hn,hf,hi => by
  obtain ⟨st',h1,h2⟩ := hs j st (by omega) hi
  obtain ⟨st'',h3,h4⟩ := zgG hs he n fuel (j + 1) st' (by omega) (by omega) h2
  exact ⟨st'',by simp only [zeX,h1]; exact h3,h4⟩

theorem zaQ {E : Env} {ih : K} {fx : Fx} {ops : Array Oper} {tm : Tr Value} {h : SHeap} {ds : List Deferred} : zoW ops false E ih fx ⟨tm,h,ds⟩ = zev (zeI E ih fx ops ops.toList ⟨tm,h,ds⟩) := (id rfl)
theorem zbs {E : Env} {ih : K} {fx : Fx} {a b : CD} {tm : Tr Value} {h : SHeap} {ds : List Deferred} : zxL a b E ih fx ⟨tm,h,ds⟩ = zjm (a E ih fx ⟨tm,h,ds⟩) (b E ih fx) := (id rfl)
theorem zaT {E : Env} {ih : K} {fx : Fx} {i : Nat} {b : CD} {tm : Tr Value} {h : SHeap} {ds : List Deferred} : zrM i b E ih fx ⟨tm,h,ds⟩ = zfT i (b E ih fx ⟨tm,h,ds⟩) := (id rfl)
theorem zbk {E : Env} {ih : K} {fx : Fx} {tm : Tr Value} {h : SHeap} {ds : List Deferred} : znv E ih fx ⟨tm,h,ds⟩ = .ok (.normal,⟨tm,h,ds⟩) := (id rfl)
theorem zbS {E : Env} {ih : K} {fx : Fx} {tm : Tr Value} {h : SHeap} {ds : List Deferred} : zyB E ih fx ⟨tm,h,ds⟩ = .ok (.ret,⟨tm,h,ds⟩) := (id rfl)
theorem zby {E : Env} {ih : K} {fx : Fx} {i : Nat} {tm : Tr Value} {h : SHeap} {ds : List Deferred} : zup i E ih fx ⟨tm,h,ds⟩ = .ok (.exit i,⟨tm,h,ds⟩) := (id rfl)
theorem zbx {E : Env} {ih : K} {fx : Fx} {b : CD} {tm : Tr Value} {h : SHeap} {ds : List Deferred} : zuL b E ih fx ⟨tm,h,ds⟩ = zeX (b E ih fx) 1000000 ⟨tm,h,ds⟩ := (id rfl)
theorem zbj {E : Env} {ih : K} {fx : Fx} {c : Operand} {a b : CD} {tm : Tr Value} {h : SHeap} {ds : List Deferred} : zuA c a b E ih fx ⟨tm,h,ds⟩ = (match evT E.G tm c with
 | some (.bool t) => match t with | true => a E ih fx ⟨tm,h,ds⟩ | false => b E ih fx ⟨tm,h,ds⟩
 | _ => .error "cond") := (id rfl)
theorem zaE {st : St} {k : St → RS} : zjm (.ok (.normal,st)) k = k st := (id rfl)
theorem zbl {st : St} {i : Nat} {k : St → RS} : zjm (.ok (.exit i,st)) k = .ok (.exit i,st) := (id rfl)
theorem zbH {st : St} {k : St → RS} : zjm (.ok (.ret,st)) k = .ok (.ret,st) := (id rfl)
theorem zaB {st : St} {i : Nat} : zfT i (.ok (.normal,st)) = .ok (.normal,st) := (id rfl)
theorem zaS {st : St} {i : Nat} : zfT i (.ok (.ret,st)) = .ok (.ret,st) := (id rfl)
theorem zaJ {st : St} {i j : Nat} : zfT i (.ok (.exit j,st)) = bif Nat.beq j i then .ok (.normal,st) else .ok (.exit j,st) := (id rfl)
theorem zaU {st : St} : zev (.ok st) = .ok (.normal,st) := (id rfl)
theorem zbr {E : Env} {ih : K} {fx : Fx} {all : Array Oper} {o : Oper} {r : List Oper} {tm : Tr Value} {h : SHeap} {ds : List Deferred} : zeI E ih fx all (o :: r) ⟨tm,h,ds⟩ = (match opS E ih fx all o ⟨tm,h,ds⟩ with | .error e => .error e | .ok st => zeI E ih fx all r st) := (id rfl)
theorem zbO {G : Nat} {tm : Tr Value} {t : Tmp} : evT G tm (.tmp t) = tm.get t := (id rfl)
theorem zbM {G : Nat} {tm : Tr Value} {k : IntKind} {n : Int} : evT G tm (.const (.int k n)) = some (.int k n) := (id rfl)
theorem zbU {G : Nat} {tm : Tr Value} {b : Bool} : evT G tm (.const (.bool b)) = some (.bool b) := (id rfl)
theorem zfp {E : Env} {ev : Ev} {o : Oper} {op : BinOp} {t : TypeId} {x y : Int} {h : SHeap} (hs : zon op = false) : zem E ev o op t (some (.int .i64 x)) (some (.int .i64 y)) h = zlu E ev o (zcE op .i64 x y) h := by
 simp only [zem,hs,cond_false,if_true]
theorem zbP {E : Env} {ev : Ev} {o : Oper} {t : TypeId} {x y : Int} {h : SHeap} : zem E ev o .lss t (some (.int .i64 x)) (some (.int .i64 y)) h = .ok (.value (.bool (decide (x < y))),h) := zfp rfl
theorem zaM {b o n : Nat} : zbN ⟨b,o,none⟩ n = ⟨b,o + n,none⟩ := by
 unfold zbN
 split
 ·rename_i h; subst h; rfl
 ·rfl
theorem zbp {k : IntKind} {n : Nat} : zeY (.int k (.ofNat n)) = some n := (id rfl)
theorem zcn {E : Env} {ev : Ev} {o : Oper} {t : TypeId} {x y : Int} {h : SHeap} : zem E ev o .gtr t (some (.int .i64 x)) (some (.int .i64 y)) h = .ok (.value (.bool (decide (x > y))),h) := zfp rfl
theorem zft {E : Env} {ev : Ev} {o : Oper} {t : TypeId} {x y : Int} {h : SHeap} : zem E ev o .neq t (some (.int .i64 x)) (some (.int .i64 y)) h = .ok (.value (.bool (x != y)),h) := zfp rfl
theorem zbV {E : Env} {ev : Ev} {o : Oper} {t : TypeId} {x y : Int} {h : SHeap} : zem E ev o .add t (some (.int .i64 x)) (some (.int .i64 y)) h = .ok (.value (.int .i64 (zbh .i64 (x + y))),h) := zfp rfl

theorem zbB {E : Env} {n f : Nat} {args : Array Value} {h : SHeap} (hO : E.O f = none) : run E (n + 1) (.call f args .normal) h = zgH E (run E n) f args .normal h := by
 show zih E (run E n) _ h = _
 unfold zih
 simp only [hO]
theorem ztY {E : Env} {ih : K} {f : FuncId} {args : Array Value} {k : CallKind} {h : SHeap} {fd : Func} {c : Code} (hF : E.F f = some fd) (hb : fd.body = some c) : zgH E ih f args k h =
  (match zad c E ih ⟨f,max fd.ntmps args.size,k,none⟩ ⟨Tr.ofL 33 args.toList,h,[]⟩ with
   | .error e => .error e
   | .ok (o,st) => match o with
    | .exit _ => .error "exit  no such block"
    | _ => zeO E ih fd st) := by
 unfold zgH
 simp only [hF,hb]
 rfl
theorem zaW {E : Env} {ih : K} {f : FuncId} {args : Array Value} {k : CallKind} {h h' : SHeap} {fd : Func} {c : Code} {nt : Nat} {al vs : List Value} {tm' : Tr Value} {rv : List ResultVar} (hF : E.F f = some fd) (hb : fd.body = some c) (hn : max fd.ntmps args.size = nt) (ha : args.toList = al)
  (hv : fd.results.toList = rv) (hc : zad c E ih ⟨f,nt,k,none⟩ ⟨Tr.ofL 33 al,h,[]⟩ = .ok (.ret,⟨tm',h',[]⟩)) (hr : zaV E tm' h' rv = .ok vs) : zgH E ih f args k h = .ok (ziV vs,h') := by
 subst hn ha hv
 rw [ztY hF hb,hc]
 simp only [zeO,zfW,hr]
def zDT : Code → Array Oper | .region _ ops _ => ops | _ => #[]
theorem zcC {f : St → RS} {I : Nat → St → Prop} {N : Nat} {P : Out → St → Prop} (hs : ∀ j st,j < N → I j st → (∃ st',f st = .ok (.normal,st') ∧ I (j + 1) st') ∨ (∃ o st',o ≠ .normal ∧ f st = .ok (o,st') ∧ P o st')) (he : ∀ st,I N st → ∃ o st',o ≠ .normal ∧ f st = .ok (o,st') ∧ P o st') :
  ∀ (n fuel j : Nat) (st : St),N = j + n → n < fuel → I j st → ∃ o st',o ≠ .normal ∧ zeX f fuel st = .ok (o,st') ∧ P o st' := by
 have out : ∀ fuel st o st',o ≠ .normal → f st = .ok (o,st') → zeX f (fuel + 1) st = .ok (o,st') := by
  intro fuel st o st' ho hf
  cases o with
  | normal => exact absurd rfl ho
  | exit => simp only [zeX,hf]
  | ret => simp only [zeX,hf]
 intro n
 induction n with
 | zero =>
  intro fuel j st hn hf hi
  obtain rfl : N = j := by omega
  obtain ⟨o,st',h1,h2,h3⟩ := he st hi
  cases fuel with
  | zero => omega
  | succ fuel => exact ⟨o,st',h1,out _ _ _ _ h1 h2,h3⟩
 | succ n ihn =>
  intro fuel j st hn hf hi
  cases fuel with
  | zero => omega
  | succ fuel =>
   rcases hs j st (by omega) hi with ⟨st',h1,h2⟩ | ⟨o,st',h1,h2,h3⟩
   ·obtain ⟨o,st'',k1,k2,k3⟩ := ihn fuel (j + 1) st' (by omega) (by omega) h2
    exact ⟨o,st'',k1,by simp only [zeX,h1]; exact k2,k3⟩
   ·exact ⟨o,st',h1,out _ _ _ _ h1 h2,h3⟩

theorem zaZ {E : Env} {ih : K} {fx : Fx} {ops : Array Oper} {tm : Tr Value} {h : SHeap} {ds : List Deferred} : zoW ops true E ih fx ⟨tm,h,ds⟩ = zhc E ih fx ops ⟨tm,h,ds⟩ := (id rfl)
theorem zws {E : Env} {ih : K} {fx : Fx} {ops : Array Oper} {tm : Tr Value} {h : SHeap} {ds : List Deferred} {steps : List PStep} {m : Nat} (hp : zdp E ops.toList = some ⟨steps,m,0⟩) (hn : h.next ≤ lim) :
  zhc E ih fx ops ⟨tm,h,ds⟩ = (match zdD E ih ops fx.nt h.next steps ⟨[h],tm,h,[]⟩ with
   | .error e => .error e
   | .ok ph => zev (zeI E ih fx ops (ops.toList.drop m) ⟨ph.tm,ph.h,ds⟩)) := by
 obtain ⟨t,n⟩ := h
 have hn : Nat.ble n lim = true := by rw [Nat.ble_eq]; exact hn
 simp only [zhc,hp,Nat.add_zero,hn,cond_true]
 cases zdD E ih ops fx.nt n steps ⟨[⟨t,n⟩],tm,⟨t,n⟩,[]⟩ <;> rfl
theorem zco {E : Env} {ih : K} {fx : Fx} {l : List Oper} {tm : Tr Value} {h : SHeap} {ds : List Deferred} {steps : List PStep} {m : Nat} (hp : zdp E l = some ⟨steps,m,0⟩) (hn : h.next ≤ lim) :
  zhc E ih fx l.toArray ⟨tm,h,ds⟩ = (match zdD E ih l.toArray fx.nt h.next steps ⟨[h],tm,h,[]⟩ with
   | .error e => .error e
   | .ok ph => zev (zeI E ih fx l.toArray (l.drop m) ⟨ph.tm,ph.h,ds⟩)) := zws hp hn
theorem zbD {E : Env} {ih : K} {all : Array Oper} {nt base : Nat} {ph : Ph} : zdD E ih all nt base [] ph = .ok ph := (id rfl)
theorem zbn {E : Env} {ih : K} {all : Array Oper} {nt base : Nat} {s : PStep} {r : List PStep} {ph : Ph} : zdD E ih all nt base (s :: r) ph = (match zcl E ih all nt base s ph with
  | .error e => .error e
  | .ok ph => zdD E ih all nt base r ph) := by
 simp only [zdD]
 cases zcl E ih all nt base s ph with
 | error e => rfl
 | ok ph =>
  obtain ⟨a,b,⟨c,d⟩,e⟩ := ph
  simp only [zuC,zaA,zaY]
theorem zvw {E : Env} {ih : K} {all : Array Oper} {nt base i lo : Nat} {heaps : List SHeap} {tm : Tr Value} {h : SHeap} {cur : List Nat} {o : Oper} (ho : all[i]? = some o) (hg : o.guard = none) :
  zcl E ih all nt base ⟨i,.pure,lo⟩ ⟨heaps,tm,h,cur⟩ = (match zey (zcZ E (evT E.G tm) o zii) with
   | .ok v => .ok ⟨heaps,zce tm nt o.dst v,h,cur⟩
   | .error e => .error e) := by
 simp only [zcl,ho,hg,zak,PKind.isEff,cond_false,zhA]
 cases zey (zcZ E (evT E.G tm) o zii) <;> rfl
theorem zud {E : Env} {ih : K} {all : Array Oper} {nt base i : Nat} {hh : SHeap} {tm : Tr Value} {h : SHeap} {cur : List Nat} {o : Oper} (ho : all[i]? = some o) (hg : o.guard = none) :
  zcl E ih all nt base ⟨i,.read,0⟩ ⟨[hh],tm,h,cur⟩ = (match zey (zcZ E (evT E.G tm) o hh) with
   | .ok v => .ok ⟨[hh],zce tm nt o.dst v,h,cur⟩
   | .error e => .error e) := by
 simp only [zcl,ho,hg,zak,PKind.isEff,cond_false,zhA]
 cases zey (zcZ E (evT E.G tm) o hh) <;> rfl
theorem zbm {E : Env} {ih : K} {l : List Oper} {nt base i lo : Nat} {heaps : List SHeap} {tm : Tr Value} {h : SHeap} {cur : List Nat} :
  zcl E ih l.toArray nt base ⟨i,.pure,lo⟩ ⟨heaps,tm,h,cur⟩ = (match l[i]? with
   | none => .error "draw  no operation"
   | some ⟨dst,op,ty,pos,after,g⟩ => match g with
    | none => (match zey (zaf op E (evT E.G tm) ⟨dst,op,ty,pos,after,none⟩ zii) with
     | .ok v => .ok ⟨heaps,zce tm nt dst v,h,cur⟩
     | .error e => .error e)
    | some _ => zcl E ih l.toArray nt base ⟨i,.pure,lo⟩ ⟨heaps,tm,h,cur⟩) := by
 rcases ho : l[i]? with _ | ⟨dst,op,ty,pos,after,g⟩
 ·simp only [zcl,List.getElem?_toArray,ho]
 ·cases g with
  | none => exact zvw (all := l.toArray) (o := ⟨dst,op,ty,pos,after,none⟩) (by rw [List.getElem?_toArray]; exact ho) rfl
  | some _ => rfl
theorem zbF {E : Env} {ih : K} {l : List Oper} {nt base i : Nat} {hh : SHeap} {tm : Tr Value} {h : SHeap} {cur : List Nat} :
  zcl E ih l.toArray nt base ⟨i,.read,0⟩ ⟨[hh],tm,h,cur⟩ = (match l[i]? with
   | none => .error "draw  no operation"
   | some ⟨dst,op,ty,pos,after,g⟩ => match g with
    | none => (match zey (zaf op E (evT E.G tm) ⟨dst,op,ty,pos,after,none⟩ hh) with
     | .ok v => .ok ⟨[hh],zce tm nt dst v,h,cur⟩
     | .error e => .error e)
    | some _ => zcl E ih l.toArray nt base ⟨i,.read,0⟩ ⟨[hh],tm,h,cur⟩) := by
 rcases ho : l[i]? with _ | ⟨dst,op,ty,pos,after,g⟩
 ·simp only [zcl,List.getElem?_toArray,ho]
 ·cases g with
  | none => exact zud (all := l.toArray) (o := ⟨dst,op,ty,pos,after,none⟩) (by rw [List.getElem?_toArray]; exact ho) rfl
  | some _ => rfl
theorem zbK {E : Env} {ev : Ev} {dst : Option Tmp} {op : Op} {ty : TypeId} {pos : String} {after : Array Edge} {g : Option (Nat × Bool)} {h : SHeap} : zcZ E ev ⟨dst,op,ty,pos,after,g⟩ h = zaf op E ev ⟨dst,op,ty,pos,after,g⟩ h := (id rfl)
theorem zbu {v : Value} {h : SHeap} : zey (.ok (.value v,h)) = .ok v := (id rfl)
theorem zba {a : Addr} {h : SHeap} : zjp (some (.pointer (some a))) h = .ok (.value (.pointer (some a)),h) := (id rfl)
theorem zcB {a b : Option Value} {h : SHeap} : znS (some (.bool true)) a b h = zan a h := (id rfl)
theorem zca {a b : Option Value} {h : SHeap} : znS (some (.bool false)) a b h = zan b h := (id rfl)
theorem zch {E : Env} {t b k n e : Nat} {o r : Bool} {c : Tr Value} {ti : TI} {v : Value} {h : SHeap} (ht : E.T t = some ti) (hs : ti.agg = false) (hb : h.t.get b = some (.cells c n e o r)) (hk : c.get k = some v) :
  zbw E t (some (.pointer (some ⟨b,k,none⟩))) h = .ok (.value v,h) := by
 unfold zbw loadAt
 simp only [ht,hb,hs,hk]
 rfl
theorem zcz {E : Env} {ih : K} {fx : Fx} {all : Array Oper} {dst : Option Tmp} {op : Op} {ty : TypeId} {pos : String} {after : Array Edge} {g : Nat × Bool} {tm : Tr Value} {h : SHeap} {ds : List Deferred} :
  opS E ih fx all ⟨dst,op,ty,pos,after,some g⟩ ⟨tm,h,ds⟩ = (match zak all tm (some g) with
   | none => .error "guard"
   | some false => .ok ⟨zce tm fx.nt dst (.tuple #[]),h,ds⟩
   | some true => match zaf op E (evT E.G tm) ⟨dst,op,ty,pos,after,some g⟩ h with
    | .error e => .error (pos ++ "  " ++ e)
    | .ok out => zgI ih fx dst tm ds out) := by
 obtain ⟨t,n⟩ := h
 simp only [opS]
 cases zak all tm (some g) with
 | none => rfl
 | some b => cases b with
  | true => rfl
  | false => simp only [zgq,zaA,zaY]

theorem zdt : ∀ {l : List Value} {k : Nat},zbg l = true → k < l.length → ∃ x,l[k]? = some (.int .i64 x)
 | [],k,_,hk => by simp at hk
 | v :: r,k,h,hk => by
  unfold zbg at h
  split at h
  ·split at h
   ·cases k with
    | zero => exact ⟨_,rfl⟩
    | succ k => simpa using zdt h (by simpa using hk)
   ·simp at h
  ·simp at h
theorem zta {l m : List Value} {k : Nat} {x y : Int} (hl : l[k]? = some (.int .i64 x)) (hm : m[k]? = some (.int .i64 y)) : zcc (l.drop k) (m.drop k) = bif decide (x ≤ y) then zcc (l.drop (k + 1)) (m.drop (k + 1)) else false := by
 have d : ∀ {l : List Value} {v : Value},l[k]? = some v → l.drop k = v :: l.drop (k + 1) := by
  intro l v h
  have hk : k < l.length := by
   rcases Nat.lt_or_ge k l.length with h' | h'
   ·exact h'
   ·rw [List.getElem?_eq_none h'] at h; simp at h
  rw [List.drop_eq_getElem_cons hk]
  rw [List.getElem?_eq_getElem hk] at h
  rw [Option.some.inj h]
 rw [d hl,d hm]
 simp only [zcc]

structure ObjLe (E : Env) (o2 o : SObj) : Prop where
 at_ : ∀ ρ w r κ,zcj E ρ w r κ o2 → zcj E ρ w r κ o
 ro : zee o ↔ zee o2
 sent : zfx o → zfx o2
theorem ObjLe.refl {E : Env} (o : SObj) : ObjLe E o o := ⟨fun _ _ _ _ h => h,Iff.rfl,id⟩
theorem ObjLe.cells {E : Env} {c d : Tr Value} {n e : Nat} {p r : Bool} (h : ∀ i v,d.get i = some v → c.get i = some v) : ObjLe E (.cells c n e p r) (.cells d n e p r) :=
 ⟨fun _ _ _ _ ⟨m,k⟩ => ⟨m,k.shape,k.le,fun i v hi => k.lt i v (h i v hi),k.shut,k.room,fun i v hi => k.get i v (h i v hi),k.free,k.calm⟩,Iff.rfl,fun _ => trivial⟩

theorem zcG {E : Env} {ih : K} (hih : KOK E ih) {f : FuncId} {g : List Value → SHeap → Except String (Value × SHeap)} (hg : ∀ (args : Array Value) h v h',(∀ b o,h.t.get b = some o → b < h.next) → g args.toList h = .ok (v,h') →
  ∃ h'',ih (.call f args .normal) h = .ok (v,h'') ∧ h''.next = h'.next ∧ ∀ b o,h'.t.get b = some o → ∃ o2,h''.t.get b = some o2 ∧ ObjLe E o2 o) : zaN E f g := by
 intro args h v h' hok ρ w hw hgr rargs ha c cs
 obtain ⟨h'',h1,h2,h3⟩ := hg args h v h' (fun b o hb => let ⟨r,κ,a,_⟩ := hw.live b o hb; hw.dom b _ a) hok
 obtain ⟨ρ',w',u,k1,k2,k3,k4⟩ := hih _ _ _ _ h1 ρ w hw hgr rargs ha c cs (.inl rfl)
 have hM : ∀ r,zcm ρ' h' r → zcm ρ' h'' r := fun r ⟨b,o,κ,a,e⟩ => let ⟨o2,b1,_⟩ := h3 b o a; ⟨b,o2,κ,b1,e⟩
 have hO : ∀ r,Own ρ' h' r → Own ρ' h'' r := fun r ⟨b,o,κ,a,e,n⟩ => let ⟨o2,b1,b2⟩ := h3 b o a; ⟨b,o2,κ,b1,e,b2.ro.1 n⟩
 refine ⟨ρ',w',u,k1,⟨fun b p hb => by have := k2.dom b p hb; omega,fun b o hb => ?_,fun b b' o o' r κ κ' hb hb' => ?_,k2.glob⟩,
  ⟨k3.le,k3.size,fun r hr hn => let ⟨a,e⟩ := k3.keep r hr hn; ⟨a,fun h => e (hO r h)⟩,k3.os,k3.output,k3.tape,fun r hr hn h => k3.fresh r hr hn (hM r h),k3.names,by have := k3.next; omega⟩,k4⟩
 ·obtain ⟨o2,b1,b2⟩ := h3 b o hb
  obtain ⟨r,κ,c1,c2⟩ := k2.live b o2 b1
  exact ⟨r,κ,c1,b2.at_ _ _ _ _ c2⟩
 ·obtain ⟨o2,b1,q⟩ := h3 b o hb
  obtain ⟨o2',b1',_⟩ := h3 b' o' hb'
  exact fun e1 e2 hs => k2.inj b b' o2 o2' r κ κ' b1 b1' e1 e2 (hs.imp q.sent id)

theorem zia {E : Env} {t b k n e : Nat} {o : Bool} {c : Tr Value} {ti : TI} {x : Int} {kd : IntKind} {h : SHeap} (ht : E.T t = some ti) (hs : ti.size = 1) (hb : h.t.get b = some (.cells c n e o false)) (hk : k < n) :
  zcY E t (some (.pointer (some ⟨b,k,none⟩))) (some (.int kd x)) h = .ok (.value (.tuple #[]),h.set b (some (.cells (c.put k (some (.int kd x))) n e o false))) := by
 unfold zcY storeAt
 simp only [ht,hb,hs,Value.cells]
 simp [zdg,zcy,zbI hk,zaA,zaY]
 rfl

theorem zmw {α : Type} {x : α} : ∀ (f : Nat) (t : Tr α) (n : Nat) (p : List Bool),(t.toL f n).isSome = true → ((t.put' (some x) p).toL f n).isSome = true
 | 0,t,n,p,h => by simp [Tr.toL] at h
 | f + 1,t,n,p,h => by
  cases n with
  | zero => simp [Tr.toL]
  | succ m =>
   cases t with
   | nil => simp [Tr.toL] at h
   | node l v r =>
    cases v with
    | none => simp [Tr.toL] at h
    | some y =>
     cases p with
     | nil =>
      simp only [Tr.put',Tr.toL] at h ⊢
      cases m with
      | zero => simp
      | succ k =>
       simp only at h ⊢
       cases hl : l.toL f (k / 2 + 1) with
       | none => rw [hl] at h; simp at h
       | some o =>
        rw [hl] at h
        cases k with
        | zero => simp
        | succ j =>
         simp only at h ⊢
         cases hr : r.toL f (j / 2 + 2) with
         | none => rw [hr] at h; simp at h
         | some e => cases e with
          | nil => rw [hr] at h; simp at h
          | cons => simp
     | cons b p =>
      have ll : (l.toL f (m / 2 + 1 - 1 + (if m % 2 = 1 then 1 else 0))).isSome = true → True := fun _ => trivial
      clear ll
      cases b with
      | true =>
       simp only [Tr.put',cond_true,zaA,Tr.toL] at h ⊢
       cases m with
       | zero => simp
       | succ k =>
        simp only at h ⊢
        cases hl : l.toL f (k / 2 + 1) with
        | none => rw [hl] at h; simp at h
        | some o =>
         have := zmw (x := x) f l (k / 2 + 1) p (by rw [hl]; rfl)
         cases hl' : (Tr.put' (some x) p l).toL f (k / 2 + 1) with
         | none => rw [hl'] at this; simp at this
         | some o' =>
          rw [hl] at h
          cases k with
          | zero => simp
          | succ j =>
           simp only at h ⊢
           cases hr : r.toL f (j / 2 + 2) with
           | none => rw [hr] at h; simp at h
           | some e => cases e with
            | nil => rw [hr] at h; simp at h
            | cons => simp
      | false =>
       simp only [Tr.put',cond_false,zaA,Tr.toL] at h ⊢
       cases m with
       | zero => simp
       | succ k =>
        simp only at h ⊢
        cases hl : l.toL f (k / 2 + 1) with
        | none => rw [hl] at h; simp at h
        | some o =>
         rw [hl] at h
         cases k with
         | zero => simp
         | succ j =>
          simp only at h ⊢
          cases hr : r.toL f (j / 2 + 2) with
          | none => rw [hr] at h; simp at h
          | some e => cases e with
           | nil => rw [hr] at h; simp at h
           | cons a e =>
            have := zmw (x := x) f r (j / 2 + 2) p (by rw [hr]; rfl)
            cases hr' : (Tr.put' (some x) p r).toL f (j / 2 + 2) with
            | none => rw [hr'] at this; simp at this
            | some e' => cases e' with
             | nil =>
              obtain ⟨hl2,_⟩ := zhS f _ _ _ hr'
              simp at hl2
             | cons => simp

theorem zBK {α : Type} {x : α} {t : Tr α} {n k : Nat} (h : (t.toL 32 n).isSome = true) : ((t.put k (some x)).toL 32 n).isSome = true := by
 unfold Tr.put
 cases Nat.blt k lim with
 | true => exact zmw 32 t n _ h
 | false => exact h

end Go.Sim

set_option linter.unusedSimpArgs false
set_option linter.unusedVariables false
namespace Go.Proofs.YtgdkljcnebaiiaaGreat
open Go Go.Sim
set_option maxRecDepth 100000
variable {O : Nat → Option (List Value → SHeap → Except String (Value × SHeap))} {ih : K} {ds : List Deferred}

noncomputable def zeN : Code := cI (cI (cB (cA (cB (cB (cF Tryz.f192))))))
noncomputable def zhX : Code := cI (cI (cB (cB (cI (cA (cB (cB zeN)))))))

theorem zyR : Tab.types.get 274 = some ⟨.array 60 3,60,Tab.t274.bytes,Tab.t274.zero⟩ := by kernel_rfl
theorem zCi : Tab.types.get 276 = some ⟨.array 60 274,3600,Tab.t276.bytes,Tab.t276.zero⟩ := by kernel_rfl
theorem T3 : Tab.types.get 3 = some ⟨.int .i64,1,Tab.t3.bytes,Tab.t3.zero⟩ := by kernel_rfl

theorem E3 : (Eo O).T 3 = some ⟨.int .i64,1,Tab.t3.bytes,Tab.t3.zero⟩ := T3
theorem zHA : (Eo O).T 274 = some ⟨.array 60 3,60,Tab.t274.bytes,Tab.t274.zero⟩ := zyR
theorem zoF : (Eo O).T 276 = some ⟨.array 60 274,3600,Tab.t276.bytes,Tab.t276.zero⟩ := zCi
theorem zcF {a : Addr} {i : Nat} {h : SHeap} (hi : i < 60) : zcK (Eo O) ((Eo O).T 276) (some (.pointer (some a))) (some i) h = zao (.pointer (some (zbN a (i * 60)))) h := by
 show zcK (Eo O) (Tab.types.get 276) _ _ _ = _
 rw [zCi]
 show zcI (Eo O) 274 60 a i h = _
 unfold zcI
 rw [show (Eo O).T 274 = Tab.types.get 274 from rfl,zyR]
 simp only [zbI hi,cond_true]
theorem zcM {a : Addr} {i : Nat} {h : SHeap} (hi : i < 60) : zcK (Eo O) ((Eo O).T 274) (some (.pointer (some a))) (some i) h = zao (.pointer (some (zbN a i))) h := by
 show zcK (Eo O) (Tab.types.get 274) _ _ _ = _
 rw [zyR]
 show zcI (Eo O) 3 60 a i h = _
 unfold zcI
 rw [show (Eo O).T 3 = Tab.types.get 3 from rfl,T3]
 simp only [zbI hi,cond_true,Nat.mul_one]

structure TopI (ds : List Deferred) (i j : Nat) (st : St) : Prop where
 ds : st.defers = ds
 t0 : st.tm.get 0 = some (.pointer (some ⟨0,0,none⟩))
 t1 : st.tm.get 1 = some (.pointer (some ⟨1,0,none⟩))
 t4 : st.tm.get 4 = some (.int .i64 (.ofNat i))
 t2 : st.tm.get 2 = some (.int .i64 (.ofNat i))
 t7 : st.tm.get 7 = some (.int .i64 (.ofNat j))
 next : st.h.next = 2
 h2 : ∃ z,st.h.t.get 0 = some (.cells z 3600 276 false false)
 h3 : ∃ c,st.h.t.get 1 = some (.cells c 3600 276 false false) ∧ (c.toL 32 3600).isSome = true ∧
  ∀ k,k < 3600 → c.get k = some (.int .i64 (if k < i * 60 + j ∧ k / 60 ≠ k % 60 then 2305843009213693952 else 0))

theorem zGu (i j : Nat) (hi : i < 60) (hj : j < 60) (st : St) (hI : TopI ds i j st) :
  ∃ st',zad zhX (Eo O) ih ⟨192,20,.normal,none⟩ st = .ok (.normal,st') ∧ TopI ds i (j + 1) st' := by
 obtain ⟨tm,h,dd⟩ := st
 obtain ⟨hd,h0,h1,h4,h2,h7,hn,⟨z,hz⟩,c,hc,hs,hg⟩ := hI
 simp only at hd h0 h1 h4 h2 h7 hn hz hc
 have hj' : decide (Int.ofNat j < 60) = true := by simp; omega
 have hj2 : zbh .i64 (Int.ofNat j + 1) = .ofNat (j + 1) := zbo (m := j + 1) (by omega)
 have hlt : 0 + i * 60 + j < 3600 := by omega
 generalize hr : zad zhX (Eo O) ih ⟨192,20,.normal,none⟩ ⟨tm,h,dd⟩ = r
 unfold zhX zeN at hr
 by_cases hne : i = j
 ·have hne' : (Int.ofNat i != Int.ofNat j) = false := by simp [hne]
  simp only [Tryz.f192,cF,Option.getD,cA,cB,cI,zad,zbs,zbj,zaQ,zaT,zbk,zbq,zbr,zbt,zaE,zaB,zaU,zaf,zaq,zan,zbO,zbM,zax,zbP,zft,zbV,zao,zaK,zbb,zbc,zaa,lim,Nat.reduceLT,Nat.reduceEqDiff,and_true,if_true,if_false,reduceIte,false_and,true_and,
   zag,zar,Option.bind_some,zbp,zaM,
   h1,h2,h7,hj',hne',hj2,zcF hi,zcM hj,zia (E := Eo O) E3 rfl hc hlt] at hr
  subst hr
  refine ⟨_,rfl,?_⟩
  refine ⟨hd,?_,?_,?_,?_,?_,hn,⟨z,hz⟩,c,hc,hs,fun k hk => ?_⟩
  ·simp [zaa,lim,h0]
  ·simp [zaa,lim,h1]
  ·simp [zaa,lim,h4]
  ·simp [zaa,lim,h2]
  ·simp [zaa,lim]
  ·rw [hg k hk]
   congr 2
   by_cases e : k = i * 60 + j
   ·rw [if_neg (by omega),if_neg (by omega)]
   ·have : (k < i * 60 + (j + 1)) ↔ (k < i * 60 + j) := by omega
    simp only [this]
 ·have hne' : (Int.ofNat i != Int.ofNat j) = true := by simp; omega
  simp only [Tryz.f192,cF,Option.getD,cA,cB,cI,zad,zbs,zbj,zaQ,zaT,zbk,zbq,zbr,zbt,zaE,zaB,zaU,zaf,zaq,zan,zbO,zbM,zax,zbP,zft,zbV,zao,zaK,zbb,zbc,zaa,lim,Nat.reduceLT,Nat.reduceEqDiff,and_true,if_true,if_false,reduceIte,false_and,true_and,
   zag,zar,Option.bind_some,zbp,zaM,
   h1,h2,h7,hj',hne',hj2,zcF hi,zcM hj,zia (E := Eo O) E3 rfl hc hlt] at hr
  subst hr
  refine ⟨_,rfl,?_⟩
  refine ⟨hd,?_,?_,?_,?_,?_,hn,⟨z,?_⟩,c.put (0 + i * 60 + j) (some (.int .i64 2305843009213693952)),?_,zBK hs,fun k hk => ?_⟩
  ·simp [zaa,lim,h0]
  ·simp [zaa,lim,h1]
  ·simp [zaa,lim,h4]
  ·simp [zaa,lim,h2]
  ·simp [zaa,lim]
  ·simp [SHeap.set,zaa,lim,hz]
  ·simp [SHeap.set,zaa,lim]
  ·rw [zaa]
   by_cases e : k = 0 + i * 60 + j
   ·rw [if_pos ⟨e,by unfold lim; omega⟩,if_pos (by omega)]
   ·rw [if_neg (by omega),hg k hk]
    congr 2
    have : (k < i * 60 + (j + 1)) ↔ (k < i * 60 + j) := by omega
    simp only [this]

structure TopO (ds : List Deferred) (i : Nat) (st : St) : Prop where
 ds : st.defers = ds
 t0 : st.tm.get 0 = some (.pointer (some ⟨0,0,none⟩))
 t1 : st.tm.get 1 = some (.pointer (some ⟨1,0,none⟩))
 t4 : st.tm.get 4 = some (.int .i64 (.ofNat i))
 next : st.h.next = 2
 h2 : ∃ z,st.h.t.get 0 = some (.cells z 3600 276 false false)
 h3 : ∃ c,st.h.t.get 1 = some (.cells c 3600 276 false false) ∧ (c.toL 32 3600).isSome = true ∧
  ∀ k,k < 3600 → c.get k = some (.int .i64 (if k < i * 60 ∧ k / 60 ≠ k % 60 then 2305843009213693952 else 0))

theorem zvg (i : Nat) (st : St) (hI : TopI ds i 60 st) : ∃ st',zad zhX (Eo O) ih ⟨192,20,.normal,none⟩ st = .ok (.exit 2,st') ∧ TopO ds (i + 1) { st' with tm := st'.tm.put 4 (some (.int .i64 (.ofNat (i + 1)))) } ∧ st'.tm.get 4 = some (.int .i64 (.ofNat i)) := by
 obtain ⟨tm,h,dd⟩ := st
 obtain ⟨hd,h0,h1,h4,h2,h7,hn,⟨z,hz⟩,c,hc,hs,hg⟩ := hI
 simp only at hd h0 h1 h4 h2 h7 hn hz hc
 have hj' : decide (Int.ofNat 60 < 60) = false := by decide
 generalize hr : zad zhX (Eo O) ih ⟨192,20,.normal,none⟩ ⟨tm,h,dd⟩ = r
 unfold zhX zeN at hr
 simp only [Tryz.f192,cF,Option.getD,cA,cB,cI,zad,zbs,zbj,zaQ,zaT,zbk,zby,zbq,zbr,zbt,zaE,zbl,zaB,zaU,zaf,zaq,zan,zbO,zbM,zax,zbP,zao,zaK,zbb,zbc,zaa,lim,Nat.reduceLT,Nat.reduceEqDiff,and_true,if_true,if_false,reduceIte,false_and,true_and,h7,hj'] at hr
 subst hr
 refine ⟨_,rfl,?_,?_⟩
 ·refine ⟨hd,?_,?_,?_,hn,⟨z,hz⟩,c,hc,hs,fun k hk => ?_⟩
  ·simp [zaa,lim,h0]
  ·simp [zaa,lim,h1]
  ·simp [zaa,lim]
  ·rw [hg k hk,show i * 60 + 60 = (i + 1) * 60 by omega]
 ·simp [zaa,lim,h4]

theorem zAN (i : Nat) (hi : i < 60) (st : St) (hI : TopO ds i st) : ∃ st',zad zeN (Eo O) ih ⟨192,20,.normal,none⟩ st = .ok (.normal,st') ∧ TopO ds (i + 1) st' := by
 obtain ⟨tm,h,dd⟩ := st
 obtain ⟨hd,h0,h1,h4,hn,⟨z,hz⟩,c,hc,hs,hg⟩ := hI
 simp only at hd h0 h1 h4 hn hz hc
 have hj' : decide (Int.ofNat i < 60) = true := by simp; omega
 have hj2 : zbh .i64 (Int.ofNat i + 1) = .ofNat (i + 1) := zbo (m := i + 1) (by omega)
 generalize hr : zad zeN (Eo O) ih ⟨192,20,.normal,none⟩ ⟨tm,h,dd⟩ = r
 have hin : TopI ds i 0 ⟨((((tm.put 5 (some (.bool true))).put 6 (some (.int .i64 (.ofNat i)))).put 2 (some (.int .i64 (.ofNat i)))).put 7 (some (.int .i64 0))),h,dd⟩ := by
  refine ⟨hd,?_,?_,?_,?_,?_,hn,⟨z,hz⟩,c,hc,hs,fun k hk => ?_⟩
  ·simp [zaa,lim,h0]
  ·simp [zaa,lim,h1]
  ·simp [zaa,lim,h4]
  ·simp [zaa,lim]
  ·simp [zaa,lim]
  ·rw [hg k hk]; rfl
 obtain ⟨⟨tm',h',dd'⟩,e1,e2,e3⟩ := zgG (f := zad zhX (Eo O) ih ⟨192,20,.normal,none⟩) (I := TopI ds i) (N := 60) (id := 2)
  (fun j st hj hI => zGu i j hi hj st hI) (fun st hI => zvg i st hI) 60 1000000 0 _ (by omega) (by omega) hin
 unfold zhX zeN at e1
 unfold zeN at hr
 simp only [Tryz.f192,cF,Option.getD,cA,cB,cI,zad] at e1
 simp only [Tryz.f192,cF,Option.getD,cA,cB,cI,zad,zbs,zbj,zaQ,zaT,zbk,zbx,zbq,zbr,zbt,zaE,zaB,zaJ,zaU,zaf,zaq,zan,zbO,zbM,zax,zbP,zbV,zao,zaK,zbb,zbc,zaa,lim,Nat.reduceLT,Nat.reduceEqDiff,and_true,if_true,if_false,reduceIte,false_and,true_and,h4,hj',hj2,e1,e3,Nat.beq,cond_true] at hr
 subst hr
 refine ⟨_,rfl,?_⟩
 obtain ⟨a1,a2,a3,a4,a5,a6,a7⟩ := e2
 refine ⟨a1,?_,?_,?_,a5,a6,a7⟩
 ·have := a2; simp [zaa,lim] at this ⊢; exact this
 ·have := a3; simp [zaa,lim] at this ⊢; exact this
 ·simp [zaa,lim]

theorem ztb (st : St) (hI : TopO ds 60 st) : ∃ st',zad zeN (Eo O) ih ⟨192,20,.normal,none⟩ st = .ok (.exit 0,st') ∧ TopO ds 60 st' := by
 obtain ⟨tm,h,dd⟩ := st
 obtain ⟨hd,h0,h1,h4,hn,⟨z,hz⟩,c,hc,hs,hg⟩ := hI
 simp only at hd h0 h1 h4 hn hz hc
 have hj' : decide (Int.ofNat 60 < 60) = false := by decide
 generalize hr : zad zeN (Eo O) ih ⟨192,20,.normal,none⟩ ⟨tm,h,dd⟩ = r
 unfold zeN at hr
 simp only [Tryz.f192,cF,Option.getD,cA,cB,cI,zad,zbs,zbj,zaQ,zaT,zbk,zby,zbq,zbr,zbt,zaE,zbl,zaB,zaU,zaf,zaq,zan,zbO,zbM,zax,zbP,zao,zaK,zbb,zbc,zaa,lim,Nat.reduceLT,Nat.reduceEqDiff,and_true,if_true,if_false,reduceIte,false_and,true_and,h4,hj'] at hr
 subst hr
 refine ⟨_,rfl,?_⟩
 refine ⟨hd,?_,?_,?_,hn,⟨z,hz⟩,c,hc,hs,hg⟩
 ·simp [zaa,lim,h0]
 ·simp [zaa,lim,h1]
 ·simp [zaa,lim,h4]

def zeroL : List Value := List.replicate 3600 (.int .i64 0)
theorem zyr : Tab.t276.zero = some (.agg zeroL.toArray) := by kernel_rfl
theorem zoU : (Tr.ofL 33 topL).toL 32 3600 = some topL := by kernel_rfl
theorem zmx : (Tr.ofL 33 zeroL).toL 32 3600 = some zeroL := by kernel_rfl
theorem ziD : zcx topL = true := by kernel_rfl
theorem zet : topL.length = 3600 := by simp [topL]
theorem zjt : zeroL.length = 3600 := by simp [zeroL]
theorem zMj : wEq (.agg topL.toArray) (.agg topL.toArray) = true := by kernel_rfl
theorem zvO : zaO 3 (.agg topL.toArray) = true := by kernel_rfl

theorem zmG {c : Tr Value} {i : Nat} (hi : i = 60) (hs : (c.toL 32 3600).isSome = true) (hg : ∀ k,k < 3600 → c.get k = some (.int .i64 (if k < i * 60 ∧ k / 60 ≠ k % 60 then 2305843009213693952 else 0))) : c.toL 32 3600 = some topL := by
 cases hl : c.toL 32 3600 with
 | none => rw [hl] at hs; simp at hs
 | some l =>
  obtain ⟨h1,h2⟩ := zcv hl
  congr 1
  refine List.ext_getElem? fun k => ?_
  by_cases hk : k < 3600
  ·rw [h2 k hk (by unfold lim; omega),hg k hk,topL,List.getElem?_map,List.getElem?_range hk]
   simp only [Option.map_some,zaD]
   by_cases e : k / 60 = k % 60
   ·rw [if_neg (by omega),decide_eq_true e,cond_true]
   ·rw [if_pos ⟨by omega,e⟩,decide_eq_false e,cond_false]
  ·rw [List.getElem?_eq_none (by omega),List.getElem?_eq_none (by rw [zet]; omega)]

theorem zbd {l : List Value} {i : Nat} (hi : i < lim) : (Tr.ofL 33 l).get i = l[i]? := by
 unfold Tr.get
 rw [zbI hi,cond_true]
 exact zhO 32 l i hi

theorem zBM {tm : Tr Value} {h : SHeap} {z c : Tr Value} {tl : List Value} (zet : tl.length = 3600) (ziD : zcx tl = true) (h0 : tm.get 0 = some (.pointer (some ⟨0,0,none⟩))) (h1 : tm.get 1 = some (.pointer (some ⟨1,0,none⟩)))
  (hz : h.t.get 0 = some (.cells z 3600 276 false false)) (hc : h.t.get 1 = some (.cells c 3600 276 false false)) (hl : c.toL 32 3600 = some tl) :
  loadAt (Eo O) h 276 ⟨1,0,none⟩ = .ok (.agg tl.toArray) ∧ storeAt (Eo O) h 276 ⟨0,0,none⟩ (.agg tl.toArray) = .ok (h.set 0 (some (.cells (Tr.ofL 33 tl) 3600 276 false false))) := by
 constructor
 ·unfold loadAt
  simp only [zoF,hc]
  rw [if_pos (show TI.agg ⟨.array 60 274,3600,Tab.t276.bytes,Tab.t276.zero⟩ = true from rfl)]
  unfold range
  rw [show Nat.ble 3600 12 = false from rfl,cond_false]
  simp only [hl]
  rw [show (Nat.ble (0 + 3600) 3600 && Nat.ble 3600 lim) = true from rfl,cond_true]
  simp only [List.drop_zero]
  rw [List.take_of_length_le (by rw [zet]; omega)]
 ·unfold storeAt
  simp only [zoF,hz,Value.cells,List.size_toArray,zet,ne_eq,not_true_eq_false,if_false]
  unfold zdg
  rw [zet,show Nat.ble 3600 12 = false from rfl,cond_false,ziD,show (true && Nat.ble (0 + 3600) 3600 && Nat.ble 3600 lim) = true from rfl,cond_true,show (Nat.beq 0 0 && Nat.beq 3600 3600) = true from rfl,cond_true]

theorem zzx {zl tl : List Value} (zyr : Tab.t276.zero = some (.agg zl.toArray)) (zjt : zl.length = 3600) (zmx : ((Tr.ofL 33 zl).toL 32 3600).isSome = true) (zmN : ∀ k,k < 3600 → (Tr.ofL 33 zl).get k = some (.int .i64 0)) (zet : tl.length = 3600) (ziD : zcx tl = true)
  (zmG : ∀ c : Tr Value,(c.toL 32 3600).isSome = true → (∀ k,k < 3600 → c.get k = some (.int .i64 (if k < 60 * 60 ∧ k / 60 ≠ k % 60 then 2305843009213693952 else 0))) → c.toL 32 3600 = some tl) :
  ∃ tm' h',zad (cF Tryz.f192) (Eo O) ih ⟨192,20,.normal,none⟩ ⟨Tr.ofL 33 [],⟨.nil,0⟩,[]⟩ = .ok (.ret,⟨tm',h',[]⟩) ∧ tm'.get 0 = some (.pointer (some ⟨0,0,none⟩)) ∧ h'.t.get 0 = some (.cells (Tr.ofL 33 tl) 3600 276 false false) := by
 generalize hh0 : (⟨.nil,0⟩ : SHeap) = hp
 have hp2 : hp.next = 0 := by subst hh0; rfl
 have hin : TopO [] 0 ⟨((((Tr.ofL 33 []).put 0 (some (.pointer (some ⟨0,0,none⟩)))).put 1 (some (.pointer (some ⟨1,0,none⟩)))).put 4 (some (.int .i64 0))),zaj (zaj hp 276 zl false) 276 zl false,[]⟩ := by
  refine ⟨rfl,?_,?_,?_,?_,⟨Tr.ofL 33 zl,?_⟩,Tr.ofL 33 zl,?_,zmx,fun k hk => ?_⟩
  ·simp [zaa,lim]
  ·simp [zaa,lim]
  ·simp [zaa,lim]
  ·simp [zaj,SHeap.new,hp2]
  ·simp [zaj,SHeap.new,zaa,lim,zjt,hp2]
  ·simp [zaj,SHeap.new,zaa,lim,zjt,hp2]
  ·rw [zmN k hk,if_neg (by omega)]
 obtain ⟨⟨tm',h',dd'⟩,e1,e2⟩ := zgG (f := zad zeN (Eo O) ih ⟨192,20,.normal,none⟩) (I := TopO []) (N := 60) (id := 0)
  (fun j st hj hI => zAN j hj st hI) (fun st hI => ztb st hI) 60 1000000 0 _ (by omega) (by omega) hin
 obtain ⟨a1,a2,a3,a4,a5,⟨z,a6⟩,c,a7,a8,a9⟩ := e2
 simp only at a1 a2 a3 a4 a5 a6 a7
 have al := zmG c a8 a9
 obtain ⟨b1,b2⟩ := zBM (O := O) zet ziD a2 a3 a6 a7 al
 generalize hr : zad (cF Tryz.f192) (Eo O) ih ⟨192,20,.normal,none⟩ ⟨Tr.ofL 33 [],hp,[]⟩ = r
 unfold zeN at e1
 simp only [Tryz.f192,cF,Option.getD,cA,cB,cI,zad] at e1
 have al1 : ∀ h,zfU ((Eo O).T 276) 276 h = .ok (.value (.pointer (some ⟨h.next,0,none⟩)),zaj h 276 zl false) := by
  intro h
  rw [zoF,zyr]
  simp only [zfU,zie,Value.cells]
 have n1 : (zaj hp 276 zl false).next = 1 := by simp [zaj,SHeap.new,hp2]
 have ld : zbw (Eo O) 276 (some (.pointer (some ⟨1,0,none⟩))) h' = .ok (.value (.agg tl.toArray),h') := by
  unfold zbw; simp only [b1]; rfl
 have sto : zcY (Eo O) 276 (some (.pointer (some ⟨0,0,none⟩))) (some (.agg tl.toArray)) h' = .ok (.value (.tuple #[]),h'.set 0 (some (.cells (Tr.ofL 33 tl) 3600 276 false false))) := by
  unfold zcY; simp only [b2]
 simp only [Tryz.f192,cF,Option.getD,zad,zbs,zaQ,zaT,zbS,zbx,zbq,zbr,zbt,zaE,zaJ,zaU,zaf,zaq,zan,zbX,al1,n1,hp2,zbO,zbM,zat,zar,ld,sto,zao,zaK,zbb,zbc,zaa,lim,Nat.reduceLT,Nat.reduceEqDiff,and_true,if_true,if_false,reduceIte,false_and,true_and,e1,a2,a3,Nat.beq,cond_true] at hr
 subst hr a1
 refine ⟨_,_,rfl,?_,?_⟩
 ·simp [zaa,lim,a2]
 ·simp [SHeap.set,zaa,lim]

theorem zBT {tl : List Value} {tm' : Tr Value} {h' : SHeap} (zet : tl.length = 3600) (zoU : (Tr.ofL 33 tl).toL 32 3600 = some tl) (h2 : tm'.get 0 = some (.pointer (some ⟨0,0,none⟩))) (h3 : h'.t.get 0 = some (.cells (Tr.ofL 33 tl) 3600 276 false false)) :
  zaV (Eo O) tm' h' [.cell 0 276] = .ok [.agg tl.toArray] := by
 have : loadAt (Eo O) h' 276 ⟨0,0,none⟩ = .ok (.agg tl.toArray) := by
  unfold loadAt
  simp only [zoF,h3]
  rw [if_pos (show TI.agg ⟨.array 60 274,3600,Tab.t276.bytes,Tab.t276.zero⟩ = true from rfl)]
  unfold range
  rw [show Nat.ble 3600 12 = false from rfl,cond_false]
  simp only [zoU]
  rw [show (Nat.ble (0 + 3600) 3600 && Nat.ble 3600 lim) = true from rfl,cond_true]
  simp only [List.drop_zero]
  rw [List.take_of_length_le (by rw [zet]; omega)]
 simp only [zaV,h2,this]

theorem zmN (k : Nat) (hk : k < 3600) : (Tr.ofL 33 zeroL).get k = some (.int .i64 0) := by
 rw [zbd (by unfold lim; omega),zeroL,List.getElem?_replicate,if_pos hk]
theorem zwz : ((Tr.ofL 33 zeroL).toL 32 3600).isSome = true := by rw [zmx]; rfl
theorem zBg : Tryz.f192.body = some (cF Tryz.f192) := rfl
theorem zUD : (Eo O).F 192 = some Tryz.f192 := by show Tab.funcs.get 192 = _; kernel_rfl
theorem zOh : max Tryz.f192.ntmps (#[] : Array Value).size = 20 := rfl
theorem zGY : Tryz.f192.results.toList = [.cell 0 276] := rfl

theorem zBd (n : Nat) (hO : O 192 = none) : ∃ h',run (Eo O) (n + 1) (.call 192 #[] .normal) ⟨.nil,0⟩ = .ok (.agg topL.toArray,h') := by
 obtain ⟨tm',h',h1,h2,h3⟩ := zzx (O := O) (ih := run (Eo O) n) zyr zjt zwz zmN zet ziD (fun c h1 h2 => zmG rfl h1 h2)
 exact ⟨h',(zbB (show (Eo O).O 192 = none from hO)).trans (zaW (vs := [.agg topL.toArray]) zUD zBg zOh rfl zGY h1 (zBT zet zoU h2 h3))⟩

theorem zDc (KE : EnvOK (Eo O)) (hdraw : zcD (Eo O)) (hOK : ∀ f g,(Eo O).O f = some g → zaN (Eo O) f g) (hO : O 192 = none) : zaN (Eo O) 192 (zqj [] (.agg topL.toArray)) := by
 refine zAv (zcU KE hdraw hOK 1) ?_
 obtain ⟨h',h1⟩ := zBd (O := O) 0 hO
 unfold zoC
 have h1 : run (Eo O) 1 (.call 192 ([] : List Value).toArray .normal) ⟨.nil,(Eo O).G⟩ = .ok (.agg topL.toArray,h') := h1
 simp only [h1,zMj,zvO]
 rfl
end Go.Proofs.YtgdkljcnebaiiaaGreat

set_option linter.unusedSimpArgs false
set_option linter.unusedVariables false
namespace Go.Proofs.YtgdkljcnebaiiaaGreat
open Go Go.Sim
set_option maxRecDepth 100000
variable {O : Nat → Option (List Value → SHeap → Except String (Value × SHeap))} {ih : K} {ds : List Deferred}

noncomputable def zeW : Code := cI (cI (cB (cA (cB (cB (cF Tryz.f144))))))
noncomputable def zht : Code := cI (cI (cB (cB (cI (cA (cB (cB zeW)))))))
noncomputable def zwM : Code := cA (cB (cI (cA (cB (cB zht)))))

theorem E4 : (Eo O).T 4 = some ⟨.bool,1,Tab.t4.bytes,Tab.t4.zero⟩ := by show Tab.types.get 4 = _; kernel_rfl
theorem zct {a : Addr} {h : SHeap} : zck (Eo O) ((Eo O).T 278) (some (.pointer (some a))) 1 h = .ok (.value (.pointer (some (zbN a 1))),h) := by kernel_rfl
theorem zcw {a : Addr} {h : SHeap} : zck (Eo O) ((Eo O).T 278) (some (.pointer (some a))) 0 h = .ok (.value (.pointer (some (zbN a 0))),h) := by kernel_rfl
theorem zBU : zdp (Eo O) (zDT zwM).toList = some ⟨[⟨0,.pure,0⟩,⟨1,.pure,0⟩,⟨2,.pure,0⟩,⟨3,.pure,0⟩,⟨4,.pure,0⟩,⟨5,.pure,0⟩,⟨6,.pure,0⟩,⟨7,.read,0⟩,⟨8,.pure,0⟩,⟨9,.pure,0⟩,⟨10,.pure,0⟩,⟨11,.pure,0⟩,⟨12,.pure,0⟩,⟨13,.pure,0⟩,⟨14,.pure,0⟩,⟨15,.read,0⟩],16,0⟩ := by kernel_rfl

structure WiI (h : SHeap) (b d i j : Nat) (st : St) : Prop where
 ds : st.defers = []
 h : st.h = h
 t0 : st.tm.get 0 = some (.pointer (some ⟨b,0,none⟩))
 t1 : st.tm.get 1 = some (.pointer (some ⟨d,0,none⟩))
 t21 : st.tm.get 21 = some (.int .i64 (.ofNat i))
 t5 : st.tm.get 5 = some (.int .i64 (.ofNat i))
 t24 : st.tm.get 24 = some (.int .i64 (.ofNat j))

structure WiH (h : SHeap) (b d : Nat) (l m : List Value) : Prop where
 next : h.next ≤ lim
 hb : ∃ c e o r,h.t.get b = some (.cells c 3601 e o r) ∧ ∀ k,k < 3600 → c.get (0 + 1 + k) = l[k]?
 hd : ∃ c e o r,h.t.get d = some (.cells c 3601 e o r) ∧ ∀ k,k < 3600 → c.get (0 + 1 + k) = m[k]?
 ll : l.length = 3600
 lm : m.length = 3600
 al : zbg l = true
 am : zbg m = true

def WiP (h : SHeap) (b d : Nat) (l m : List Value) (i : Nat) (o : Out) (st : St) : Prop :=
 st.defers = [] ∧ st.h = h ∧ ((o = .exit 2 ∧ WiI h b d i 60 st ∧ zcc l m = zcc (l.drop (i * 60 + 60)) (m.drop (i * 60 + 60))) ∨ (o = .ret ∧ zcc l m = false ∧ st.tm.get 4 = some (.bool false)))

theorem zRA {h : SHeap} {b d : Nat} {l m : List Value} (hw : WiH h b d l m) (i j : Nat) (hi : i < 60) (hj : j < 60) (st : St) (hI : WiI h b d i j st ∧ zcc l m = zcc (l.drop (i * 60 + j)) (m.drop (i * 60 + j))) :
  (∃ st',zad zht (Eo O) ih ⟨144,46,.normal,none⟩ st = .ok (.normal,st') ∧ WiI h b d i (j + 1) st' ∧ zcc l m = zcc (l.drop (i * 60 + (j + 1))) (m.drop (i * 60 + (j + 1)))) ∨
   ∃ o st',o ≠ .normal ∧ zad zht (Eo O) ih ⟨144,46,.normal,none⟩ st = .ok (o,st') ∧ WiP h b d l m i o st' := by
 obtain ⟨tm,h,dd⟩ := st
 obtain ⟨⟨hd,rfl,h0,h1,h21,h5,h24⟩,hle⟩ := hI
 simp only at hd h0 h1 h21 h5 h24
 subst hd
 obtain ⟨hn,⟨cb,eb,ob,rb,hb,gb⟩,⟨cd,ed,od,rd,hdd,gd⟩,ll,lm,al,am⟩ := hw
 simp only at hn hb hdd
 have hk : i * 60 + j < 3600 := by omega
 obtain ⟨x,hx⟩ := zdt al (show i * 60 + j < l.length by omega)
 obtain ⟨y,hy⟩ := zdt am (show i * 60 + j < m.length by omega)
 have hj' : decide (Int.ofNat j < 60) = true := by simp; omega
 have hj2 : zbh .i64 (Int.ofNat j + 1) = .ofNat (j + 1) := zbo (m := j + 1) (by omega)
 have ix : cb.get (0 + 1 + i * 60 + j) = some (.int .i64 x) := by rw [show 0 + 1 + i * 60 + j = 0 + 1 + (i * 60 + j) by omega,gb _ hk]; exact hx
 have iy : cd.get (0 + 1 + i * 60 + j) = some (.int .i64 y) := by rw [show 0 + 1 + i * 60 + j = 0 + 1 + (i * 60 + j) by omega,gd _ hk]; exact hy
 have st := zta hx hy
 have lx := zch (E := Eo O) E3 rfl hb ix
 have ly := zch (E := Eo O) E3 rfl hdd iy
 generalize hr : zad zht (Eo O) ih ⟨144,46,.normal,none⟩ ⟨tm,h,[]⟩ = r
 have pl := zBU (O := O)
 unfold zwM zht zeW at pl
 unfold zht zeW at hr
 simp only [Tryz.f144,cF,Option.getD,cA,cB,cI,zDT] at pl
 by_cases hxy : x > y
 ·have hg : decide (x > y) = true := by simp; omega
  simp only [Tryz.f144,cF,Option.getD,cA,cB,cI,zad,zbs,zbj,zaQ,zaZ,zaT,zbk,zbS,zby,zbq,zbr,zbt,zaE,zbH,zbl,zaB,zaS,zaJ,zaU,zaf,zaq,zan,zbO,zbM,zbU,zax,zbP,zcn,zbV,zao,zaK,zbb,zbc,zaa,lim,Nat.reduceLT,Nat.reduceEqDiff,and_true,if_true,if_false,reduceIte,false_and,true_and,zbx,Nat.beq,cond_true,
   zag,zah,zai,zat,zba,zcw,zct,Option.bind_some,zbp,zaM,zbD,zbn,zbm,zbF,zbK,zbu,List.getElem?_toArray,List.getElem?_cons_succ,List.getElem?_cons_zero,List.drop_succ_cons,List.drop_zero,
   zco pl hn,h0,h1,h5,h24,hj',hj2,zcF hi,zcM hj,lx,ly,hg] at hr
  subst hr
  refine .inr ⟨.ret,_,by simp,rfl,rfl,rfl,.inr ⟨rfl,?_,?_⟩⟩
  ·rw [hle,st,show decide (x ≤ y) = false by simp; omega]; rfl
  ·simp [zaa,lim]
 ·have hg : decide (x > y) = false := by simp; omega
  simp only [Tryz.f144,cF,Option.getD,cA,cB,cI,zad,zbs,zbj,zaQ,zaZ,zaT,zbk,zbS,zby,zbq,zbr,zbt,zaE,zbH,zbl,zaB,zaS,zaJ,zaU,zaf,zaq,zan,zbO,zbM,zbU,zax,zbP,zcn,zbV,zao,zaK,zbb,zbc,zaa,lim,Nat.reduceLT,Nat.reduceEqDiff,and_true,if_true,if_false,reduceIte,false_and,true_and,zbx,Nat.beq,cond_true,
   zag,zah,zai,zat,zba,zcw,zct,Option.bind_some,zbp,zaM,zbD,zbn,zbm,zbF,zbK,zbu,List.getElem?_toArray,List.getElem?_cons_succ,List.getElem?_cons_zero,List.drop_succ_cons,List.drop_zero,
   zco pl hn,h0,h1,h5,h24,hj',hj2,zcF hi,zcM hj,lx,ly,hg] at hr
  subst hr
  refine .inl ⟨_,rfl,?_,?_⟩
  ·refine ⟨rfl,rfl,?_,?_,?_,?_,?_⟩
   ·simp [zaa,lim,h0]
   ·simp [zaa,lim,h1]
   ·simp [zaa,lim,h21]
   ·simp [zaa,lim,h5]
   ·simp [zaa,lim]
  ·rw [hle,st,show decide (x ≤ y) = true by simp; omega]; rfl

theorem zwU {h : SHeap} {b d : Nat} {l m : List Value} (i : Nat) (st : St) (hI : WiI h b d i 60 st ∧ zcc l m = zcc (l.drop (i * 60 + 60)) (m.drop (i * 60 + 60))) :
  ∃ o st',o ≠ .normal ∧ zad zht (Eo O) ih ⟨144,46,.normal,none⟩ st = .ok (o,st') ∧ WiP h b d l m i o st' := by
 obtain ⟨tm,h,dd⟩ := st
 obtain ⟨⟨hd,rfl,h0,h1,h21,h5,h24⟩,hle⟩ := hI
 simp only at hd h0 h1 h21 h5 h24
 subst hd
 have hj' : decide (Int.ofNat 60 < 60) = false := by decide
 generalize hr : zad zht (Eo O) ih ⟨144,46,.normal,none⟩ ⟨tm,h,[]⟩ = r
 unfold zht zeW at hr
 simp only [Tryz.f144,cF,Option.getD,cA,cB,cI,zad,zbs,zbj,zaQ,zaZ,zaT,zbk,zbS,zby,zbq,zbr,zbt,zaE,zbH,zbl,zaB,zaS,zaJ,zaU,zaf,zaq,zan,zbO,zbM,zbU,zax,zbP,zcn,zbV,zao,zaK,zbb,zbc,zaa,lim,Nat.reduceLT,Nat.reduceEqDiff,and_true,if_true,if_false,reduceIte,false_and,true_and,zbx,Nat.beq,cond_true,
   zag,zah,zai,zat,zba,zcw,zct,Option.bind_some,zbp,zaM,zbD,zbn,zbm,zbF,zbK,zbu,List.getElem?_toArray,List.getElem?_cons_succ,List.getElem?_cons_zero,List.drop_succ_cons,List.drop_zero,h24,hj'] at hr
 subst hr
 refine ⟨.exit 2,_,by simp,rfl,rfl,rfl,.inl ⟨rfl,?_,hle⟩⟩
 refine ⟨rfl,rfl,?_,?_,?_,?_,?_⟩
 ·simp [zaa,lim,h0]
 ·simp [zaa,lim,h1]
 ·simp [zaa,lim,h21]
 ·simp [zaa,lim,h5]
 ·simp [zaa,lim,h24]

structure WiJ (h : SHeap) (b d i : Nat) (st : St) : Prop where
 ds : st.defers = []
 h : st.h = h
 t0 : st.tm.get 0 = some (.pointer (some ⟨b,0,none⟩))
 t1 : st.tm.get 1 = some (.pointer (some ⟨d,0,none⟩))
 t21 : st.tm.get 21 = some (.int .i64 (.ofNat i))

def WiQ (h : SHeap) (b d : Nat) (l m : List Value) (o : Out) (st : St) : Prop :=
 st.defers = [] ∧ st.h = h ∧ ((o = .exit 0 ∧ zcc l m = true) ∨ (o = .ret ∧ zcc l m = false ∧ st.tm.get 4 = some (.bool false)))

theorem zDk {h : SHeap} {b d : Nat} {l m : List Value} (hw : WiH h b d l m) (i : Nat) (hi : i < 60) (st : St) (hI : WiJ h b d i st ∧ zcc l m = zcc (l.drop (i * 60)) (m.drop (i * 60))) :
  (∃ st',zad zeW (Eo O) ih ⟨144,46,.normal,none⟩ st = .ok (.normal,st') ∧ WiJ h b d (i + 1) st' ∧ zcc l m = zcc (l.drop ((i + 1) * 60)) (m.drop ((i + 1) * 60))) ∨
   ∃ o st',o ≠ .normal ∧ zad zeW (Eo O) ih ⟨144,46,.normal,none⟩ st = .ok (o,st') ∧ WiQ h b d l m o st' := by
 obtain ⟨tm,h,dd⟩ := st
 obtain ⟨⟨hd,rfl,h0,h1,h21⟩,hle⟩ := hI
 simp only at hd h0 h1 h21
 subst hd
 have hj' : decide (Int.ofNat i < 60) = true := by simp; omega
 have hj2 : zbh .i64 (Int.ofNat i + 1) = .ofNat (i + 1) := zbo (m := i + 1) (by omega)
 generalize hr : zad zeW (Eo O) ih ⟨144,46,.normal,none⟩ ⟨tm,h,[]⟩ = r
 have hin : WiI h b d i 0 ⟨((((tm.put 22 (some (.bool true))).put 23 (some (.int .i64 (.ofNat i)))).put 5 (some (.int .i64 (.ofNat i)))).put 24 (some (.int .i64 0))),h,[]⟩ := by
  refine ⟨rfl,rfl,?_,?_,?_,?_,?_⟩
  ·simp [zaa,lim,h0]
  ·simp [zaa,lim,h1]
  ·simp [zaa,lim,h21]
  ·simp [zaa,lim]
  ·simp [zaa,lim]
 obtain ⟨o,⟨tm',h',dd'⟩,e0,e1,e2⟩ := zcC (f := zad zht (Eo O) ih ⟨144,46,.normal,none⟩) (I := fun j st => WiI h b d i j st ∧ zcc l m = zcc (l.drop (i * 60 + j)) (m.drop (i * 60 + j))) (N := 60) (P := WiP h b d l m i)
  (fun j st hj hI => zRA hw i j hi hj st hI) (fun st hI => zwU i st hI) 60 1000000 0 _ (by omega) (by omega) ⟨hin,by simpa using hle⟩
 unfold zht zeW at e1
 unfold zeW at hr
 simp only [Tryz.f144,cF,Option.getD,cA,cB,cI,zad] at e1
 obtain ⟨p1,p2,p3⟩ := e2
 simp only at p1 p2
 subst p1 p2
 rcases p3 with ⟨rfl,p4,p5⟩ | ⟨rfl,p4,p5⟩
 ·obtain ⟨_,_,q0,q1,q2,_,_⟩ := p4
  simp only at q0 q1 q2
  simp only [Tryz.f144,cF,Option.getD,cA,cB,cI,zad,zbs,zbj,zaQ,zaZ,zaT,zbk,zbS,zby,zbq,zbr,zbt,zaE,zbH,zbl,zaB,zaS,zaJ,zaU,zaf,zaq,zan,zbO,zbM,zbU,zax,zbP,zcn,zbV,zao,zaK,zbb,zbc,zaa,lim,Nat.reduceLT,Nat.reduceEqDiff,and_true,if_true,if_false,reduceIte,false_and,true_and,zbx,Nat.beq,cond_true,
   zag,zah,zai,zat,zba,zcw,zct,Option.bind_some,zbp,zaM,zbD,zbn,zbm,zbF,zbK,zbu,List.getElem?_toArray,List.getElem?_cons_succ,List.getElem?_cons_zero,List.drop_succ_cons,List.drop_zero,h21,hj',hj2,e1,q2] at hr
  subst hr
  refine .inl ⟨_,rfl,?_,?_⟩
  ·refine ⟨rfl,rfl,?_,?_,?_⟩
   ·simp [zaa,lim,q0]
   ·simp [zaa,lim,q1]
   ·simp [zaa,lim]
  ·rw [p5,show (i + 1) * 60 = i * 60 + 60 by omega]
 ·simp only at p5
  simp only [Tryz.f144,cF,Option.getD,cA,cB,cI,zad,zbs,zbj,zaQ,zaZ,zaT,zbk,zbS,zby,zbq,zbr,zbt,zaE,zbH,zbl,zaB,zaS,zaJ,zaU,zaf,zaq,zan,zbO,zbM,zbU,zax,zbP,zcn,zbV,zao,zaK,zbb,zbc,zaa,lim,Nat.reduceLT,Nat.reduceEqDiff,and_true,if_true,if_false,reduceIte,false_and,true_and,zbx,Nat.beq,cond_true,
   zag,zah,zai,zat,zba,zcw,zct,Option.bind_some,zbp,zaM,zbD,zbn,zbm,zbF,zbK,zbu,List.getElem?_toArray,List.getElem?_cons_succ,List.getElem?_cons_zero,List.drop_succ_cons,List.drop_zero,h21,hj',hj2,e1] at hr
  subst hr
  exact .inr ⟨.ret,_,by simp,rfl,rfl,rfl,.inr ⟨rfl,p4,p5⟩⟩

theorem ztX {h : SHeap} {b d : Nat} {l m : List Value} (hw : WiH h b d l m) (st : St) (hI : WiJ h b d 60 st ∧ zcc l m = zcc (l.drop (60 * 60)) (m.drop (60 * 60))) :
  ∃ o st',o ≠ .normal ∧ zad zeW (Eo O) ih ⟨144,46,.normal,none⟩ st = .ok (o,st') ∧ WiQ h b d l m o st' := by
 obtain ⟨tm,h,dd⟩ := st
 obtain ⟨⟨hd,rfl,h0,h1,h21⟩,hle⟩ := hI
 simp only at hd h0 h1 h21
 subst hd
 have hj' : decide (Int.ofNat 60 < 60) = false := by decide
 generalize hr : zad zeW (Eo O) ih ⟨144,46,.normal,none⟩ ⟨tm,h,[]⟩ = r
 unfold zeW at hr
 simp only [Tryz.f144,cF,Option.getD,cA,cB,cI,zad,zbs,zbj,zaQ,zaZ,zaT,zbk,zbS,zby,zbq,zbr,zbt,zaE,zbH,zbl,zaB,zaS,zaJ,zaU,zaf,zaq,zan,zbO,zbM,zbU,zax,zbP,zcn,zbV,zao,zaK,zbb,zbc,zaa,lim,Nat.reduceLT,Nat.reduceEqDiff,and_true,if_true,if_false,reduceIte,false_and,true_and,zbx,Nat.beq,cond_true,
   zag,zah,zai,zat,zba,zcw,zct,Option.bind_some,zbp,zaM,zbD,zbn,zbm,zbF,zbK,zbu,List.getElem?_toArray,List.getElem?_cons_succ,List.getElem?_cons_zero,List.drop_succ_cons,List.drop_zero,h21,hj'] at hr
 subst hr
 refine ⟨.exit 0,_,by simp,rfl,rfl,rfl,.inl ⟨rfl,?_⟩⟩
 rw [hle,List.drop_of_length_le (by have := hw.ll; omega),List.drop_of_length_le (by have := hw.lm; omega)]
 rfl

theorem zAS {h : SHeap} {b d : Nat} {l m : List Value} {e e' : Bool} (hw : WiH h b d l m) (he : ∃ c q o r,h.t.get b = some (.cells c 3601 q o r) ∧ c.get (0 + 0) = some (.bool e)) (he' : ∃ c q o r,h.t.get d = some (.cells c 3601 q o r) ∧ c.get (0 + 0) = some (.bool e'))
  {tm : Tr Value} (h0 : tm.get 0 = some (.pointer (some ⟨b,0,none⟩))) (h1 : tm.get 1 = some (.pointer (some ⟨d,0,none⟩))) :
  ∃ tm',zad (cF Tryz.f144) (Eo O) ih ⟨144,46,.normal,none⟩ ⟨tm,h,[]⟩ = .ok (.ret,⟨tm',h,[]⟩) ∧ tm'.get 4 = some (.bool (bif e then true else bif e' then false else zcc l m)) := by
 obtain ⟨c1,q1,o1,r1,g1,g2⟩ := he
 obtain ⟨c2,q2,o2,r2,g3,g4⟩ := he'
 have lx := zch (E := Eo O) E4 rfl g1 g2
 have ly := zch (E := Eo O) E4 rfl g3 g4
 generalize hr : zad (cF Tryz.f144) (Eo O) ih ⟨144,46,.normal,none⟩ ⟨tm,h,[]⟩ = r
 cases e with
 | true =>
  simp only [Tryz.f144,cF,Option.getD,cA,cB,cI,zad,zbs,zbj,zaQ,zaZ,zaT,zbk,zbS,zby,zbq,zbr,zbt,zaE,zbH,zbl,zaB,zaS,zaJ,zaU,zaf,zaq,zan,zbO,zbM,zbU,zax,zbP,zcn,zbV,zao,zaK,zbb,zbc,zaa,lim,Nat.reduceLT,Nat.reduceEqDiff,and_true,if_true,if_false,reduceIte,false_and,true_and,zbx,Nat.beq,cond_true,
   zag,zah,zai,zat,zba,zcw,zct,Option.bind_some,zbp,zaM,zbD,zbn,zbm,zbF,zbK,zbu,List.getElem?_toArray,List.getElem?_cons_succ,List.getElem?_cons_zero,List.drop_succ_cons,List.drop_zero,zcz,zak,Option.bind_some,zav,zcB,zca,h0,h1,lx,ly,show (true == false) = false from rfl] at hr
  subst hr
  exact ⟨_,rfl,by simp [zaa,lim]⟩
 | false =>
  cases e' with
  | true =>
   simp only [Tryz.f144,cF,Option.getD,cA,cB,cI,zad,zbs,zbj,zaQ,zaZ,zaT,zbk,zbS,zby,zbq,zbr,zbt,zaE,zbH,zbl,zaB,zaS,zaJ,zaU,zaf,zaq,zan,zbO,zbM,zbU,zax,zbP,zcn,zbV,zao,zaK,zbb,zbc,zaa,lim,Nat.reduceLT,Nat.reduceEqDiff,and_true,if_true,if_false,reduceIte,false_and,true_and,zbx,Nat.beq,cond_true,
   zag,zah,zai,zat,zba,zcw,zct,Option.bind_some,zbp,zaM,zbD,zbn,zbm,zbF,zbK,zbu,List.getElem?_toArray,List.getElem?_cons_succ,List.getElem?_cons_zero,List.drop_succ_cons,List.drop_zero,zcz,zak,Option.bind_some,zav,zcB,zca,h0,h1,lx,ly,show (false == false) = true from rfl] at hr
   subst hr
   exact ⟨_,rfl,by simp [zaa,lim]⟩
  | false =>
   obtain ⟨tmk,hk⟩ : ∃ tmk,tmk = (((((((((((((tm.put 4 (some (.bool false))).put 7 (some (.pointer (some ⟨b,0,none⟩)))).put 8 (some (.pointer (some ⟨b,0,none⟩)))).put 9 (some (.pointer (some ⟨b,0 + 0,none⟩)))).put 10 (some (.bool false))).put 11 (some (.bool false))).put 12 (some (.pointer (some ⟨d,0,none⟩)))).put 13 (some (.pointer (some ⟨d,0,none⟩)))).put 14 (some (.pointer (some ⟨d,0 + 0,none⟩)))).put 15 (some (.bool false))).put 16 (some (.bool false))).put 21 (some (.int .i64 0)))) := ⟨_,rfl⟩
   have hin : WiJ h b d 0 ⟨tmk,h,[]⟩ := by
    subst hk
    refine ⟨rfl,rfl,?_,?_,?_⟩
    ·simp [zaa,lim,h0]
    ·simp [zaa,lim,h1]
    ·simp [zaa,lim]
   obtain ⟨o,⟨tm',h',dd'⟩,e0,e1,e2⟩ := zcC (f := zad zeW (Eo O) ih ⟨144,46,.normal,none⟩) (I := fun j st => WiJ h b d j st ∧ zcc l m = zcc (l.drop (j * 60)) (m.drop (j * 60))) (N := 60) (P := WiQ h b d l m)
    (fun j st hj hI => zDk hw j hj st hI) (fun st hI => ztX hw st hI) 60 1000000 0 _ (by omega) (by omega) ⟨hin,by simp⟩
   unfold zeW at e1
   simp only [Tryz.f144,cF,Option.getD,cA,cB,cI,zad] at e1
   subst hk
   obtain ⟨p1,p2,p3⟩ := e2
   simp only at p1 p2
   subst p1 p2
   rcases p3 with ⟨rfl,p4⟩ | ⟨rfl,p4,p5⟩
   ·simp only [Tryz.f144,cF,Option.getD,cA,cB,cI,zad,zbs,zbj,zaQ,zaZ,zaT,zbk,zbS,zby,zbq,zbr,zbt,zaE,zbH,zbl,zaB,zaS,zaJ,zaU,zaf,zaq,zan,zbO,zbM,zbU,zax,zbP,zcn,zbV,zao,zaK,zbb,zbc,zaa,lim,Nat.reduceLT,Nat.reduceEqDiff,and_true,if_true,if_false,reduceIte,false_and,true_and,zbx,Nat.beq,cond_true,
   zag,zah,zai,zat,zba,zcw,zct,Option.bind_some,zbp,zaM,zbD,zbn,zbm,zbF,zbK,zbu,List.getElem?_toArray,List.getElem?_cons_succ,List.getElem?_cons_zero,List.drop_succ_cons,List.drop_zero,zcz,zak,Option.bind_some,zav,zcB,zca,h0,h1,lx,ly,show (false == false) = true from rfl,e1] at hr
    subst hr
    exact ⟨_,rfl,by simp [zaa,lim,p4]⟩
   ·simp only at p5
    simp only [Tryz.f144,cF,Option.getD,cA,cB,cI,zad,zbs,zbj,zaQ,zaZ,zaT,zbk,zbS,zby,zbq,zbr,zbt,zaE,zbH,zbl,zaB,zaS,zaJ,zaU,zaf,zaq,zan,zbO,zbM,zbU,zax,zbP,zcn,zbV,zao,zaK,zbb,zbc,zaa,lim,Nat.reduceLT,Nat.reduceEqDiff,and_true,if_true,if_false,reduceIte,false_and,true_and,zbx,Nat.beq,cond_true,
   zag,zah,zai,zat,zba,zcw,zct,Option.bind_some,zbp,zaM,zbD,zbn,zbm,zbF,zbK,zbu,List.getElem?_toArray,List.getElem?_cons_succ,List.getElem?_cons_zero,List.drop_succ_cons,List.drop_zero,zcz,zak,Option.bind_some,zav,zcB,zca,h0,h1,lx,ly,show (false == false) = true from rfl,e1] at hr
    subst hr
    exact ⟨_,rfl,by simp [p4,p5]⟩

theorem ztm {c : Tr Value} {e : Bool} {l : List Value} (h : c.toL 32 3601 = some (.bool e :: l)) : c.get (0 + 0) = some (.bool e) ∧ l.length = 3600 ∧ ∀ k,k < 3600 → c.get (0 + 1 + k) = l[k]? := by
 obtain ⟨h1,h2⟩ := zcv h
 refine ⟨?_,by simpa using h1,fun k hk => ?_⟩
 ·rw [← h2 0 (by omega) (by unfold lim; omega)]; rfl
 ·have := h2 (k + 1) (by omega) (by unfold lim; omega)
  rw [show 0 + 1 + k = k + 1 by omega,← this]
  simp

theorem zBl : Tryz.f144.body = some (cF Tryz.f144) := rfl
theorem zPI : (Eo O).F 144 = some Tryz.f144 := by show Tab.funcs.get 144 = _; kernel_rfl
theorem zUz {a b : Value} : max Tryz.f144.ntmps (#[a,b] : Array Value).size = 46 := rfl
theorem zHR : Tryz.f144.results.toList = [.tmp 4] := rfl

theorem zuY {n : Nat} (hO : O 144 = none) {args : Array Value} {h h' : SHeap} {v : Value} (hok : withinQ args.toList h = .ok (v,h')) : run (Eo O) (n + 1) (.call 144 args .normal) h = .ok (v,h') := by
 unfold withinQ at hok
 split at hok
 ·rename_i b d hargs
  unfold ztJ at hok
  split at hok
  ·rename_i c n1 q1 o1 r1 hb
   split at hok
   ·rename_i c' n2 q2 o2 r2 hd
    cases hc : (Nat.beq n1 3601 && Nat.beq n2 3601 && Nat.ble h.next lim) with
    | false => rw [hc] at hok; simp at hok
    | true =>
     rw [hc,cond_true] at hok
     simp only [Bool.and_eq_true] at hc
     obtain ⟨⟨x1,x2⟩,x3⟩ := hc
     obtain rfl := Nat.eq_of_beq_eq_true x1
     obtain rfl := Nat.eq_of_beq_eq_true x2
     have x3 := Nat.le_of_ble_eq_true x3
     unfold ztr at hok
     split at hok
     ·rename_i e l hl
      split at hok
      ·rename_i e' l' hl'
       cases ha : (zbg l && zbg l') with
       | false => rw [ha] at hok; simp at hok
       | true =>
        rw [ha,cond_true] at hok
        simp only [Except.ok.injEq,Prod.mk.injEq] at hok
        obtain ⟨rfl,rfl⟩ := hok
        simp only [Bool.and_eq_true] at ha
        obtain ⟨y1,y2,y3⟩ := ztm hl
        obtain ⟨z1,z2,z3⟩ := ztm hl'
        have harr : args = #[.pointer (some ⟨b,0,none⟩),.pointer (some ⟨d,0,none⟩)] := Array.toList_inj.1 hargs
        subst harr
        obtain ⟨tm',k1,k2⟩ := zAS (O := O) (ih := run (Eo O) n) (e := e) (e' := e') ⟨x3,⟨c,q1,o1,r1,hb,y3⟩,⟨c',q2,o2,r2,hd,z3⟩,y2,z2,ha.1,ha.2⟩ ⟨c,q1,o1,r1,hb,y1⟩ ⟨c',q2,o2,r2,hd,z1⟩
         (tm := Tr.ofL 33 [.pointer (some ⟨b,0,none⟩),.pointer (some ⟨d,0,none⟩)]) rfl rfl
        refine (zbB (show (Eo O).O 144 = none from hO)).trans (zaW (vs := [_]) zPI zBl zUz rfl zHR k1 ?_)
        simp only [zaV,k2,zcT]
      ·simp at hok
     ·simp at hok
   ·simp at hok
  ·simp at hok
 ·simp at hok

theorem zvU (KE : EnvOK (Eo O)) (hdraw : zcD (Eo O)) (hOK : ∀ f g,(Eo O).O f = some g → zaN (Eo O) f g) (hO : O 144 = none) : zaN (Eo O) 144 withinQ :=
 zcG (zcU KE hdraw hOK 1) fun args h v h' _ hok => ⟨h',zuY hO hok,rfl,fun _ o h => ⟨o,h,ObjLe.refl o⟩⟩

end Go.Proofs.YtgdkljcnebaiiaaGreat

set_option linter.unusedSimpArgs false
set_option linter.unusedVariables false
namespace Go.Proofs.YtgdkljcnebaiiaaGreat
open Go Go.Sim
set_option maxRecDepth 100000
variable {O : Nat → Option (List Value → SHeap → Except String (Value × SHeap))} {ih : K} {ds : List Deferred}

noncomputable def zfE : Code := cI (cI (cB (cA (cB (cB (cF Tryz.f140))))))
noncomputable def zkP : Code := cI (cI (cB (cB (cI (cA (cB (cB zfE)))))))

theorem E27 : (Eo O).T 40 = some ⟨.slice 216,1,Tab.t40.bytes,Tab.t40.zero⟩ := by show Tab.types.get 40 = _; kernel_rfl
theorem E32 : (Eo O).T 216 = some ⟨Tab.t216.desc,3,24,some (.agg #[.int .i64 0,.int .i64 0,.int .i64 0])⟩ := by show Tab.types.get 216 = _; kernel_rfl
theorem zts {x y z : Int} {h : SHeap} : zfw (Eo O) ((Eo O).T 216) (some [(0,.int .i64 x),(1,.int .i64 y),(2,.int .i64 z)]) h = .ok (.value (.agg #[.int .i64 x,.int .i64 y,.int .i64 z]),h) := by kernel_rfl
theorem zko {x y z : Value} {h : SHeap} : zfi (Eo O) ((Eo O).T 40) 1 (some [(0,.agg #[x,y,z])]) h = .ok (.value (.slice (some ⟨h.next,0,none⟩) 1 1),zaj h 216 [x,y,z] false) := by kernel_rfl
theorem zAh {x y z : Value} : (Tr.ofL 33 [x,y,z]).toListFrom 0 3 = some [x,y,z] := by kernel_rfl
theorem ztK : zjl (Eo O) [40] = true := by kernel_rfl

theorem zLE {b e i : Nat} {o r : Bool} {c : Tr Value} {q : Value} {l : List Value} {h : SHeap} (hb : h.t.get b = some (.cells c 3601 e o r)) (hl : c.toL 32 3601 = some (q :: l)) (hi : i < 60) :
  zbw (Eo O) 274 (some (.pointer (some ⟨b,0 + 1 + i * 60,none⟩))) h = .ok (.value (.agg ((l.drop (i * 60)).take 60).toArray),h) := by
 unfold zbw loadAt
 simp only [zHA,hb]
 rw [if_pos (show TI.agg ⟨.array 60 3,60,Tab.t274.bytes,Tab.t274.zero⟩ = true from rfl)]
 unfold range
 rw [show Nat.ble 60 12 = false from rfl,cond_false]
 simp only [hl]
 have h1 : Nat.ble (0 + 1 + i * 60 + 60) 3601 = true := by rw [Nat.ble_eq]; omega
 rw [h1,show (true && Nat.ble 3601 lim) = true from rfl,cond_true]
 rw [show 0 + 1 + i * 60 = i * 60 + 1 by omega,List.drop_succ_cons]
 rfl

theorem zjQ {ev : Ev} {op : Oper} {cs : Array Value} {j : Nat} {v : Value} {h : SHeap} (hj : j < 60) (hv : cs[j]? = some v) : ziM (Eo O) ev op ((Eo O).T 274) (some (.agg cs)) (some j) h = .ok (.value v,h) := by
 rw [zHA]
 simp only [ziM,E3,hj,if_true,znQ,Nat.mul_one]
 rw [if_neg (show ¬ TI.agg ⟨.int .i64,1,Tab.t3.bytes,Tab.t3.zero⟩ = true from by decide)]
 simp only [hv,zcT,zao]

theorem append_nil {c : Call} (hc : c.argTypes.toList = [40,40]) {b : Nat} {x y z : Value} {h : SHeap} (hb : h.t.get b = some (.cells (Tr.ofL 33 [x,y,z]) 3 216 false false)) :
  zfo (Eo O) c [.slice none 0 0,.slice (some ⟨b,0,none⟩) 1 1] h = .ok (.slice (some ⟨h.next,0,none⟩) 1 openCap,zaj h 216 [x,y,z] true) := by
 unfold zfo
 simp only [hc,ztK,cond_true,E27,E32,zjr,zgF,hb,Nat.one_mul,zAh,zcT]
 rfl

theorem zsX {c : Call} (hc : c.argTypes.toList = [40,40]) {b r n : Nat} {x y z : Int} {h : SHeap} {ct : Tr Value} (hb : h.t.get b = some (.cells (Tr.ofL 33 [.int .i64 x,.int .i64 y,.int .i64 z]) 3 216 false false))
  (hr : h.t.get r = some (.cells ct (n * 3) 216 true false)) (hn : n ≤ 3600) :
  zfo (Eo O) c [.slice (some ⟨r,0,none⟩) n openCap,.slice (some ⟨b,0,none⟩) 1 1] h =
   .ok (.slice (some ⟨h.next,0,none⟩) (n + 1) openCap,(h.set r none).new (.cells (((ct.put (n * 3) (some (.int .i64 x))).put (n * 3 + 1) (some (.int .i64 y))).put (n * 3 + 1 + 1) (some (.int .i64 z))) (n * 3 + 3) 216 true false)) := by
 unfold zfo
 simp only [hc,ztK,cond_true,E27,E32,zjr,zgF,hb,Nat.one_mul,zAh,zcT]
 unfold zjy
 have h1 : Nat.ble ((n + 1) * (24 + 1)) 70368744177664 = true := by rw [Nat.ble_eq]; omega
 rw [h1,show (Nat.beq [Value.int .i64 x,.int .i64 y,.int .i64 z].length 3 && true) = true from rfl,cond_true,show Nat.beq openCap openCap = true from rfl,cond_true]
 unfold zjI
 simp only [hr]
 have h2 : Nat.beq (n * 3) (n * 3) = true := Nat.beq_refl _
 rw [h2,show (Nat.beq 0 0 && Nat.beq 216 216 && true) = true from rfl,cond_true]
 have h3 : zcy ct (n * 3 + [Value.int .i64 x,.int .i64 y,.int .i64 z].length) (n * 3) [Value.int .i64 x,.int .i64 y,.int .i64 z] = some (((ct.put (n * 3) (some (.int .i64 x))).put (n * 3 + 1) (some (.int .i64 y))).put (n * 3 + 1 + 1) (some (.int .i64 z))) := by
  simp only [zcy,zaA,zaY,List.length_cons,List.length_nil]
  rw [zbI (by omega),cond_true,zbI (by omega),cond_true,zbI (by omega),cond_true]
 rw [h3]
 rfl

theorem zlT {x : Int} : zcd x = decide (x = 2305843009213693952) := by
 cases x with
 | ofNat m =>
  simp only [zcd,zaD]
  congr 1
  apply propext
  constructor
  ·intro h; subst h; rfl
  ·intro h; exact Int.ofNat.inj h
 | negSucc m =>
  simp only [zcd]
  symm
  rw [decide_eq_false_iff_not]
  intro h
  have := Int.negSucc_lt_zero m
  omega

structure CoI (h0 : SHeap) (b : Nat) (l : List Value) (i j cnt : Nat) (out : List Value) (st : St) : Prop where
 ds : st.defers = []
 t0 : st.tm.get 0 = some (.pointer (some ⟨b,0,none⟩))
 t7 : st.tm.get 7 = some (.int .i64 (.ofNat i))
 t4 : st.tm.get 4 = some (.int .i64 (.ofNat i))
 t16 : st.tm.get 16 = some (.int .i64 (.ofNat j))
 t15 : st.tm.get 15 = some (.agg ((l.drop (i * 60)).take 60).toArray)
 next : st.h.next = h0.next + 2 * cnt
 hcnt : cnt ≤ i * 60 + j
 hlen : out.length = cnt * 3
 low : ∀ x,x < h0.next → st.h.t.get x = h0.t.get x
 sl : (cnt = 0 ∧ st.tm.get 3 = some (.slice none 0 0)) ∨ (0 < cnt ∧ st.tm.get 3 = some (.slice (some ⟨h0.next + 2 * cnt - 1,0,none⟩) cnt openCap) ∧
  ∃ ct,st.h.t.get (h0.next + 2 * cnt - 1) = some (.cells ct (cnt * 3) 216 true false) ∧ ∀ k,k < cnt * 3 → ct.get k = out[k]?)
 acc : out ++ zda (i * 60 + j) (l.drop (i * 60 + j)) = zda 0 l


theorem zny {l : List Value} {k : Nat} {x : Int} (hl : l[k]? = some (.int .i64 x)) (h : k / 60 = k % 60 ∨ x = 2305843009213693952) : zda k (l.drop k) = zda (k + 1) (l.drop (k + 1)) := by
 have hk : k < l.length := by
  rcases Nat.lt_or_ge k l.length with h' | h'
  ·exact h'
  ·rw [List.getElem?_eq_none h'] at hl; simp at hl
 rw [List.drop_eq_getElem_cons hk]
 rw [List.getElem?_eq_getElem hk] at hl
 rw [Option.some.inj hl,zda,zaY,zfX]
 rcases h with h | h
 ·rw [zaD,decide_eq_true h]; rfl
 ·rw [zlT,decide_eq_true h]
  cases Nat.beq (k / 60) (k % 60) <;> rfl
theorem znP {l : List Value} {k : Nat} {x : Int} (hl : l[k]? = some (.int .i64 x)) (h1 : k / 60 ≠ k % 60) (h2 : x ≠ 2305843009213693952) : zda k (l.drop k) = [.int .i64 (.ofNat (k / 60)),.int .i64 (.ofNat (k % 60)),.int .i64 x] ++ zda (k + 1) (l.drop (k + 1)) := by
 have hk : k < l.length := by
  rcases Nat.lt_or_ge k l.length with h' | h'
  ·exact h'
  ·rw [List.getElem?_eq_none h'] at hl; simp at hl
 rw [List.drop_eq_getElem_cons hk]
 rw [List.getElem?_eq_getElem hk] at hl
 rw [Option.some.inj hl,zda,zaY,zfX,zaD,decide_eq_false h1,zlT,decide_eq_false h2]
 rfl

def CoG (h0 : SHeap) (b : Nat) (l : List Value) (i j : Nat) (st : St) : Prop := ∃ cnt out,CoI h0 b l i j cnt out st

theorem zSk {h0 : SHeap} {b : Nat} {l : List Value} (hn : h0.next + 8000 ≤ lim) (hll : l.length = 3600) (hal : zbg l = true) (i j : Nat) (hi : i < 60) (hj : j < 60) (st : St) (hI : CoG h0 b l i j st) :
  ∃ st',zad zkP (Eo O) ih ⟨140,42,.normal,none⟩ st = .ok (.normal,st') ∧ CoG h0 b l i (j + 1) st' := by
 obtain ⟨tm,h,dd⟩ := st
 obtain ⟨cnt,out,hd,t0,t7,t4,t16,t15,hnx,hcnt,hlen,low,sl,acc⟩ := hI
 simp only at hd t0 t7 t4 t16 t15 hnx low sl
 subst hd
 have hk : i * 60 + j < 3600 := by omega
 obtain ⟨x,hx⟩ := zdt hal (show i * 60 + j < l.length by omega)
 have hrow : (((l.drop (i * 60)).take 60).toArray)[j]? = some (.int .i64 x) := by
  rw [List.getElem?_toArray,List.getElem?_take,if_pos hj,List.getElem?_drop]; exact hx
 have hj' : decide (Int.ofNat j < 60) = true := by simp; omega
 have hj2 : zbh .i64 (Int.ofNat j + 1) = .ofNat (j + 1) := zbo (m := j + 1) (by omega)
 have e1 : (i * 60 + j) / 60 = i := by omega
 have e2 : (i * 60 + j) % 60 = j := by omega
 generalize hr : zad zkP (Eo O) ih ⟨140,42,.normal,none⟩ ⟨tm,h,[]⟩ = r
 unfold zkP zfE at hr
 by_cases hne : i = j
 ·have hne' : (Int.ofNat i != Int.ofNat j) = false := by simp [hne]
  simp only [Tryz.f140,cF,Option.getD,cA,cB,cI,zad,zbs,zbj,zaQ,zaZ,zaT,zbk,zbS,zby,zbq,zbr,zbt,zaE,zbH,zbl,zaB,zaS,zaJ,zaU,zaf,zaq,zan,zbO,zbM,zbU,zax,zbP,zcn,zbV,zao,zaK,zbb,zbc,zaa,lim,Nat.reduceLT,Nat.reduceEqDiff,and_true,if_true,if_false,reduceIte,false_and,true_and,zbx,Nat.beq,cond_true,
   zft,zag,zah,zai,zat,zba,zcw,zct,Option.bind_some,zbp,zaM,zbD,zbn,zbm,zbF,zbK,zbu,List.getElem?_toArray,List.getElem?_cons_succ,List.getElem?_cons_zero,List.drop_succ_cons,List.drop_zero,zav,zcB,zca,zcz,zak,Option.bind_some,zeq,zbi,zci,zaw,zcg,zcA,zaI,zal,zeo,
   t0,t7,t4,t16,t15,hj',hj2,hne',zjQ hj hrow,show (false == true) = false from rfl] at hr
  subst hr
  refine ⟨_,rfl,cnt,out,?_⟩
  refine ⟨rfl,?_,?_,?_,?_,?_,hnx,by omega,hlen,low,?_,?_⟩
  ·simp [zaa,lim,t0]
  ·simp [zaa,lim,t7]
  ·simp [zaa,lim,t4]
  ·simp [zaa,lim]
  ·simp [zaa,lim,t15]
  ·rcases sl with ⟨a,c⟩ | ⟨a,c,d⟩
   ·exact .inl ⟨a,by simp [zaa,lim,c]⟩
   ·exact .inr ⟨a,by simp [zaa,lim,c],d⟩
  ·rw [← acc,zny hx (.inl (by rw [e1,e2]; exact hne))]; rfl
 ·have hne' : (Int.ofNat i != Int.ofNat j) = true := by simp; omega
  by_cases hx0 : x = 2305843009213693952
  ·have hx' : (x != 2305843009213693952) = false := by simp [hx0]
   simp only [Tryz.f140,cF,Option.getD,cA,cB,cI,zad,zbs,zbj,zaQ,zaZ,zaT,zbk,zbS,zby,zbq,zbr,zbt,zaE,zbH,zbl,zaB,zaS,zaJ,zaU,zaf,zaq,zan,zbO,zbM,zbU,zax,zbP,zcn,zbV,zao,zaK,zbb,zbc,zaa,lim,Nat.reduceLT,Nat.reduceEqDiff,and_true,if_true,if_false,reduceIte,false_and,true_and,zbx,Nat.beq,cond_true,
   zft,zag,zah,zai,zat,zba,zcw,zct,Option.bind_some,zbp,zaM,zbD,zbn,zbm,zbF,zbK,zbu,List.getElem?_toArray,List.getElem?_cons_succ,List.getElem?_cons_zero,List.drop_succ_cons,List.drop_zero,zav,zcB,zca,zcz,zak,Option.bind_some,zeq,zbi,zci,zaw,zcg,zcA,zaI,zal,zeo,
    t0,t7,t4,t16,t15,hj',hj2,hne',hx',zft,zjQ hj hrow,show (true == true) = true from rfl] at hr
   subst hr
   refine ⟨_,rfl,cnt,out,?_⟩
   refine ⟨rfl,?_,?_,?_,?_,?_,hnx,by omega,hlen,low,?_,?_⟩
   ·simp [zaa,lim,t0]
   ·simp [zaa,lim,t7]
   ·simp [zaa,lim,t4]
   ·simp [zaa,lim]
   ·simp [zaa,lim,t15]
   ·rcases sl with ⟨a,c⟩ | ⟨a,c,d⟩
    ·exact .inl ⟨a,by simp [zaa,lim,c]⟩
    ·exact .inr ⟨a,by simp [zaa,lim,c],d⟩
   ·rw [← acc,zny hx (.inr hx0)]; rfl
  ·have hx' : (x != 2305843009213693952) = true := by simp [hx0]
   have hb1 : (zaj h 216 [.int .i64 (.ofNat i),.int .i64 (.ofNat j),.int .i64 x] false).t.get h.next = some (.cells (Tr.ofL 33 [.int .i64 (.ofNat i),.int .i64 (.ofNat j),.int .i64 x]) 3 216 false false) := by
    simp only [zaj,SHeap.new,zaa]
    rw [if_pos ⟨trivial,by omega⟩]
    rfl
   have hn1 : ∀ (h : SHeap) (cs : List Value) (o : Bool),(zaj h 216 cs o).next = h.next + 1 := fun _ _ _ => rfl
   rcases sl with ⟨rfl,c3⟩ | ⟨hpos,c3,ct,c4,c5⟩
   ·have ap : ∀ (cal : Callee) (a : Array Operand),zfo (Eo O) ⟨cal,a,#[40,40]⟩ [.slice none 0 0,.slice (some ⟨h.next,0,none⟩) 1 1] (zaj h 216 [.int .i64 (.ofNat i),.int .i64 (.ofNat j),.int .i64 x] false) = _ := fun _ _ => append_nil rfl hb1
    simp only [Tryz.f140,cF,Option.getD,cA,cB,cI,zad,zbs,zbj,zaQ,zaZ,zaT,zbk,zbS,zby,zbq,zbr,zbt,zaE,zbH,zbl,zaB,zaS,zaJ,zaU,zaf,zaq,zan,zbO,zbM,zbU,zax,zbP,zcn,zbV,zao,zaK,zbb,zbc,zaa,lim,Nat.reduceLT,Nat.reduceEqDiff,and_true,if_true,if_false,reduceIte,false_and,true_and,zbx,Nat.beq,cond_true,
   zag,zah,zai,zat,zba,zcw,zct,Option.bind_some,zbp,zaM,zbD,zbn,zbm,zbF,zbK,zbu,List.getElem?_toArray,List.getElem?_cons_succ,List.getElem?_cons_zero,List.drop_succ_cons,List.drop_zero,zav,zcB,zca,zcz,zak,Option.bind_some,zeq,zbi,zci,zaw,zcg,zcA,zaI,zal,zeo,
     t0,t7,t4,t16,t15,c3,hj',hj2,hne',hx',zft,zjQ hj hrow,show (true == true) = true from rfl,zts,zko,ap] at hr
    subst hr
    refine ⟨_,rfl,0 + 1,out ++ [.int .i64 (.ofNat i),.int .i64 (.ofNat j),.int .i64 x],?_⟩
    refine ⟨rfl,?_,?_,?_,?_,?_,?_,by omega,by simp only [List.length_append,hlen,List.length_cons,List.length_nil],?_,.inr ⟨by omega,?_,?_⟩,?_⟩
    ·simp [zaa,lim,t0]
    ·simp [zaa,lim,t7]
    ·simp [zaa,lim,t4]
    ·simp [zaa,lim]
    ·simp [zaa,lim,t15]
    ·simp only [hn1,hnx]
    ·intro y hy
     simp only [zaj,SHeap.new,zaa]
     rw [if_neg (by omega),if_neg (by omega)]
     exact low y hy
    ·simp only [zaa,hn1,hnx,lim,Nat.reduceLT,Nat.reduceEqDiff,and_true,if_true,if_false]
     rfl
    ·refine ⟨Tr.ofL 33 [.int .i64 (.ofNat i),.int .i64 (.ofNat j),.int .i64 x],?_,fun k hk => ?_⟩
     ·rw [show h0.next + 2 * (0 + 1) - 1 = h.next + 1 by omega]
      show ((zaj h 216 _ false).t.put (h.next + 1) _).get (h.next + 1) = _
      rw [zaa,if_pos ⟨rfl,by omega⟩]
      rfl
     ·rw [zbd (by unfold lim; omega)]
      have : out = [] := List.eq_nil_of_length_eq_zero (by omega)
      subst this
      rfl
    ·rw [← acc,znP hx (by rw [e1,e2]; exact hne) hx0,e1,e2,List.append_assoc]; rfl
   ·have ap : ∀ (cal : Callee) (a : Array Operand),zfo (Eo O) ⟨cal,a,#[40,40]⟩ [.slice (some ⟨h0.next + 2 * cnt - 1,0,none⟩) cnt openCap,.slice (some ⟨h.next,0,none⟩) 1 1] (zaj h 216 [.int .i64 (.ofNat i),.int .i64 (.ofNat j),.int .i64 x] false) = _ := fun _ _ => zsX rfl hb1 (by
     simp only [zaj,SHeap.new,zaa]
     rw [if_neg (by omega)]
     exact c4) (by omega)
    simp only [Tryz.f140,cF,Option.getD,cA,cB,cI,zad,zbs,zbj,zaQ,zaZ,zaT,zbk,zbS,zby,zbq,zbr,zbt,zaE,zbH,zbl,zaB,zaS,zaJ,zaU,zaf,zaq,zan,zbO,zbM,zbU,zax,zbP,zcn,zbV,zao,zaK,zbb,zbc,zaa,lim,Nat.reduceLT,Nat.reduceEqDiff,and_true,if_true,if_false,reduceIte,false_and,true_and,zbx,Nat.beq,cond_true,
   zag,zah,zai,zat,zba,zcw,zct,Option.bind_some,zbp,zaM,zbD,zbn,zbm,zbF,zbK,zbu,List.getElem?_toArray,List.getElem?_cons_succ,List.getElem?_cons_zero,List.drop_succ_cons,List.drop_zero,zav,zcB,zca,zcz,zak,Option.bind_some,zeq,zbi,zci,zaw,zcg,zcA,zaI,zal,zeo,
     t0,t7,t4,t16,t15,c3,hj',hj2,hne',hx',zft,zjQ hj hrow,show (true == true) = true from rfl,zts,zko,ap] at hr
    subst hr
    refine ⟨_,rfl,cnt + 1,out ++ [.int .i64 (.ofNat i),.int .i64 (.ofNat j),.int .i64 x],?_⟩
    refine ⟨rfl,?_,?_,?_,?_,?_,?_,by omega,by simp only [List.length_append,hlen,List.length_cons,List.length_nil]; omega,?_,.inr ⟨by omega,?_,?_⟩,?_⟩
    ·simp [zaa,lim,t0]
    ·simp [zaa,lim,t7]
    ·simp [zaa,lim,t4]
    ·simp [zaa,lim]
    ·simp [zaa,lim,t15]
    ·simp only [SHeap.new,SHeap.set,hn1,hnx]; omega
    ·intro y hy
     simp only [zaj,SHeap.new,SHeap.set,zaa]
     rw [if_neg (by omega),if_neg (by omega),if_neg (by omega)]
     exact low y hy
    ·simp only [zaa,hn1,hnx,lim,Nat.reduceLT,Nat.reduceEqDiff,and_true,if_true,if_false]
     rw [show h0.next + 2 * cnt + 1 = h0.next + 2 * (cnt + 1) - 1 by omega]
    ·refine ⟨((ct.put (cnt * 3) (some (.int .i64 (.ofNat i)))).put (cnt * 3 + 1) (some (.int .i64 (.ofNat j)))).put (cnt * 3 + 1 + 1) (some (.int .i64 x)),?_,fun k hk => ?_⟩
     ·rw [show h0.next + 2 * (cnt + 1) - 1 = h.next + 1 by omega]
      show ((SHeap.set (zaj h 216 _ false) _ none).t.put (h.next + 1) _).get (h.next + 1) = _
      rw [zaa,if_pos ⟨rfl,by omega⟩,show cnt * 3 + 3 = (cnt + 1) * 3 by omega]
     ·have h0' : h0.next ≤ 4294967296 := by unfold lim at hn; omega
      simp only [zaa]
      by_cases q3 : k = cnt * 3 + 1 + 1
      ·rw [if_pos ⟨q3,by unfold lim; omega⟩,List.getElem?_append_right (by omega),show k - out.length = 2 by omega]; rfl
      ·rw [if_neg (by omega)]
       by_cases q2 : k = cnt * 3 + 1
       ·rw [if_pos ⟨q2,by unfold lim; omega⟩,List.getElem?_append_right (by omega),show k - out.length = 1 by omega]; rfl
       ·rw [if_neg (by omega)]
        by_cases q1 : k = cnt * 3
        ·rw [if_pos ⟨q1,by unfold lim; omega⟩,List.getElem?_append_right (by omega),show k - out.length = 0 by omega]; rfl
        ·rw [if_neg (by omega),c5 k (by omega),List.getElem?_append_left (by omega)]
    ·rw [← acc,znP hx (by rw [e1,e2]; exact hne) hx0,e1,e2,List.append_assoc]; rfl


structure CoJ (h0 : SHeap) (b : Nat) (l : List Value) (i cnt : Nat) (out : List Value) (st : St) : Prop where
 ds : st.defers = []
 t0 : st.tm.get 0 = some (.pointer (some ⟨b,0,none⟩))
 t7 : st.tm.get 7 = some (.int .i64 (.ofNat i))
 next : st.h.next = h0.next + 2 * cnt
 hcnt : cnt ≤ i * 60
 hlen : out.length = cnt * 3
 low : ∀ x,x < h0.next → st.h.t.get x = h0.t.get x
 sl : (cnt = 0 ∧ st.tm.get 3 = some (.slice none 0 0)) ∨ (0 < cnt ∧ st.tm.get 3 = some (.slice (some ⟨h0.next + 2 * cnt - 1,0,none⟩) cnt openCap) ∧
  ∃ ct,st.h.t.get (h0.next + 2 * cnt - 1) = some (.cells ct (cnt * 3) 216 true false) ∧ ∀ k,k < cnt * 3 → ct.get k = out[k]?)
 acc : out ++ zda (i * 60) (l.drop (i * 60)) = zda 0 l
def CoK (h0 : SHeap) (b : Nat) (l : List Value) (i : Nat) (st : St) : Prop := ∃ cnt out,CoJ h0 b l i cnt out st

theorem zwk {h0 : SHeap} {b : Nat} {l : List Value} (i : Nat) (st : St) (hI : CoG h0 b l i 60 st) :
  ∃ st',zad zkP (Eo O) ih ⟨140,42,.normal,none⟩ st = .ok (.exit 2,st') ∧ CoK h0 b l (i + 1) ⟨(st'.tm.put 35 (some (.int .i64 (.ofNat (i + 1))))).put 7 (some (.int .i64 (.ofNat (i + 1)))),st'.h,st'.defers⟩ ∧ st'.tm.get 7 = some (.int .i64 (.ofNat i)) := by
 obtain ⟨tm,h,dd⟩ := st
 obtain ⟨cnt,out,hd,t0,t7,t4,t16,t15,hnx,hcnt,hlen,low,sl,acc⟩ := hI
 simp only at hd t0 t7 t4 t16 t15 hnx low sl
 subst hd
 have hj' : decide (Int.ofNat 60 < 60) = false := by decide
 generalize hr : zad zkP (Eo O) ih ⟨140,42,.normal,none⟩ ⟨tm,h,[]⟩ = r
 unfold zkP zfE at hr
 simp only [Tryz.f140,cF,Option.getD,cA,cB,cI,zad,zbs,zbj,zaQ,zaZ,zaT,zbk,zbS,zby,zbq,zbr,zbt,zaE,zbH,zbl,zaB,zaS,zaJ,zaU,zaf,zaq,zan,zbO,zbM,zbU,zax,zbP,zcn,zbV,zao,zaK,zbb,zbc,zaa,lim,Nat.reduceLT,Nat.reduceEqDiff,and_true,if_true,if_false,reduceIte,false_and,true_and,zbx,Nat.beq,cond_true,
   zag,zah,zai,zat,zba,zcw,zct,Option.bind_some,zbp,zaM,zbD,zbn,zbm,zbF,zbK,zbu,List.getElem?_toArray,List.getElem?_cons_succ,List.getElem?_cons_zero,List.drop_succ_cons,List.drop_zero,zav,zcB,zca,zcz,zak,Option.bind_some,zeq,zbi,zci,zaw,zcg,zcA,zaI,zal,zeo,t16,hj'] at hr
 subst hr
 refine ⟨_,rfl,⟨cnt,out,?_⟩,by simp [zaa,lim,t7]⟩
 refine ⟨rfl,?_,?_,hnx,by omega,hlen,low,?_,?_⟩
 ·simp [zaa,lim,t0]
 ·simp [zaa,lim]
 ·rcases sl with ⟨a,c⟩ | ⟨a,c,d⟩
  ·exact .inl ⟨a,by simp [zaa,lim,c]⟩
  ·exact .inr ⟨a,by simp [zaa,lim,c],d⟩
 ·rw [← acc,show (i + 1) * 60 = i * 60 + 60 by omega]

theorem zKM {h0 : SHeap} {b : Nat} {l : List Value} (hn : h0.next + 8000 ≤ lim) (hll : l.length = 3600) (hal : zbg l = true) (hb0 : b < h0.next) {c0 : Tr Value} {e0 : Nat} {o0 r0 : Bool} {q0 : Value} (hbk : h0.t.get b = some (.cells c0 3601 e0 o0 r0)) (hc0 : c0.toL 32 3601 = some (q0 :: l))
  (i : Nat) (hi : i < 60) (st : St) (hI : CoK h0 b l i st) :
  ∃ st',zad zfE (Eo O) ih ⟨140,42,.normal,none⟩ st = .ok (.normal,st') ∧ CoK h0 b l (i + 1) st' := by
 obtain ⟨tm,h,dd⟩ := st
 obtain ⟨cnt,out,hd,t0,t7,hnx,hcnt,hlen,low,sl,acc⟩ := hI
 simp only at hd t0 t7 hnx low sl
 subst hd
 have hj' : decide (Int.ofNat i < 60) = true := by simp; omega
 have hj2 : zbh .i64 (Int.ofNat i + 1) = .ofNat (i + 1) := zbo (m := i + 1) (by omega)
 have ld := zLE (O := O) (h := h) (by rw [low b hb0]; exact hbk) hc0 hi
 generalize hr : zad zfE (Eo O) ih ⟨140,42,.normal,none⟩ ⟨tm,h,[]⟩ = r
 obtain ⟨tmk,hk⟩ : ∃ tmk,tmk = ((((((((((tm.put 8 (some (.bool true))).put 9 (some (.int .i64 (.ofNat i)))).put 4 (some (.int .i64 (.ofNat i)))).put 10 (some (.pointer (some ⟨b,0,none⟩)))).put 11 (some (.int .i64 (.ofNat i)))).put 12 (some (.pointer (some ⟨b,0,none⟩)))).put 13 (some (.pointer (some ⟨b,0 + 1,none⟩)))).put 14 (some (.pointer (some ⟨b,0 + 1 + i * 60,none⟩)))).put 15 (some (.agg ((l.drop (i * 60)).take 60).toArray))).put 16 (some (.int .i64 0))) := ⟨_,rfl⟩
 have hin : CoG h0 b l i 0 ⟨tmk,h,[]⟩ := by
  subst hk
  refine ⟨cnt,out,rfl,?_,?_,?_,?_,?_,hnx,by omega,hlen,low,?_,acc⟩
  ·simp [zaa,lim,t0]
  ·simp [zaa,lim,t7]
  ·simp [zaa,lim]
  ·simp [zaa,lim]
  ·simp [zaa,lim]
  ·rcases sl with ⟨a,c⟩ | ⟨a,c,d⟩
   ·exact .inl ⟨a,by simp [zaa,lim,c]⟩
   ·exact .inr ⟨a,by simp [zaa,lim,c],d⟩
 obtain ⟨⟨tm',h',dd'⟩,e1,e2,e3⟩ := zgG (f := zad zkP (Eo O) ih ⟨140,42,.normal,none⟩) (I := CoG h0 b l i) (N := 60) (id := 2) (Q := fun st' => CoK h0 b l (i + 1) ⟨(st'.tm.put 35 (some (.int .i64 (.ofNat (i + 1))))).put 7 (some (.int .i64 (.ofNat (i + 1)))),st'.h,st'.defers⟩ ∧ st'.tm.get 7 = some (.int .i64 (.ofNat i)))
  (fun j st hj hI => zSk hn hll hal i j hi hj st hI) (fun st hI => zwk i st hI) 60 1000000 0 _ (by omega) (by omega) hin
 subst hk
 unfold zkP zfE at e1
 unfold zfE at hr
 simp only [Tryz.f140,cF,Option.getD,cA,cB,cI,zad] at e1
 simp only at e3
 simp only [Tryz.f140,cF,Option.getD,cA,cB,cI,zad,zbs,zbj,zaQ,zaZ,zaT,zbk,zbS,zby,zbq,zbr,zbt,zaE,zbH,zbl,zaB,zaS,zaJ,zaU,zaf,zaq,zan,zbO,zbM,zbU,zax,zbP,zcn,zbV,zao,zaK,zbb,zbc,zaa,lim,Nat.reduceLT,Nat.reduceEqDiff,and_true,if_true,if_false,reduceIte,false_and,true_and,zbx,Nat.beq,cond_true,
   zag,zah,zai,zat,zba,zcw,zct,Option.bind_some,zbp,zaM,zbD,zbn,zbm,zbF,zbK,zbu,List.getElem?_toArray,List.getElem?_cons_succ,List.getElem?_cons_zero,List.drop_succ_cons,List.drop_zero,zav,zcB,zca,zcz,zak,Option.bind_some,zeq,zbi,zci,zaw,zcg,zcA,zaI,zal,zeo,t0,t7,hj',hj2,zcF hi,ld,e1,e3] at hr
 subst hr
 exact ⟨_,rfl,e2⟩

theorem zuF {h0 : SHeap} {b : Nat} {l : List Value} (st : St) (hI : CoK h0 b l 60 st) :
  ∃ st',zad zfE (Eo O) ih ⟨140,42,.normal,none⟩ st = .ok (.exit 0,st') ∧ CoK h0 b l 60 st' := by
 obtain ⟨tm,h,dd⟩ := st
 obtain ⟨cnt,out,hd,t0,t7,hnx,hcnt,hlen,low,sl,acc⟩ := hI
 simp only at hd t0 t7 hnx low sl
 subst hd
 have hj' : decide (Int.ofNat 60 < 60) = false := by decide
 generalize hr : zad zfE (Eo O) ih ⟨140,42,.normal,none⟩ ⟨tm,h,[]⟩ = r
 unfold zfE at hr
 simp only [Tryz.f140,cF,Option.getD,cA,cB,cI,zad,zbs,zbj,zaQ,zaZ,zaT,zbk,zbS,zby,zbq,zbr,zbt,zaE,zbH,zbl,zaB,zaS,zaJ,zaU,zaf,zaq,zan,zbO,zbM,zbU,zax,zbP,zcn,zbV,zao,zaK,zbb,zbc,zaa,lim,Nat.reduceLT,Nat.reduceEqDiff,and_true,if_true,if_false,reduceIte,false_and,true_and,zbx,Nat.beq,cond_true,
   zag,zah,zai,zat,zba,zcw,zct,Option.bind_some,zbp,zaM,zbD,zbn,zbm,zbF,zbK,zbu,List.getElem?_toArray,List.getElem?_cons_succ,List.getElem?_cons_zero,List.drop_succ_cons,List.drop_zero,zav,zcB,zca,zcz,zak,Option.bind_some,zeq,zbi,zci,zaw,zcg,zcA,zaI,zal,zeo,t7,hj'] at hr
 subst hr
 refine ⟨_,rfl,cnt,out,?_⟩
 refine ⟨rfl,?_,?_,hnx,by omega,hlen,low,?_,acc⟩
 ·simp [zaa,lim,t0]
 ·simp [zaa,lim,t7]
 ·rcases sl with ⟨a,c⟩ | ⟨a,c,d⟩
  ·exact .inl ⟨a,by simp [zaa,lim,c]⟩
  ·exact .inr ⟨a,by simp [zaa,lim,c],d⟩


theorem zAf {ev : Ev} {op : Oper} {a : Option Addr} {n c : Nat} {h : SHeap} : zlO (Eo O) ev op ((Eo O).T 40) (.slice a n c) h = .ok (.value (.int .i64 (.ofNat n)),h) := by
 rw [E27]
 rfl
theorem zsW {ev : Ev} {op : Oper} {h : SHeap} : zho (Eo O) ev op 40 (some (.slice none 0 0)) none (some (some (.int .i64 (.ofNat 0)))) (some (some (.int .i64 (.ofNat 0)))) h = .ok (.value (.slice none 0 0),h) := by kernel_rfl
theorem zrx {ev : Ev} {op : Oper} {h : SHeap} {r n : Nat} (h0 : 0 < n) (hn : n ≤ 3600) : zho (Eo O) ev op 40 (some (.slice (some ⟨r,0,none⟩) n openCap)) none (some (some (.int .i64 (.ofNat n)))) (some (some (.int .i64 (.ofNat n)))) h = .ok (.value (.slice (some ⟨r,0,none⟩) n n),h) := by
 simp only [zho,zrn,zeu,zbp,E27,zfq,E32,Option.getD]
 have e : openCap = 1180591620717411303424 := rfl
 rw [if_neg]
 ·rw [if_neg (by omega)]
  simp [zbN,zao]
 ·simp [e]
  omega

theorem zBx {h0 : SHeap} {b : Nat} {l : List Value} (hn : h0.next + 8000 ≤ lim) (hll : l.length = 3600) (hal : zbg l = true) (hb0 : b < h0.next) {c0 : Tr Value} {e0 : Nat} {o0 r0 : Bool} {q0 : Value} (hbk : h0.t.get b = some (.cells c0 3601 e0 o0 r0)) (hc0 : c0.toL 32 3601 = some (q0 :: l))
  {tm : Tr Value} (t0 : tm.get 0 = some (.pointer (some ⟨b,0,none⟩))) :
  ∃ tm' h' cnt,zad (cF Tryz.f140) (Eo O) ih ⟨140,42,.normal,none⟩ ⟨tm,h0,[]⟩ = .ok (.ret,⟨tm',h',[]⟩) ∧ (zda 0 l).length = cnt * 3 ∧ cnt ≤ 3600 ∧ h'.next = h0.next + 2 * cnt ∧ (∀ x,x < h0.next → h'.t.get x = h0.t.get x) ∧
   ((cnt = 0 ∧ tm'.get 2 = some (.slice none 0 0)) ∨ (0 < cnt ∧ tm'.get 2 = some (.slice (some ⟨h0.next + 2 * cnt - 1,0,none⟩) cnt cnt) ∧ ∃ ct,h'.t.get (h0.next + 2 * cnt - 1) = some (.cells ct (cnt * 3) 216 true false) ∧ ∀ k,k < cnt * 3 → ct.get k = (zda 0 l)[k]?)) := by
 obtain ⟨tmk,hk⟩ : ∃ tmk,tmk = (((tm.put 2 (some (.slice none 0 0))).put 3 (some (.slice none 0 0))).put 7 (some (.int .i64 0))) := ⟨_,rfl⟩
 have hin : CoK h0 b l 0 ⟨tmk,h0,[]⟩ := by
  subst hk
  refine ⟨0,[],rfl,?_,?_,rfl,by omega,rfl,fun _ _ => rfl,.inl ⟨rfl,?_⟩,by simp⟩
  ·simp [zaa,lim,t0]
  ·simp [zaa,lim]
  ·simp [zaa,lim]
 obtain ⟨⟨tm1,h1,dd1⟩,e1,e2⟩ := zgG (f := zad zfE (Eo O) ih ⟨140,42,.normal,none⟩) (I := CoK h0 b l) (N := 60) (id := 0) (Q := CoK h0 b l 60)
  (fun j st hj hI => zKM hn hll hal hb0 hbk hc0 j hj st hI) (fun st hI => zuF st hI) 60 1000000 0 _ (by omega) (by omega) hin
 subst hk
 unfold zfE at e1
 simp only [Tryz.f140,cF,Option.getD,cA,cB,cI,zad] at e1
 generalize hr : zad (cF Tryz.f140) (Eo O) ih ⟨140,42,.normal,none⟩ ⟨tm,h0,[]⟩ = r
 obtain ⟨cnt,out,hd,u0,u7,hnx,hcnt,hlen,low,sl,acc⟩ := e2
 simp only at hd u0 u7 hnx low sl
 subst hd
 have hout : out = zda 0 l := by
  rw [← acc,List.drop_of_length_le (by omega)]
  simp [zda]
 subst hout
 have sn : ∀ G (tm : Tr Value),evT G tm (.const (.slice none 0 0)) = some (.slice none 0 0) := fun _ _ => rfl
 have hm : ∀ (f : Operand → Option Value) (x : Operand),(some x).map f = some (f x) := fun _ _ => rfl
 have hm0 : ∀ (f : Operand → Option Value),(none : Option Operand).map f = none := fun _ => rfl
 rcases sl with ⟨rfl,c3⟩ | ⟨hpos,c3,ct,c4,c5⟩
 ·simp only [Tryz.f140,cF,Option.getD,cA,cB,cI,zad,zbs,zbj,zaQ,zaZ,zaT,zbk,zbS,zby,zbq,zbr,zbt,zaE,zbH,zbl,zaB,zaS,zaJ,zaU,zaf,zaq,zan,zbO,zbM,zbU,zax,zbP,zcn,zbV,zao,zaK,zbb,zbc,zaa,lim,Nat.reduceLT,Nat.reduceEqDiff,and_true,if_true,if_false,reduceIte,false_and,true_and,zbx,Nat.beq,cond_true,
   zag,zah,zai,zat,zba,zcw,zct,Option.bind_some,zbp,zaM,zbD,zbn,zbm,zbF,zbK,zbu,List.getElem?_toArray,List.getElem?_cons_succ,List.getElem?_cons_zero,List.drop_succ_cons,List.drop_zero,zav,zcB,zca,zcz,zak,Option.bind_some,zeq,zbi,zci,zaw,zcg,zcA,zaI,zal,zeo,sn,e1,c3,zAf,hm,hm0,zsW] at hr
  subst hr
  exact ⟨_,h1,0,rfl,hlen,by omega,hnx,low,.inl ⟨rfl,by simp [zaa,lim]⟩⟩
 ·simp only [Tryz.f140,cF,Option.getD,cA,cB,cI,zad,zbs,zbj,zaQ,zaZ,zaT,zbk,zbS,zby,zbq,zbr,zbt,zaE,zbH,zbl,zaB,zaS,zaJ,zaU,zaf,zaq,zan,zbO,zbM,zbU,zax,zbP,zcn,zbV,zao,zaK,zbb,zbc,zaa,lim,Nat.reduceLT,Nat.reduceEqDiff,and_true,if_true,if_false,reduceIte,false_and,true_and,zbx,Nat.beq,cond_true,
   zag,zah,zai,zat,zba,zcw,zct,Option.bind_some,zbp,zaM,zbD,zbn,zbm,zbF,zbK,zbu,List.getElem?_toArray,List.getElem?_cons_succ,List.getElem?_cons_zero,List.drop_succ_cons,List.drop_zero,zav,zcB,zca,zcz,zak,Option.bind_some,zeq,zbi,zci,zaw,zcg,zcA,zaI,zal,zeo,sn,e1,c3,zAf,hm,hm0,zrx hpos (show cnt ≤ 3600 by omega)] at hr
  subst hr
  exact ⟨_,h1,cnt,rfl,hlen,by omega,hnx,low,.inr ⟨hpos,by simp [zaa,lim],ct,c4,c5⟩⟩


theorem zBN : Tryz.f140.body = some (cF Tryz.f140) := rfl
theorem zPH : (Eo O).F 140 = some Tryz.f140 := by show Tab.funcs.get 140 = _; kernel_rfl
theorem zVX {a : Value} : max Tryz.f140.ntmps (#[a] : Array Value).size = 42 := rfl
theorem zDS : Tryz.f140.results.toList = [.tmp 2] := rfl

theorem zzN {n : Nat} (hO : O 140 = none) {args : Array Value} {h h' : SHeap} {v : Value} (hlow : ∀ b o,h.t.get b = some o → b < h.next) (hok : consQ args.toList h = .ok (v,h')) :
  ∃ h'',run (Eo O) (n + 1) (.call 140 args .normal) h = .ok (v,h'') ∧ h''.next = h'.next ∧ ∀ b o,h'.t.get b = some o → ∃ o2,h''.t.get b = some o2 ∧ ObjLe (Eo O) o2 o := by
 unfold consQ at hok
 split at hok
 ·rename_i b hargs
  unfold zul at hok
  split at hok
  ·rename_i c n1 q1 o1 r1 hb
   cases hc : (Nat.beq n1 3601 && Nat.ble (h.next + 8000) lim && Nat.blt b h.next) with
   | false => rw [hc] at hok; simp at hok
   | true =>
    rw [hc,cond_true] at hok
    simp only [Bool.and_eq_true] at hc
    obtain ⟨⟨x1,x2⟩,x3⟩ := hc
    obtain rfl := Nat.eq_of_beq_eq_true x1
    have x2 := Nat.le_of_ble_eq_true x2
    have x3 := zaH x3
    unfold zuS at hok
    split at hok
    ·rename_i e l hl
     cases ha : zbg l with
     | false => rw [ha] at hok; simp at hok
     | true =>
      rw [ha,cond_true] at hok
      have hll : l.length = 3600 := by have := (zcv hl).1; simpa using this
      have harr : args = #[.pointer (some ⟨b,0,none⟩)] := Array.toList_inj.1 hargs
      subst harr
      obtain ⟨tm',h1,cnt,k1,k2,k3,k4,k5,k6⟩ := zBx (O := O) (ih := run (Eo O) n) x2 hll ha x3 hb hl (tm := Tr.ofL 33 [.pointer (some ⟨b,0,none⟩)]) rfl
      rw [k2,Nat.mul_div_cancel _ (by omega)] at hok
      have fin : ∀ u,tm'.get 2 = some u → run (Eo O) (n + 1) (.call 140 #[.pointer (some ⟨b,0,none⟩)] .normal) h = .ok (u,h1) := fun u hu =>
       (zbB (show (Eo O).O 140 = none from hO)).trans (zaW (vs := [u]) zPH zBN zVX rfl zDS k1 (by simp only [zaV,hu,zcT]))
      refine ⟨h1,?_⟩
      rcases k6 with ⟨rfl,c1⟩ | ⟨hpos,c1,ct,c2,c3⟩
      ·have : zda 0 l = [] := List.eq_nil_of_length_eq_zero (by omega)
       rw [this] at hok
       simp only [zqh,Except.ok.injEq,Prod.mk.injEq] at hok
       obtain ⟨rfl,rfl⟩ := hok
       exact ⟨fin _ c1,k4,fun x o hx => ⟨o,by rw [k5 x (hlow x o hx)]; exact hx,ObjLe.refl o⟩⟩
      ·unfold zqh at hok
       split at hok
       ·rename_i h0; rw [h0] at k2; simp at k2; omega
       ·rename_i a r h0
        simp only [Except.ok.injEq,Prod.mk.injEq] at hok
        obtain ⟨rfl,rfl⟩ := hok
        refine ⟨fin _ c1,k4,fun x o hx => ?_⟩
        simp only [zaa] at hx
        split at hx
        ·rename_i hxx
         obtain ⟨rfl,_⟩ := hxx
         simp only [Option.some.injEq] at hx
         subst hx
         refine ⟨_,c2,ObjLe.cells fun i v hi => ?_⟩
         have hi := zcJ hi
         have : i < (zda 0 l).length := by
          rcases Nat.lt_or_ge i (zda 0 l).length with h | h
          ·exact h
          ·rw [List.getElem?_eq_none h] at hi; simp at hi
         rw [c3 i (by omega)]
         exact hi
        ·exact ⟨o,by rw [k5 x (hlow x o hx)]; exact hx,ObjLe.refl o⟩
    ·simp at hok
  ·simp at hok
 ·simp at hok

theorem zAF (KE : EnvOK (Eo O)) (hdraw : zcD (Eo O)) (hOK : ∀ f g,(Eo O).O f = some g → zaN (Eo O) f g) (hO : O 140 = none) : zaN (Eo O) 140 consQ :=
 zcG (zcU KE hdraw hOK 1) fun args h v h' hlow hok => zzN hO hlow hok

end Go.Proofs.YtgdkljcnebaiiaaGreat

set_option linter.unusedSimpArgs false
set_option linter.unusedVariables false
namespace Go.Proofs.YtgdkljcnebaiiaaGreat
open Go Go.Sim
set_option maxRecDepth 100000
variable {O : Nat → Option (List Value → SHeap → Except String (Value × SHeap))} {ih : K}

theorem zBt : Tryz.f251.body = some (cF Tryz.f251) := rfl
theorem zQW : (Eo O).F 251 = some Tryz.f251 := by show Tab.funcs.get 251 = _; kernel_rfl
theorem zTy {a b : Value} : max Tryz.f251.ntmps (#[a,b] : Array Value).size = 24 := rfl
theorem zGL : Tryz.f251.results.toList = [.tmp 4] := rfl
theorem zmL {E : Env} {ev : Ev} {o : Oper} {t : TypeId} {x y : Int} {h : SHeap} : zem E ev o .eql t (some (.int .i64 x)) (some (.int .i64 y)) h = .ok (.value (.bool (x == y)),h) := zfp rfl

theorem zlM {n : Nat} (hO : O 251 = none) {a b : Int} {h : SHeap} : run (Eo O) (n + 1) (.call 251 #[.int .i64 a,.int .i64 b] .normal) h = .ok (.int .i64 (zaL a b),h) := by
 suffices hc : ∃ tm',zad (cF Tryz.f251) (Eo O) (run (Eo O) n) ⟨251,24,.normal,none⟩ ⟨Tr.ofL 33 [.int .i64 a,.int .i64 b],h,[]⟩ = .ok (.ret,⟨tm',h,[]⟩) ∧ tm'.get 4 = some (.int .i64 (zaL a b)) by
  obtain ⟨tm',k1,k2⟩ := hc
  exact (zbB (show (Eo O).O 251 = none from hO)).trans (zaW (vs := [_]) zQW zBt zTy rfl zGL k1 (by simp only [zaV,k2,zcT]))
 generalize hr : zad (cF Tryz.f251) (Eo O) (run (Eo O) n) ⟨251,24,.normal,none⟩ ⟨Tr.ofL 33 [.int .i64 a,.int .i64 b],h,[]⟩ = r
 have t0 : (Tr.ofL 33 [Value.int .i64 a,.int .i64 b]).get 0 = some (.int .i64 a) := rfl
 have t1 : (Tr.ofL 33 [Value.int .i64 a,.int .i64 b]).get 1 = some (.int .i64 b) := rfl
 generalize Tr.ofL 33 [Value.int .i64 a,.int .i64 b] = tm at hr t0 t1
 unfold zaL
 generalize hs : zbh .i64 (a + b) = s at hr ⊢
 cases c1 : (a == 2305843009213693952) <;> cases c2 : (b == 2305843009213693952) <;> cases c3 : decide (s > 1152921504606846976) <;> cases c4 : decide (s < -1152921504606846976) <;>
 ·simp only [Tryz.f251,cF,Option.getD,cA,cB,cI,zad,zbs,zbj,zaQ,zaZ,zaT,zbk,zbS,zby,zbq,zbr,zbt,zaE,zbH,zbl,zaB,zaS,zaJ,zaU,zaf,zaq,zan,zbO,zbM,zbU,zax,zbP,zcn,zbV,zmL,zao,zaK,zbb,zbc,zaa,lim,Nat.reduceLT,Nat.reduceEqDiff,and_true,if_true,if_false,reduceIte,false_and,true_and,zbx,Nat.beq,cond_true,cond_false,
   Option.bind_some,zbp,zbK,zbu,List.getElem?_toArray,List.getElem?_cons_succ,List.getElem?_cons_zero,List.drop_succ_cons,List.drop_zero,zcz,zak,zav,zcB,zca,t0,t1,hs,c1,c2,c3,c4,bqa,bqb,bqc,bqd] at hr
  subst hr
  exact ⟨_,rfl,by simp [zaa,lim]⟩

theorem zGk (KE : EnvOK (Eo O)) (hdraw : zcD (Eo O)) (hOK : ∀ f g,(Eo O).O f = some g → zaN (Eo O) f g) (hO : O 251 = none) : zaN (Eo O) 251 sumQ := by
 intro args h v h' hok ρ w hw hg rargs ha c cs
 obtain ⟨l⟩ := args
 unfold sumQ at hok
 split at hok
 ·rename_i a b e
  obtain ⟨rfl,rfl⟩ := zas hok
  have e : l = [.int .i64 a,.int .i64 b] := e
  subst e
  exact zcU KE hdraw hOK 1 _ _ _ _ (zlM (n := 0) hO) ρ w hw hg rargs ha c cs (.inl rfl)
 ·simp at hok

end Go.Proofs.YtgdkljcnebaiiaaGreat

set_option linter.unusedSimpArgs false
set_option linter.unusedVariables false
namespace Go.Sim
open Go
def zbY : Code → List (Array Oper)
 | .seq a b => zbY a ++ zbY b
 | .cond _ a b => zbY a ++ zbY b
 | .block _ b => zbY b
 | .loop b => zbY b
 | .scope b => zbY b
 | .region _ ops d => match d with
  | true => [ops]
  | false => []
 | _ => []
def zeS : List (Array Oper) → Nat → Array Oper
 | [],_ => #[]
 | x :: _,0 => x
 | _ :: r,n + 1 => zeS r n

theorem zkd {ih : K} {g : FuncId} {args : Array Value} {h : SHeap} : callOut ih (.enter g args,h) = ih (.call g args .normal) h := (id rfl)
theorem znl {E : Env} {ih : K} {l : List Oper} {nt base i lo : Nat} {heaps : List SHeap} {tm : Tr Value} {h : SHeap} {cur : List Nat} :
  zcl E ih l.toArray nt base ⟨i,.eff,lo⟩ ⟨heaps,tm,h,cur⟩ = (match l[i]? with
   | none => .error "draw  no operation"
   | some ⟨dst,op,ty,pos,after,g⟩ => match g with
    | none => (match zaf op E (evT E.G tm) ⟨dst,op,ty,pos,after,none⟩ h with
     | .error e => .error e
     | .ok out => match callOut ih out with
      | .error e => .error e
      | .ok (v,h) => bif Nat.ble h.next lim then .ok ⟨h :: heaps,zce tm nt dst v,h,[]⟩ else .error "draw  too many names")
    | some _ => zcl E ih l.toArray nt base ⟨i,.eff,lo⟩ ⟨heaps,tm,h,cur⟩) := by
 rcases ho : l[i]? with _ | ⟨dst,op,ty,pos,after,g⟩
 ·simp only [zcl,List.getElem?_toArray,ho]
 ·cases g with
  | none =>
   simp only [zcl,List.getElem?_toArray,ho,zak,PKind.isEff,cond_true,zcZ]
   cases zaf op E (evT E.G tm) ⟨dst,op,ty,pos,after,none⟩ h with
   | error e => rfl
   | ok out =>
    simp only
    cases callOut ih out with
    | error e => rfl
    | ok p => rfl
  | some _ => rfl
theorem zkz {E : Env} {ih : K} {l : List Oper} {nt base i : Nat} {hh : SHeap} {old : List SHeap} {tm : Tr Value} {h : SHeap} {cur : List Nat} :
  zcl E ih l.toArray nt base ⟨i,.read,0⟩ ⟨hh :: old,tm,h,cur⟩ = (match l[i]? with
   | none => .error "draw  no operation"
   | some ⟨dst,op,ty,pos,after,g⟩ => match g with
    | none => (match zey (zaf op E (evT E.G tm) ⟨dst,op,ty,pos,after,none⟩ hh) with
     | .ok v => bif zdz E (evT E.G tm) ⟨dst,op,ty,pos,after,none⟩ v old then .ok ⟨hh :: old,zce tm nt dst v,h,cur⟩ else .error "draw  a read that hangs on the order"
     | .error e => .error e)
    | some _ => zcl E ih l.toArray nt base ⟨i,.read,0⟩ ⟨hh :: old,tm,h,cur⟩) := by
 rcases ho : l[i]? with _ | ⟨dst,op,ty,pos,after,g⟩
 ·simp only [zcl,List.getElem?_toArray,ho]
 ·cases g with
  | none =>
   simp only [zcl,List.getElem?_toArray,ho,zak,PKind.isEff,cond_false,zhA,zcZ,Nat.sub_zero,List.take_length]
   cases zey (zaf op E (evT E.G tm) ⟨dst,op,ty,pos,after,none⟩ hh) with
   | error e => rfl
   | ok v =>
    simp only
    cases hR : zdz E (evT E.G tm) ⟨dst,op,ty,pos,after,none⟩ v old <;> simp only [hR,cond_true,cond_false]
  | some _ => rfl
theorem zkc {E : Env} {ev : Ev} {o : Oper} {v : Value} : zdz E ev o v [] = true := (id rfl)
theorem ziT {E : Env} {ev : Ev} {dst : Option Tmp} {op : Op} {ty : TypeId} {pos : String} {after : Array Edge} {g : Option (Nat × Bool)} {v : Value} {h : SHeap} {r : List SHeap} : zdz E ev ⟨dst,op,ty,pos,after,g⟩ v (h :: r) = (match zaf op E ev ⟨dst,op,ty,pos,after,g⟩ h with
  | .ok (.value u,_) => zdr 200 u v && zdz E ev ⟨dst,op,ty,pos,after,g⟩ v r
  | _ => false) := by
 simp only [zdz,zcZ]
 rfl
theorem valEq_int {k : IntKind} {n : Int} : zdr 200 (.int k n) (.int k n) = true := by simp [zdr]
variable {ih : K}
theorem zkj {v : Value} {h : SHeap} : callOut ih (.value v,h) = .ok (v,h) := (id rfl)
theorem zbG {ih : K} {fx : Fx} {dst : Option Tmp} {tm : Tr Value} {ds : List Deferred} {g : FuncId} {args : Array Value} {h : SHeap} : zgI ih fx dst tm ds (.enter g args,h) = (match ih (.call g args .normal) h with
  | .error e => .error e
  | .ok (v,h') => .ok ⟨zce tm fx.nt dst v,h',ds⟩) := by
 simp only [zgI]
 cases ih (.call g args .normal) h with
 | error e => rfl
 | ok p =>
  obtain ⟨v,⟨t,n⟩⟩ := p
  simp only [zfe,zgq,zaA,zaY]
def zdk (E : Env) (f : FuncId) : Prop := ∀ args h,zlB E f args h = .ok (.enter f args,h)
theorem zap {E : Env} {G : Nat} {tm : Tr Value} {o : Oper} {f : FuncId} {args : Array Operand} {ats : Array TypeId} {h : SHeap} (he : zdk E f) : zcg E (evT G tm) o ⟨.value (.func f),args,ats⟩ h = (match zal (evT G tm) args.toList with
  | none => .error "call  args"
  | some l => .ok (.enter f l.toArray,h)) := by
 simp only [zcg,zeh,evT]
 cases zal (evT G tm) args.toList with
 | none => rfl
 | some l => simp only [zdW,Array.append_empty,Array.empty_append,he _ _]

theorem zrb {G : Nat} {tm : Tr Value} {f : FuncId} : evT G tm (.func f) = some (.func (.func f) #[] #[]) := (id rfl)
theorem ztS {E : Env} {ev : Ev} {o : Oper} {t : TypeId} {x y : Int} {h : SHeap} : zem E ev o .geq t (some (.int .i64 x)) (some (.int .i64 y)) h = .ok (.value (.bool (decide (x ≥ y))),h) := zfp (id rfl)
def zim (x y : Int) : Int := bif decide (y < x) then y else x
theorem zrA {E : Env} {G : Nat} {tm : Tr Value} {o : Oper} {a b : Operand} {ats : Array TypeId} {h : SHeap} : zcg E (evT G tm) o ⟨.builtin .min,#[a,b],ats⟩ h = (match evT G tm a,evT G tm b with
  | some (.int .i64 x),some (.int .i64 y) => .ok (.value (.int .i64 (zim x y)),h)
  | _,_ => zcg E (evT G tm) o ⟨.builtin .min,#[a,b],ats⟩ h) := by
 split
 ·rename_i x y h1 h2
  simp only [zcg,zal,h1,h2]
  rfl
 ·rfl
end Go.Sim
namespace Go.Proofs.YtgdkljcnebaiiaaGreat
open Go Go.Sim
theorem SSb : type_of% @zbV ∧ type_of% @zaM ∧ type_of% @zaK ∧ type_of% @bqa ∧ type_of% @bqb ∧ type_of% @bqc ∧ type_of% @bqd ∧ type_of% @zaT ∧ type_of% @zbj ∧ type_of% @zby ∧ type_of% @zbx ∧ type_of% @zaZ ∧ type_of% @zaQ ∧ type_of% @zbS ∧ type_of% @zbs ∧ type_of% @zbk ∧ type_of% @zkd ∧ type_of% @zkj ∧ type_of% @zrA ∧ type_of% @zbn ∧ type_of% @zbD ∧ type_of% @znl ∧ type_of% @zbm ∧ type_of% @zkz ∧ type_of% @zmL ∧ type_of% @zbU ∧ type_of% @zrb ∧ type_of% @zbM ∧ type_of% @zbO ∧ type_of% @zaJ ∧ type_of% @zaB ∧ type_of% @zaS ∧ type_of% @zcw ∧ type_of% @zct ∧ type_of% @ztS ∧ type_of% @zaa ∧ type_of% @zcn ∧ type_of% @zbP ∧ type_of% @zbp ∧ type_of% @zft ∧ type_of% @zba ∧ type_of% @zaU ∧ type_of% @zbt ∧ type_of% @zcz ∧ type_of% @zbq ∧ type_of% @zbr ∧ type_of% @zbu ∧ type_of% @zca ∧ type_of% @zcB ∧ type_of% @zbc ∧ type_of% @zbb ∧ type_of% @ziT ∧ type_of% @zkc ∧ type_of% @zbK ∧ type_of% @zbl ∧ type_of% @zaE ∧ type_of% @zbH ∧ type_of% @valEq_int := And.intro @zbV (And.intro @zaM (And.intro @zaK (And.intro @bqa (And.intro @bqb (And.intro @bqc (And.intro @bqd (And.intro @zaT (And.intro @zbj (And.intro @zby (And.intro @zbx (And.intro @zaZ (And.intro @zaQ (And.intro @zbS (And.intro @zbs (And.intro @zbk (And.intro @zkd (And.intro @zkj (And.intro @zrA (And.intro @zbn (And.intro @zbD (And.intro @znl (And.intro @zbm (And.intro @zkz (And.intro @zmL (And.intro @zbU (And.intro @zrb (And.intro @zbM (And.intro @zbO (And.intro @zaJ (And.intro @zaB (And.intro @zaS (And.intro @zcw (And.intro @zct (And.intro @ztS (And.intro @zaa (And.intro @zcn (And.intro @zbP (And.intro @zbp (And.intro @zft (And.intro @zba (And.intro @zaU (And.intro @zbt (And.intro @zcz (And.intro @zbq (And.intro @zbr (And.intro @zbu (And.intro @zca (And.intro @zcB (And.intro @zbc (And.intro @zbb (And.intro @ziT (And.intro @zkc (And.intro @zbK (And.intro @zbl (And.intro @zaE (And.intro @zbH (@valEq_int)))))))))))))))))))))))))))))))))))))))))))))))))))))))))
end Go.Proofs.YtgdkljcnebaiiaaGreat

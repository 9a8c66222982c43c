/- The simulator on code whose numbers are not known: laws of its steps. The simulator on zone.top. The simulator on Within. The simulator on Cons. The simulator on zone.sum. Drawn regions with effects, calls: laws for symbolic runs. -/
import Derived.Test.YtghhpeemloeljaaGreatEnvA
import Derived.Test.YtghhpeemloeljaaGreatMemA
set_option linter.unusedVariables false
set_option linter.unusedSimpArgs false
namespace Go.Sim
theorem bqa:(true==true)=true:=(id rfl)
theorem bqb:(false==true)=false:=(id rfl)
theorem bqc:(true==false)=false:=(id rfl)
theorem bqd:(false==false)=true:=(id rfl)
def cA:Code→Code | .seq a _=>a | c=>c
def cB:Code→Code | .seq _ b=>b | c=>c
def cI:Code→Code | .block _ b=>b | .loop b=>b | .scope b=>b | c=>c
def cF (f:Func):Code:=f.body.getD .skip
theorem zbp {E:Env} {ih:K} {fx:Fx} {all:Array Oper} {st:St}:zep E ih fx all [] st=.ok st:=(id rfl)
theorem zbq {E:Env} {ih:K} {fx:Fx} {all:Array Oper} {dst:Option Tmp} {op:Op} {ty:TypeId} {pos:String} {after:Array Edge} {tm:Tr Value} {h:SHeap} {ds:List Deferred} :
  opS E ih fx all ⟨dst,op,ty,pos,after,none⟩ ⟨tm,h,ds⟩=(match zac op E (evT E.G tm) ⟨dst,op,ty,pos,after,none⟩ h with
   | .error e=>.error (pos ++ "  " ++ e)
   | .ok out=>zhY ih fx dst tm ds out):=(id rfl)
theorem zaH {ih:K} {fx:Fx} {dst:Option Tmp} {tm:Tr Value} {ds:List Deferred} {v:Value} {h:SHeap}:zhY ih fx dst tm ds (.value v,h)=.ok ⟨zcr tm fx.nt dst v,h,ds⟩:=by
 obtain ⟨t,n⟩:=h
 simp only [zhY,zeF,zhn,zav,zaD]
theorem zbg {tm:Tr Value} {nt:Nat} {d:Tmp} {v:Value} (h:d<nt):zcr tm nt (some d) v=tm.put d (some v):=by
 simp only [zcr,zaI h,cond_true]
theorem zbf {tm:Tr Value} {nt:Nat} {v:Value}:zcr tm nt none v=tm:=(id rfl)
theorem zbb {m:Nat} (h:m<9223372036854775808):zaK .i64 (.ofNat m)=.ofNat m:=by
 simp only [zaK,zaI h,cond_true]
theorem zfe {f:St→RS} {I:Nat→St→Prop} {N id:Nat} {Q:St→Prop} (hs:∀ j st,j<N→I j st→∃ st',f st=.ok (.normal,st')∧I (j+1) st') (he:∀ st,I N st→∃ st',f st=.ok (.exit id,st')∧Q st') :
  ∀ (n fuel j:Nat) (st:St),N=j+n→n<fuel→I j st→∃ st',zfE f fuel st=.ok (.exit id,st')∧Q st'
 | 0,0,j,st,hn,hf,hi=>by omega
 | n+1,0,j,st,hn,hf,hi=>by omega
 | 0,fuel+1,j,st,hn,hf,hi=>by
  obtain rfl:N=j:=by omega
  obtain ⟨st',h1,h2⟩:=he st hi
  exact ⟨st',by simp only [zfE,h1],h2⟩
 | n+1,fuel+1,j,st,hn,hf,hi=>by
  obtain ⟨st',h1,h2⟩:=hs j st (by omega) hi
  obtain ⟨st'',h3,h4⟩:=zfe hs he n fuel (j+1) st' (by omega) (by omega) h2
  exact ⟨st'',by simp only [zfE,h1]; exact h3,h4⟩
theorem zaJ {E:Env} {ih:K} {fx:Fx} {ops:Array Oper} {tm:Tr Value} {h:SHeap} {ds:List Deferred}:zqv ops false E ih fx ⟨tm,h,ds⟩=zfb (zep E ih fx ops ops.toList ⟨tm,h,ds⟩):=(id rfl)
theorem zbs {E:Env} {ih:K} {fx:Fx} {a b:CD} {tm:Tr Value} {h:SHeap} {ds:List Deferred}:zBb a b E ih fx ⟨tm,h,ds⟩=zkF (a E ih fx ⟨tm,h,ds⟩) (b E ih fx):=(id rfl)
theorem zaT {E:Env} {ih:K} {fx:Fx} {i:Nat} {b:CD} {tm:Tr Value} {h:SHeap} {ds:List Deferred}:zut i b E ih fx ⟨tm,h,ds⟩=zgM i (b E ih fx ⟨tm,h,ds⟩):=(id rfl)
theorem zbi {E:Env} {ih:K} {fx:Fx} {tm:Tr Value} {h:SHeap} {ds:List Deferred}:zpd E ih fx ⟨tm,h,ds⟩=.ok (.normal,⟨tm,h,ds⟩):=(id rfl)
theorem zbL {E:Env} {ih:K} {fx:Fx} {tm:Tr Value} {h:SHeap} {ds:List Deferred}:zAA E ih fx ⟨tm,h,ds⟩=.ok (.ret,⟨tm,h,ds⟩):=(id rfl)
theorem zbt {E:Env} {ih:K} {fx:Fx} {i:Nat} {tm:Tr Value} {h:SHeap} {ds:List Deferred}:zwY i E ih fx ⟨tm,h,ds⟩=.ok (.exit i,⟨tm,h,ds⟩):=(id rfl)
theorem zbx {E:Env} {ih:K} {fx:Fx} {b:CD} {tm:Tr Value} {h:SHeap} {ds:List Deferred}:zxp b E ih fx ⟨tm,h,ds⟩=zfE (b E ih fx) 1000000 ⟨tm,h,ds⟩:=(id rfl)
theorem zbj {E:Env} {ih:K} {fx:Fx} {c:Operand} {a b:CD} {tm:Tr Value} {h:SHeap} {ds:List Deferred}:zxw c a b E ih fx ⟨tm,h,ds⟩=(match evT E.G tm c with
 | some (.bool t)=>match t with | true=>a E ih fx ⟨tm,h,ds⟩ | false=>b E ih fx ⟨tm,h,ds⟩
 | _=>.error "cond"):=(id rfl)
theorem zaC {st:St} {k:St→RS}:zkF (.ok (.normal,st)) k=k st:=(id rfl)
theorem zbh {st:St} {i:Nat} {k:St→RS}:zkF (.ok (.exit i,st)) k=.ok (.exit i,st):=(id rfl)
theorem zbB {st:St} {k:St→RS}:zkF (.ok (.ret,st)) k=.ok (.ret,st):=(id rfl)
theorem zay {st:St} {i:Nat}:zgM i (.ok (.normal,st))=.ok (.normal,st):=(id rfl)
theorem zaL {st:St} {i:Nat}:zgM i (.ok (.ret,st))=.ok (.ret,st):=(id rfl)
theorem zaE {st:St} {i j:Nat}:zgM i (.ok (.exit j,st))=bif Nat.beq j i then .ok (.normal,st) else .ok (.exit j,st):=(id rfl)
theorem zaS {st:St}:zfb (.ok st)=.ok (.normal,st):=(id rfl)
theorem zbr {E:Env} {ih:K} {fx:Fx} {all:Array Oper} {o:Oper} {r:List Oper} {tm:Tr Value} {h:SHeap} {ds:List Deferred}:zep E ih fx all (o::r) ⟨tm,h,ds⟩=(match opS E ih fx all o ⟨tm,h,ds⟩ with | .error e=>.error e | .ok st=>zep E ih fx all r st):=(id rfl)
theorem zbI {G:Nat} {tm:Tr Value} {t:Tmp}:evT G tm (.tmp t)=tm.get t:=(id rfl)
theorem zbJ {G:Nat} {tm:Tr Value} {k:IntKind} {n:Int}:evT G tm (.const (.int k n))=some (.int k n):=(id rfl)
theorem zbQ {G:Nat} {tm:Tr Value} {b:Bool}:evT G tm (.const (.bool b))=some (.bool b):=(id rfl)
theorem zel {E:Env} {ev:Ev} {o:Oper} {op:BinOp} {t:TypeId} {x y:Int} {h:SHeap} (hs:zqJ op=false):zcZ E ev o op t (some (.int .i64 x)) (some (.int .i64 y)) h=zhH E ev o (zcv op .i64 x y) h:=by
 simp only [zcZ,hs,cond_false,if_true]
theorem zbM {E:Env} {ev:Ev} {o:Oper} {t:TypeId} {x y:Int} {h:SHeap}:zcZ E ev o .lss t (some (.int .i64 x)) (some (.int .i64 y)) h=.ok (.value (.bool (decide (x<y))),h):=zel rfl
theorem zaG {b o n:Nat}:zbe ⟨b,o,none⟩ n=⟨b,o+n,none⟩:=by
 unfold zbe
 split
 ·rename_i h; subst h; rfl
 ·rfl
theorem zbm {k:IntKind} {n:Nat}:zfC (.int k (.ofNat n))=some n:=(id rfl)
theorem zcg {E:Env} {ev:Ev} {o:Oper} {t:TypeId} {x y:Int} {h:SHeap}:zcZ E ev o .gtr t (some (.int .i64 x)) (some (.int .i64 y)) h=.ok (.value (.bool (decide (x>y))),h):=zel rfl
theorem zdS {E:Env} {ev:Ev} {o:Oper} {t:TypeId} {x y:Int} {h:SHeap}:zcZ E ev o .neq t (some (.int .i64 x)) (some (.int .i64 y)) h=.ok (.value (.bool (x != y)),h):=zel rfl
theorem zbV {E:Env} {ev:Ev} {o:Oper} {t:TypeId} {x y:Int} {h:SHeap}:zcZ E ev o .add t (some (.int .i64 x)) (some (.int .i64 y)) h=.ok (.value (.int .i64 (zaK .i64 (x+y))),h):=zel rfl
theorem zby {E:Env} {n f:Nat} {args:Array Value} {h:SHeap} (hO:E.O f=none):run E (n+1) (.call f args .normal) h=zhR E (run E n) f args .normal h:=by
 show zjk E (run E n) _ h=_
 unfold zjk
 simp only [hO]
theorem zxN {E:Env} {ih:K} {f:FuncId} {args:Array Value} {k:CallKind} {h:SHeap} {fd:Func} {c:Code} (hF:E.F f=some fd) (hb:fd.body=some c):zhR E ih f args k h =
  (match zab c E ih ⟨f,max fd.ntmps args.size,k,none⟩ ⟨Tr.ofL 33 args.toList,h,[]⟩ with
   | .error e=>.error e
   | .ok (o,st)=>match o with
    | .exit _=>.error "exit  no such block"
    | _=>zeQ E ih fd st):=by
 unfold zhR
 simp only [hF,hb]
 rfl
theorem zaY {E:Env} {ih:K} {f:FuncId} {args:Array Value} {k:CallKind} {h h':SHeap} {fd:Func} {c:Code} {nt:Nat} {al vs:List Value} {tm':Tr Value} {rv:List ResultVar} (hF:E.F f=some fd) (hb:fd.body=some c) (hn:max fd.ntmps args.size=nt) (ha:args.toList=al)
  (hv:fd.results.toList=rv) (hc:zab c E ih ⟨f,nt,k,none⟩ ⟨Tr.ofL 33 al,h,[]⟩=.ok (.ret,⟨tm',h',[]⟩)) (hr:zaQ E tm' h' rv=.ok vs):zhR E ih f args k h=.ok (zhU vs,h'):=by
 subst hn ha hv
 rw [zxN hF hb,hc]
 simp only [zeQ,zgJ,hr]
theorem zwk {E:Env} {ih:K} {fd:Func} {tm:Tr Value} {h:SHeap}:zeQ E ih fd ⟨tm,h,[]⟩=(match zaQ E tm h fd.results.toList with
   | .ok vs=>.ok (zhU vs,h)
   | .error e=>.error e):=(id rfl)
def zKz:Code→Array Oper | .region _ ops _=>ops | _ => #[]
theorem zcS {f:St→RS} {I:Nat→St→Prop} {N:Nat} {P:Out→St→Prop} (hs:∀ j st,j<N→I j st→(∃ st',f st=.ok (.normal,st')∧I (j+1) st')∨(∃ o st',o ≠ .normal∧f st=.ok (o,st')∧P o st')) (he:∀ st,I N st→∃ o st',o ≠ .normal∧f st=.ok (o,st')∧P o st') :
  ∀ (n fuel j:Nat) (st:St),N=j+n→n<fuel→I j st→∃ o st',o ≠ .normal∧zfE f fuel st=.ok (o,st')∧P o st':=by
 have out:∀ fuel st o st',o ≠ .normal→f st=.ok (o,st')→zfE f (fuel+1) st=.ok (o,st'):=by
  intro fuel st o st' ho hf
  cases o with
  | normal=>exact absurd rfl ho
  | exit=>simp only [zfE,hf]
  | ret=>simp only [zfE,hf]
 intro n
 induction n with
 | zero=>
  intro fuel j st hn hf hi
  obtain rfl:N=j:=by omega
  obtain ⟨o,st',h1,h2,h3⟩:=he st hi
  cases fuel with
  | zero=>omega
  | succ fuel=>exact ⟨o,st',h1,out _ _ _ _ h1 h2,h3⟩
 | succ n ihn=>
  intro fuel j st hn hf hi
  cases fuel with
  | zero=>omega
  | succ fuel=>
   rcases hs j st (by omega) hi with ⟨st',h1,h2⟩ | ⟨o,st',h1,h2,h3⟩
   ·obtain ⟨o,st'',k1,k2,k3⟩:=ihn fuel (j+1) st' (by omega) (by omega) h2
    exact ⟨o,st'',k1,by simp only [zfE,h1]; exact k2,k3⟩
   ·exact ⟨o,st',h1,out _ _ _ _ h1 h2,h3⟩
theorem zaV {E:Env} {ih:K} {fx:Fx} {ops:Array Oper} {tm:Tr Value} {h:SHeap} {ds:List Deferred}:zqv ops true E ih fx ⟨tm,h,ds⟩=ziB E ih fx ops ⟨tm,h,ds⟩:=(id rfl)
theorem zyv {E:Env} {ih:K} {fx:Fx} {ops:Array Oper} {tm:Tr Value} {h:SHeap} {ds:List Deferred} {steps:List PStep} {m:Nat} (hp:zdb E ops.toList=some ⟨steps,m,0⟩) (hn:h.next≤lim) :
  ziB E ih fx ops ⟨tm,h,ds⟩=(match zdR E ih ops fx.nt h.next steps ⟨[h],tm,h,[]⟩ with
   | .error e=>.error e
   | .ok ph=>zfb (zep E ih fx ops (ops.toList.drop m) ⟨ph.tm,ph.h,ds⟩)):=by
 obtain ⟨t,n⟩:=h
 have hn:Nat.ble n lim=true:=by rw [Nat.ble_eq]; exact hn
 simp only [ziB,hp,Nat.add_zero,hn,cond_true]
 cases zdR E ih ops fx.nt n steps ⟨[⟨t,n⟩],tm,⟨t,n⟩,[]⟩<;>rfl
theorem zbX {E:Env} {ih:K} {fx:Fx} {l:List Oper} {tm:Tr Value} {h:SHeap} {ds:List Deferred} {steps:List PStep} {m:Nat} (hp:zdb E l=some ⟨steps,m,0⟩) (hn:h.next≤lim) :
  ziB E ih fx l.toArray ⟨tm,h,ds⟩=(match zdR E ih l.toArray fx.nt h.next steps ⟨[h],tm,h,[]⟩ with
   | .error e=>.error e
   | .ok ph=>zfb (zep E ih fx l.toArray (l.drop m) ⟨ph.tm,ph.h,ds⟩)):=zyv hp hn
theorem zbw {E:Env} {ih:K} {all:Array Oper} {nt base:Nat} {ph:Ph}:zdR E ih all nt base [] ph=.ok ph:=(id rfl)
theorem zbk {E:Env} {ih:K} {all:Array Oper} {nt base:Nat} {s:PStep} {r:List PStep} {ph:Ph}:zdR E ih all nt base (s::r) ph=(match zcc E ih all nt base s ph with
  | .error e=>.error e
  | .ok ph=>zdR E ih all nt base r ph):=by
 simp only [zdR]
 cases zcc E ih all nt base s ph with
 | error e=>rfl
 | ok ph=>
  obtain ⟨a,b,⟨c,d⟩,e⟩:=ph
  simp only [zxF,zav,zaD]
theorem zwM {E:Env} {ih:K} {all:Array Oper} {nt base i lo:Nat} {heaps:List SHeap} {tm:Tr Value} {h:SHeap} {cur:List Nat} {o:Oper} (ho:all[i]? = some o) (hg:o.guard=none) :
  zcc E ih all nt base ⟨i,.pure,lo⟩ ⟨heaps,tm,h,cur⟩=(match zdP (zdi E (evT E.G tm) o zhL) with
   | .ok v=>.ok ⟨heaps,zcr tm nt o.dst v,h,cur⟩
   | .error e=>.error e):=by
 simp only [zcc,ho,hg,zah,PKind.isEff,cond_false,zhg]
 cases zdP (zdi E (evT E.G tm) o zhL)<;>rfl
theorem zxf {E:Env} {ih:K} {all:Array Oper} {nt base i:Nat} {hh:SHeap} {tm:Tr Value} {h:SHeap} {cur:List Nat} {o:Oper} (ho:all[i]? = some o) (hg:o.guard=none) :
  zcc E ih all nt base ⟨i,.read,0⟩ ⟨[hh],tm,h,cur⟩=(match zdP (zdi E (evT E.G tm) o hh) with
   | .ok v=>.ok ⟨[hh],zcr tm nt o.dst v,h,cur⟩
   | .error e=>.error e):=by
 simp only [zcc,ho,hg,zah,PKind.isEff,cond_false,zhg]
 cases zdP (zdi E (evT E.G tm) o hh)<;>rfl
theorem zbG {E:Env} {ih:K} {l:List Oper} {nt base i lo:Nat} {heaps:List SHeap} {tm:Tr Value} {h:SHeap} {cur:List Nat} :
  zcc E ih l.toArray nt base ⟨i,.pure,lo⟩ ⟨heaps,tm,h,cur⟩=(match l[i]? with
   | none=>.error "draw  no operation"
   | some ⟨dst,op,ty,pos,after,g⟩=>match g with
    | none=>(match zdP (zac op E (evT E.G tm) ⟨dst,op,ty,pos,after,none⟩ zhL) with
     | .ok v=>.ok ⟨heaps,zcr tm nt dst v,h,cur⟩
     | .error e=>.error e)
    | some _=>zcc E ih l.toArray nt base ⟨i,.pure,lo⟩ ⟨heaps,tm,h,cur⟩):=by
 rcases ho:l[i]? with _ | ⟨dst,op,ty,pos,after,g⟩
 ·simp only [zcc,List.getElem?_toArray,ho]
 ·cases g with
  | none=>exact zwM (all:=l.toArray) (o:=⟨dst,op,ty,pos,after,none⟩) (by rw [List.getElem?_toArray]; exact ho) rfl
  | some _=>rfl
theorem zbS {E:Env} {ih:K} {l:List Oper} {nt base i:Nat} {hh:SHeap} {tm:Tr Value} {h:SHeap} {cur:List Nat} :
  zcc E ih l.toArray nt base ⟨i,.read,0⟩ ⟨[hh],tm,h,cur⟩=(match l[i]? with
   | none=>.error "draw  no operation"
   | some ⟨dst,op,ty,pos,after,g⟩=>match g with
    | none=>(match zdP (zac op E (evT E.G tm) ⟨dst,op,ty,pos,after,none⟩ hh) with
     | .ok v=>.ok ⟨[hh],zcr tm nt dst v,h,cur⟩
     | .error e=>.error e)
    | some _=>zcc E ih l.toArray nt base ⟨i,.read,0⟩ ⟨[hh],tm,h,cur⟩):=by
 rcases ho:l[i]? with _ | ⟨dst,op,ty,pos,after,g⟩
 ·simp only [zcc,List.getElem?_toArray,ho]
 ·cases g with
  | none=>exact zxf (all:=l.toArray) (o:=⟨dst,op,ty,pos,after,none⟩) (by rw [List.getElem?_toArray]; exact ho) rfl
  | some _=>rfl
theorem zbE {E:Env} {ev:Ev} {dst:Option Tmp} {op:Op} {ty:TypeId} {pos:String} {after:Array Edge} {g:Option (Nat×Bool)} {h:SHeap}:zdi E ev ⟨dst,op,ty,pos,after,g⟩ h=zac op E ev ⟨dst,op,ty,pos,after,g⟩ h:=(id rfl)
theorem zbl {v:Value} {h:SHeap}:zdP (.ok (.value v,h))=.ok v:=(id rfl)
theorem zaZ {a:Addr} {h:SHeap}:zle (some (.pointer (some a))) h=.ok (.value (.pointer (some a)),h):=(id rfl)
theorem zcf {a b:Option Value} {h:SHeap}:zoH (some (.bool true)) a b h=zak a h:=(id rfl)
theorem zbT {a b:Option Value} {h:SHeap}:zoH (some (.bool false)) a b h=zak b h:=(id rfl)
theorem zbD {E:Env} {t b k n e:Nat} {o r:Bool} {c:Tr Value} {ti:TI} {v:Value} {h:SHeap} (ht:E.T t=some ti) (hs:ti.agg=false) (hb:h.t.get b=some (.cells c n e o r)) (hk:c.get k=some v) :
  zba E t (some (.pointer (some ⟨b,k,none⟩))) h=.ok (.value v,h):=by
 unfold zba loadAt
 simp only [ht,hb,hs,hk]
 rfl
theorem zcd {E:Env} {ih:K} {fx:Fx} {all:Array Oper} {dst:Option Tmp} {op:Op} {ty:TypeId} {pos:String} {after:Array Edge} {g:Nat×Bool} {tm:Tr Value} {h:SHeap} {ds:List Deferred} :
  opS E ih fx all ⟨dst,op,ty,pos,after,some g⟩ ⟨tm,h,ds⟩=(match zah all tm (some g) with
   | none=>.error "guard"
   | some false=>.ok ⟨zcr tm fx.nt dst (.tuple #[]),h,ds⟩
   | some true=>match zac op E (evT E.G tm) ⟨dst,op,ty,pos,after,some g⟩ h with
    | .error e=>.error (pos ++ "  " ++ e)
    | .ok out=>zhY ih fx dst tm ds out):=by
 obtain ⟨t,n⟩:=h
 simp only [opS]
 cases zah all tm (some g) with
 | none=>rfl
 | some b=>cases b with
  | true=>rfl
  | false=>simp only [zhn,zav,zaD]
theorem zdI:∀ {l:List Value} {k:Nat},zbu l=true→k<l.length→∃ x,l[k]? = some (.int .i64 x)
 | [],k,_,hk=>by simp at hk
 | v::r,k,h,hk=>by
  unfold zbu at h
  split at h
  ·split at h
   ·cases k with
    | zero=>exact ⟨_,rfl⟩
    | succ k=>simpa using zdI h (by simpa using hk)
   ·simp at h
  ·simp at h
theorem zuL {l m:List Value} {k:Nat} {x y:Int} (hl:l[k]? = some (.int .i64 x)) (hm:m[k]? = some (.int .i64 y)):zcu (l.drop k) (m.drop k)=bif decide (x≤y) then zcu (l.drop (k+1)) (m.drop (k+1)) else false:=by
 have d:∀ {l:List Value} {v:Value},l[k]? = some v→l.drop k=v::l.drop (k+1):=by
  intro l v h
  have hk:k<l.length:=by
   rcases Nat.lt_or_ge k l.length with h' | h'
   ·exact h'
   ·rw [List.getElem?_eq_none h'] at h; simp at h
  rw [List.drop_eq_getElem_cons hk]
  rw [List.getElem?_eq_getElem hk] at h
  rw [Option.some.inj h]
 rw [d hl,d hm]
 simp only [zcu]
structure ObjLe (E:Env) (o2 o:SObj):Prop where
 at_:∀ ρ w r κ,zcq E ρ w r κ o2→zcq E ρ w r κ o
 ro:zdG o↔zdG o2
 sent:zek o→zek o2
theorem ObjLe.refl {E:Env} (o:SObj):ObjLe E o o:=⟨fun _ _ _ _ h=>h,Iff.rfl,id⟩
theorem ObjLe.cells {E:Env} {c d:Tr Value} {n e:Nat} {p r:Bool} (h:∀ i v,d.get i=some v→c.get i=some v):ObjLe E (.cells c n e p r) (.cells d n e p r):=
 ⟨fun _ _ _ _ ⟨m,k⟩=>⟨m,k.shape,k.le,fun i v hi=>k.lt i v (h i v hi),k.shut,k.room,fun i v hi=>k.get i v (h i v hi),k.free,k.calm⟩,Iff.rfl,fun _=>trivial⟩
theorem zcJ {E:Env} {ih:K} (hih:KOK E ih) {f:FuncId} {g:OF} (hg:∀ (args:Array Value) h v h',(∀ b o,h.t.get b=some o→b<h.next)→g args.toList h=.ok (v,h') →
  ∃ h'',ih (.call f args .normal) h=.ok (v,h'')∧h''.next=h'.next∧∀ b o,h'.t.get b=some o→∃ o2,h''.t.get b=some o2∧ObjLe E o2 o):zaz E f g:=by
 intro args h v h' hok ρ w hw hgr rargs ha c cs
 obtain ⟨h'',h1,h2,h3⟩:=hg args h v h' (fun b o hb=>let ⟨r,κ,a,_⟩:=hw.live b o hb; hw.dom b _ a) hok
 obtain ⟨ρ',w',u,k1,k2,k3,k4⟩:=hih _ _ _ _ h1 ρ w hw hgr rargs ha c cs (.inl rfl)
 have hM:∀ r,zce ρ' h' r→zce ρ' h'' r:=fun r ⟨b,o,κ,a,e⟩=>let ⟨o2,b1,_⟩:=h3 b o a; ⟨b,o2,κ,b1,e⟩
 have hO:∀ r,Own ρ' h' r→Own ρ' h'' r:=fun r ⟨b,o,κ,a,e,n⟩=>let ⟨o2,b1,b2⟩:=h3 b o a; ⟨b,o2,κ,b1,e,b2.ro.1 n⟩
 refine ⟨ρ',w',u,k1,⟨fun b p hb=>by have:=k2.dom b p hb; omega,fun b o hb => ?_,fun b b' o o' r κ κ' hb hb' => ?_,k2.glob⟩,
  ⟨k3.le,k3.size,fun r hr hn=>let ⟨a,e⟩:=k3.keep r hr hn; ⟨a,fun h=>e (hO r h)⟩,k3.os,k3.output,k3.tape,fun r hr hn h=>k3.fresh r hr hn (hM r h),k3.names,by have:=k3.next; omega⟩,k4⟩
 ·obtain ⟨o2,b1,b2⟩:=h3 b o hb
  obtain ⟨r,κ,c1,c2⟩:=k2.live b o2 b1
  exact ⟨r,κ,c1,b2.at_ _ _ _ _ c2⟩
 ·obtain ⟨o2,b1,q⟩:=h3 b o hb
  obtain ⟨o2',b1',_⟩:=h3 b' o' hb'
  exact fun e1 e2 hs=>k2.inj b b' o2 o2' r κ κ' b1 b1' e1 e2 (hs.imp q.sent id)
theorem zhX {E:Env} {t b k n e:Nat} {o:Bool} {c:Tr Value} {ti:TI} {x:Int} {kd:IntKind} {h:SHeap} (ht:E.T t=some ti) (hs:ti.size=1) (hb:h.t.get b=some (.cells c n e o false)) (hk:k<n) :
  zcI E t (some (.pointer (some ⟨b,k,none⟩))) (some (.int kd x)) h=.ok (.value (.tuple #[]),h.set b (some (.cells (c.put k (some (.int kd x))) n e o false))):=by
 unfold zcI storeAt
 simp only [ht,hb,hs,Value.cells]
 simp [zcL,zcC,zaI hk,zav,zaD]
 rfl
theorem zoe {α:Type} {x:α}:∀ (f:Nat) (t:Tr α) (n:Nat) (p:List Bool),(t.toL f n).isSome=true→((t.put' (some x) p).toL f n).isSome=true
 | 0,t,n,p,h=>by simp [Tr.toL] at h
 | f+1,t,n,p,h=>by
  cases n with
  | zero=>simp [Tr.toL]
  | succ m=>
   cases t with
   | nil=>simp [Tr.toL] at h
   | node l v r=>
    cases v with
    | none=>simp [Tr.toL] at h
    | some y=>
     cases p with
     | nil=>
      simp only [pqz,pqn,pqy,pqc,Tr.toL] at h ⊢
      cases m with
      | zero=>simp
      | succ k=>
       simp only at h ⊢
       cases hl:l.toL f (k/2+1) with
       | none=>rw [hl] at h; simp at h
       | some o=>
        rw [hl] at h
        cases k with
        | zero=>simp
        | succ j=>
         simp only at h ⊢
         cases hr:r.toL f (j/2+2) with
         | none=>rw [hr] at h; simp at h
         | some e=>cases e with
          | nil=>rw [hr] at h; simp at h
          | cons=>simp
     | cons b p=>
      have ll:(l.toL f (m/2+1-1+(if m%2=1 then 1 else 0))).isSome=true→True:=fun _=>trivial
      clear ll
      cases b with
      | true=>
       simp only [pqz,pqn,pqy,pqc,cond_true,zav,Tr.toL] at h ⊢
       cases m with
       | zero=>simp
       | succ k=>
        simp only at h ⊢
        cases hl:l.toL f (k/2+1) with
        | none=>rw [hl] at h; simp at h
        | some o=>
         have:=zoe (x:=x) f l (k/2+1) p (by rw [hl]; rfl)
         cases hl':(Tr.put' (some x) p l).toL f (k/2+1) with
         | none=>rw [hl'] at this; simp at this
         | some o'=>
          rw [hl] at h
          cases k with
          | zero=>simp
          | succ j=>
           simp only at h ⊢
           cases hr:r.toL f (j/2+2) with
           | none=>rw [hr] at h; simp at h
           | some e=>cases e with
            | nil=>rw [hr] at h; simp at h
            | cons=>simp
      | false=>
       simp only [pqz,pqn,pqy,pqc,cond_false,zav,Tr.toL] at h ⊢
       cases m with
       | zero=>simp
       | succ k=>
        simp only at h ⊢
        cases hl:l.toL f (k/2+1) with
        | none=>rw [hl] at h; simp at h
        | some o=>
         rw [hl] at h
         cases k with
         | zero=>simp
         | succ j=>
          simp only at h ⊢
          cases hr:r.toL f (j/2+2) with
          | none=>rw [hr] at h; simp at h
          | some e=>cases e with
           | nil=>rw [hr] at h; simp at h
           | cons a e=>
            have:=zoe (x:=x) f r (j/2+2) p (by rw [hr]; rfl)
            cases hr':(Tr.put' (some x) p r).toL f (j/2+2) with
            | none=>rw [hr'] at this; simp at this
            | some e'=>cases e' with
             | nil=>
              obtain ⟨hl2,_⟩:=zhk f _ _ _ hr'
              simp at hl2
             | cons=>simp
theorem zDM {α:Type} {x:α} {t:Tr α} {n k:Nat} (h:(t.toL 32 n).isSome=true):((t.put k (some x)).toL 32 n).isSome=true:=by
 unfold Tr.put
 cases Nat.blt k lim with
 | true=>exact zoe 32 t n _ h
 | false=>exact h
end Go.Sim
set_option linter.unusedSimpArgs false
set_option linter.unusedVariables false
namespace Go.Proofs.YtghhpeemloeljaaGreat
open Go Go.Sim
set_option maxRecDepth 100000
variable {O:OT} {ih:K} {ds:List Deferred}
noncomputable def zfu:Code:=cI (cI (cB (cA (cB (cB (cF Tryz.f204))))))
noncomputable def zjn:Code:=cI (cI (cB (cB (cI (cA (cB (cB zfu)))))))
theorem zCK:Tab.types.get 285=some ⟨.array 60 3,60,Tab.t285.bytes,Tab.t285.zero⟩:=by kernel_rfl
theorem zKF:Tab.types.get 287=some ⟨.array 60 285,3600,Tab.t287.bytes,Tab.t287.zero⟩:=by kernel_rfl
theorem T3:Tab.types.get 3=some ⟨.int .i64,1,Tab.t3.bytes,Tab.t3.zero⟩:=by kernel_rfl
theorem E3:(Eo O).T 3=some ⟨.int .i64,1,Tab.t3.bytes,Tab.t3.zero⟩:=T3
theorem zIE:(Eo O).T 285=some ⟨.array 60 3,60,Tab.t285.bytes,Tab.t285.zero⟩:=zCK
theorem zqx:(Eo O).T 287=some ⟨.array 60 285,3600,Tab.t287.bytes,Tab.t287.zero⟩:=zKF
theorem zcV {a:Addr} {i:Nat} {h:SHeap} (hi:i<60):zcy (Eo O) ((Eo O).T 287) (some (.pointer (some a))) (some i) h=zal (.pointer (some (zbe a (i*60)))) h:=by
 show zcy (Eo O) (Tab.types.get 287) _ _ _=_
 rw [zKF]
 show zcm (Eo O) 285 60 a i h=_
 unfold zcm
 rw [show (Eo O).T 285=Tab.types.get 285 from rfl,zCK]
 simp only [zaI hi,cond_true]
theorem zde {a:Addr} {i:Nat} {h:SHeap} (hi:i<60):zcy (Eo O) ((Eo O).T 285) (some (.pointer (some a))) (some i) h=zal (.pointer (some (zbe a i))) h:=by
 show zcy (Eo O) (Tab.types.get 285) _ _ _=_
 rw [zCK]
 show zcm (Eo O) 3 60 a i h=_
 unfold zcm
 rw [show (Eo O).T 3=Tab.types.get 3 from rfl,T3]
 simp only [zaI hi,cond_true,Nat.mul_one]
structure TopI (ds:List Deferred) (i j:Nat) (st:St):Prop where
 ds:st.defers=ds
 t0:st.tm.get 0=some (.pointer (some ⟨1,0,none⟩))
 t1:st.tm.get 1=some (.pointer (some ⟨2,0,none⟩))
 t4:st.tm.get 4=some (.int .i64 (.ofNat i))
 t2:st.tm.get 2=some (.int .i64 (.ofNat i))
 t7:st.tm.get 7=some (.int .i64 (.ofNat j))
 next:st.h.next=3
 h2:∃ z,st.h.t.get 1=some (.cells z 3600 287 false false)
 h3:∃ c,st.h.t.get 2=some (.cells c 3600 287 false false)∧(c.toL 32 3600).isSome=true ∧
  ∀ k,k<3600→c.get k=some (.int .i64 (if k<i*60+j∧k/60≠k%60 then 2305843009213693952 else 0))
theorem zIT (i j:Nat) (hi:i<60) (hj:j<60) (st:St) (hI:TopI ds i j st) :
  ∃ st',zab zjn (Eo O) ih ⟨204,20,.normal,none⟩ st=.ok (.normal,st')∧TopI ds i (j+1) st':=by
 obtain ⟨tm,h,dd⟩:=st
 obtain ⟨hd,h0,h1,h4,h2,h7,hn,⟨z,hz⟩,c,hc,hs,hg⟩:=hI
 simp only at hd h0 h1 h4 h2 h7 hn hz hc
 have hj':decide (Int.ofNat j<60)=true:=by simp; omega
 have hj2:zaK .i64 (Int.ofNat j+1)=.ofNat (j+1):=zbb (m:=j+1) (by omega)
 have hlt:0+i*60+j<3600:=by omega
 generalize hr:zab zjn (Eo O) ih ⟨204,20,.normal,none⟩ ⟨tm,h,dd⟩=r
 unfold zjn zfu at hr
 by_cases hne:i=j
 ·have hne':(Int.ofNat i != Int.ofNat j)=false:=by simp [hne]
  simp only [Tryz.f204,cF,Option.getD,cA,cB,cI,zab,zbs,zbj,zaJ,zaT,zbi,zbp,zbr,zbq,zaC,zay,zaS,zac,zao,zak,zbI,zbJ,zau,zbM,zdS,zbV,zal,zaH,zbg,zbf,zaa,lim,Nat.reduceLT,Nat.reduceEqDiff,and_true,if_true,if_false,reduceIte,false_and,true_and,
   zad,zap,Option.bind_some,zbm,zaG,
   h1,h2,h7,hj',hne',hj2,zcV hi,zde hj,zhX (E:=Eo O) E3 rfl hc hlt] at hr
  subst hr
  refine ⟨_,rfl,?_⟩
  refine ⟨hd,?_,?_,?_,?_,?_,hn,⟨z,hz⟩,c,hc,hs,fun k hk => ?_⟩
  ·simp [zaa,lim,h0]
  ·simp [zaa,lim,h1]
  ·simp [zaa,lim,h4]
  ·simp [zaa,lim,h2]
  ·simp [zaa,lim]
  ·rw [hg k hk]
   congr 2
   by_cases e:k=i*60+j
   ·rw [if_neg (by omega),if_neg (by omega)]
   ·have:(k<i*60+(j+1))↔(k<i*60+j):=by omega
    simp only [this]
 ·have hne':(Int.ofNat i != Int.ofNat j)=true:=by simp; omega
  simp only [Tryz.f204,cF,Option.getD,cA,cB,cI,zab,zbs,zbj,zaJ,zaT,zbi,zbp,zbr,zbq,zaC,zay,zaS,zac,zao,zak,zbI,zbJ,zau,zbM,zdS,zbV,zal,zaH,zbg,zbf,zaa,lim,Nat.reduceLT,Nat.reduceEqDiff,and_true,if_true,if_false,reduceIte,false_and,true_and,
   zad,zap,Option.bind_some,zbm,zaG,
   h1,h2,h7,hj',hne',hj2,zcV hi,zde hj,zhX (E:=Eo O) E3 rfl hc hlt] at hr
  subst hr
  refine ⟨_,rfl,?_⟩
  refine ⟨hd,?_,?_,?_,?_,?_,hn,⟨z,?_⟩,c.put (0+i*60+j) (some (.int .i64 2305843009213693952)),?_,zDM hs,fun k hk => ?_⟩
  ·simp [zaa,lim,h0]
  ·simp [zaa,lim,h1]
  ·simp [zaa,lim,h4]
  ·simp [zaa,lim,h2]
  ·simp [zaa,lim]
  ·simp [SHeap.set,zaa,lim,hz]
  ·simp [SHeap.set,zaa,lim]
  ·rw [zaa]
   by_cases e:k=0+i*60+j
   ·rw [if_pos ⟨e,by unfold lim; omega⟩,if_pos (by omega)]
   ·rw [if_neg (by omega),hg k hk]
    congr 2
    have:(k<i*60+(j+1))↔(k<i*60+j):=by omega
    simp only [this]
structure TopO (ds:List Deferred) (i:Nat) (st:St):Prop where
 ds:st.defers=ds
 t0:st.tm.get 0=some (.pointer (some ⟨1,0,none⟩))
 t1:st.tm.get 1=some (.pointer (some ⟨2,0,none⟩))
 t4:st.tm.get 4=some (.int .i64 (.ofNat i))
 next:st.h.next=3
 h2:∃ z,st.h.t.get 1=some (.cells z 3600 287 false false)
 h3:∃ c,st.h.t.get 2=some (.cells c 3600 287 false false)∧(c.toL 32 3600).isSome=true ∧
  ∀ k,k<3600→c.get k=some (.int .i64 (if k<i*60∧k/60≠k%60 then 2305843009213693952 else 0))
theorem zwV (i:Nat) (st:St) (hI:TopI ds i 60 st):∃ st',zab zjn (Eo O) ih ⟨204,20,.normal,none⟩ st=.ok (.exit 2,st')∧TopO ds (i+1) { st' with tm:=st'.tm.put 4 (some (.int .i64 (.ofNat (i+1)))) }∧st'.tm.get 4=some (.int .i64 (.ofNat i)):=by
 obtain ⟨tm,h,dd⟩:=st
 obtain ⟨hd,h0,h1,h4,h2,h7,hn,⟨z,hz⟩,c,hc,hs,hg⟩:=hI
 simp only at hd h0 h1 h4 h2 h7 hn hz hc
 have hj':decide (Int.ofNat 60<60)=false:=by decide
 generalize hr:zab zjn (Eo O) ih ⟨204,20,.normal,none⟩ ⟨tm,h,dd⟩=r
 unfold zjn zfu at hr
 simp only [Tryz.f204,cF,Option.getD,cA,cB,cI,zab,zbs,zbj,zaJ,zaT,zbi,zbt,zbp,zbr,zbq,zaC,zbh,zay,zaS,zac,zao,zak,zbI,zbJ,zau,zbM,zal,zaH,zbg,zbf,zaa,lim,Nat.reduceLT,Nat.reduceEqDiff,and_true,if_true,if_false,reduceIte,false_and,true_and,h7,hj'] at hr
 subst hr
 refine ⟨_,rfl,?_,?_⟩
 ·refine ⟨hd,?_,?_,?_,hn,⟨z,hz⟩,c,hc,hs,fun k hk => ?_⟩
  ·simp [zaa,lim,h0]
  ·simp [zaa,lim,h1]
  ·simp [zaa,lim]
  ·rw [hg k hk,show i*60+60=(i+1)*60 by omega]
 ·simp [zaa,lim,h4]
theorem zEn (i:Nat) (hi:i<60) (st:St) (hI:TopO ds i st):∃ st',zab zfu (Eo O) ih ⟨204,20,.normal,none⟩ st=.ok (.normal,st')∧TopO ds (i+1) st':=by
 obtain ⟨tm,h,dd⟩:=st
 obtain ⟨hd,h0,h1,h4,hn,⟨z,hz⟩,c,hc,hs,hg⟩:=hI
 simp only at hd h0 h1 h4 hn hz hc
 have hj':decide (Int.ofNat i<60)=true:=by simp; omega
 have hj2:zaK .i64 (Int.ofNat i+1)=.ofNat (i+1):=zbb (m:=i+1) (by omega)
 generalize hr:zab zfu (Eo O) ih ⟨204,20,.normal,none⟩ ⟨tm,h,dd⟩=r
 have hin:TopI ds i 0 ⟨((((tm.put 5 (some (.bool true))).put 6 (some (.int .i64 (.ofNat i)))).put 2 (some (.int .i64 (.ofNat i)))).put 7 (some (.int .i64 0))),h,dd⟩:=by
  refine ⟨hd,?_,?_,?_,?_,?_,hn,⟨z,hz⟩,c,hc,hs,fun k hk => ?_⟩
  ·simp [zaa,lim,h0]
  ·simp [zaa,lim,h1]
  ·simp [zaa,lim,h4]
  ·simp [zaa,lim]
  ·simp [zaa,lim]
  ·rw [hg k hk]; rfl
 obtain ⟨⟨tm',h',dd'⟩,e1,e2,e3⟩:=zfe (f:=zab zjn (Eo O) ih ⟨204,20,.normal,none⟩) (I:=TopI ds i) (N:=60) (id:=2)
  (fun j st hj hI=>zIT i j hi hj st hI) (fun st hI=>zwV i st hI) 60 1000000 0 _ (by omega) (by omega) hin
 unfold zjn zfu at e1
 unfold zfu at hr
 simp only [Tryz.f204,cF,Option.getD,cA,cB,cI,zab] at e1
 simp only [Tryz.f204,cF,Option.getD,cA,cB,cI,zab,zbs,zbj,zaJ,zaT,zbi,zbx,zbp,zbr,zbq,zaC,zay,zaE,zaS,zac,zao,zak,zbI,zbJ,zau,zbM,zbV,zal,zaH,zbg,zbf,zaa,lim,Nat.reduceLT,Nat.reduceEqDiff,and_true,if_true,if_false,reduceIte,false_and,true_and,h4,hj',hj2,e1,e3,Nat.beq,cond_true] at hr
 subst hr
 refine ⟨_,rfl,?_⟩
 obtain ⟨a1,a2,a3,a4,a5,a6,a7⟩:=e2
 refine ⟨a1,?_,?_,?_,a5,a6,a7⟩
 ·have:=a2; simp [zaa,lim] at this ⊢; exact this
 ·have:=a3; simp [zaa,lim] at this ⊢; exact this
 ·simp [zaa,lim]
theorem zuV (st:St) (hI:TopO ds 60 st):∃ st',zab zfu (Eo O) ih ⟨204,20,.normal,none⟩ st=.ok (.exit 0,st')∧TopO ds 60 st':=by
 obtain ⟨tm,h,dd⟩:=st
 obtain ⟨hd,h0,h1,h4,hn,⟨z,hz⟩,c,hc,hs,hg⟩:=hI
 simp only at hd h0 h1 h4 hn hz hc
 have hj':decide (Int.ofNat 60<60)=false:=by decide
 generalize hr:zab zfu (Eo O) ih ⟨204,20,.normal,none⟩ ⟨tm,h,dd⟩=r
 unfold zfu at hr
 simp only [Tryz.f204,cF,Option.getD,cA,cB,cI,zab,zbs,zbj,zaJ,zaT,zbi,zbt,zbp,zbr,zbq,zaC,zbh,zay,zaS,zac,zao,zak,zbI,zbJ,zau,zbM,zal,zaH,zbg,zbf,zaa,lim,Nat.reduceLT,Nat.reduceEqDiff,and_true,if_true,if_false,reduceIte,false_and,true_and,h4,hj'] at hr
 subst hr
 refine ⟨_,rfl,?_⟩
 refine ⟨hd,?_,?_,?_,hn,⟨z,hz⟩,c,hc,hs,hg⟩
 ·simp [zaa,lim,h0]
 ·simp [zaa,lim,h1]
 ·simp [zaa,lim,h4]
def zeroL:List Value:=List.replicate 3600 (.int .i64 0)
theorem zAi:Tab.t287.zero=some (.agg zeroL.toArray):=by kernel_rfl
theorem zqo:(Tr.ofL 33 topL).toL 32 3600=some topL:=by kernel_rfl
theorem znY:(Tr.ofL 33 zeroL).toL 32 3600=some zeroL:=by kernel_rfl
theorem zjM:zcR topL=true:=by kernel_rfl
theorem zeY:topL.length=3600:=by simp [topL]
theorem zlh:zeroL.length=3600:=by simp [zeroL]
theorem zKI:wEq (.agg topL.toArray) (.agg topL.toArray)=true:=by kernel_rfl
theorem zzn:zaP 3 (.agg topL.toArray)=true:=by kernel_rfl
theorem zop {c:Tr Value} {i:Nat} (hi:i=60) (hs:(c.toL 32 3600).isSome=true) (hg:∀ k,k<3600→c.get k=some (.int .i64 (if k<i*60∧k/60≠k%60 then 2305843009213693952 else 0))):c.toL 32 3600=some topL:=by
 cases hl:c.toL 32 3600 with
 | none=>rw [hl] at hs; simp at hs
 | some l=>
  obtain ⟨h1,h2⟩:=zcF hl
  congr 1
  refine List.ext_getElem? fun k => ?_
  by_cases hk:k<3600
  ·rw [h2 k hk (by unfold lim; omega),hg k hk,topL,List.getElem?_map,List.getElem?_range hk]
   simp only [Option.map_some,zaF]
   by_cases e:k/60=k%60
   ·rw [if_neg (by omega),decide_eq_true e,cond_true]
   ·rw [if_pos ⟨by omega,e⟩,decide_eq_false e,cond_false]
  ·rw [List.getElem?_eq_none (by omega),List.getElem?_eq_none (by rw [zeY]; omega)]
theorem zbv {l:List Value} {i:Nat} (hi:i<lim):(Tr.ofL 33 l).get i=l[i]? := by
 unfold Tr.get
 rw [zaI hi,cond_true]
 exact ziT 32 l i hi
theorem zEq {tm:Tr Value} {h:SHeap} {z c:Tr Value} {tl:List Value} (zeY:tl.length=3600) (zjM:zcR tl=true) (h0:tm.get 0=some (.pointer (some ⟨1,0,none⟩))) (h1:tm.get 1=some (.pointer (some ⟨2,0,none⟩)))
  (hz:h.t.get 1=some (.cells z 3600 287 false false)) (hc:h.t.get 2=some (.cells c 3600 287 false false)) (hl:c.toL 32 3600=some tl) :
  loadAt (Eo O) h 287 ⟨2,0,none⟩=.ok (.agg tl.toArray)∧storeAt (Eo O) h 287 ⟨1,0,none⟩ (.agg tl.toArray)=.ok (h.set 1 (some (.cells (Tr.ofL 33 tl) 3600 287 false false))):=by
 constructor
 ·unfold loadAt
  simp only [zqx,hc]
  rw [if_pos (show TI.agg ⟨.array 60 285,3600,Tab.t287.bytes,Tab.t287.zero⟩=true from rfl)]
  unfold range
  rw [show Nat.ble 3600 12=false from rfl,cond_false]
  simp only [hl]
  rw [show (Nat.ble (0+3600) 3600&&Nat.ble 3600 lim)=true from rfl,cond_true]
  simp only [List.drop_zero]
  rw [List.take_of_length_le (by rw [zeY]; omega)]
 ·unfold storeAt
  simp only [zqx,hz,Value.cells,List.size_toArray,zeY,ne_eq,not_true_eq_false,if_false]
  unfold zcL
  rw [zeY,show Nat.ble 3600 12=false from rfl,cond_false,zjM,show (true&&Nat.ble (0+3600) 3600&&Nat.ble 3600 lim)=true from rfl,cond_true,show (Nat.beq 0 0&&Nat.beq 3600 3600)=true from rfl,cond_true]
theorem zCu {zl tl:List Value} (zAi:Tab.t287.zero=some (.agg zl.toArray)) (zlh:zl.length=3600) (znY:((Tr.ofL 33 zl).toL 32 3600).isSome=true) (znV:∀ k,k<3600→(Tr.ofL 33 zl).get k=some (.int .i64 0)) (zeY:tl.length=3600) (zjM:zcR tl=true)
  (zop:∀ c:Tr Value,(c.toL 32 3600).isSome=true→(∀ k,k<3600→c.get k=some (.int .i64 (if k<60*60∧k/60≠k%60 then 2305843009213693952 else 0)))→c.toL 32 3600=some tl) :
  ∃ tm' h',zab (cF Tryz.f204) (Eo O) ih ⟨204,20,.normal,none⟩ ⟨Tr.ofL 33 [],⟨.nil,1⟩,[]⟩=.ok (.ret,⟨tm',h',[]⟩)∧tm'.get 0=some (.pointer (some ⟨1,0,none⟩))∧h'.t.get 1=some (.cells (Tr.ofL 33 tl) 3600 287 false false):=by
 generalize hh0:(⟨.nil,1⟩:SHeap)=hp
 have hp2:hp.next=1:=by subst hh0; rfl
 have hin:TopO [] 0 ⟨((((Tr.ofL 33 []).put 0 (some (.pointer (some ⟨1,0,none⟩)))).put 1 (some (.pointer (some ⟨2,0,none⟩)))).put 4 (some (.int .i64 0))),zai (zai hp 287 zl false) 287 zl false,[]⟩:=by
  refine ⟨rfl,?_,?_,?_,?_,⟨Tr.ofL 33 zl,?_⟩,Tr.ofL 33 zl,?_,znY,fun k hk => ?_⟩
  ·simp [zaa,lim]
  ·simp [zaa,lim]
  ·simp [zaa,lim]
  ·simp [zai,SHeap.new,hp2]
  ·simp [zai,SHeap.new,zaa,lim,zlh,hp2]
  ·simp [zai,SHeap.new,zaa,lim,zlh,hp2]
  ·rw [znV k hk,if_neg (by omega)]
 obtain ⟨⟨tm',h',dd'⟩,e1,e2⟩:=zfe (f:=zab zfu (Eo O) ih ⟨204,20,.normal,none⟩) (I:=TopO []) (N:=60) (id:=0)
  (fun j st hj hI=>zEn j hj st hI) (fun st hI=>zuV st hI) 60 1000000 0 _ (by omega) (by omega) hin
 obtain ⟨a1,a2,a3,a4,a5,⟨z,a6⟩,c,a7,a8,a9⟩:=e2
 simp only at a1 a2 a3 a4 a5 a6 a7
 have al:=zop c a8 a9
 obtain ⟨b1,b2⟩:=zEq (O:=O) zeY zjM a2 a3 a6 a7 al
 generalize hr:zab (cF Tryz.f204) (Eo O) ih ⟨204,20,.normal,none⟩ ⟨Tr.ofL 33 [],hp,[]⟩=r
 unfold zfu at e1
 simp only [Tryz.f204,cF,Option.getD,cA,cB,cI,zab] at e1
 have al1:∀ h,zgL ((Eo O).T 287) 287 h=.ok (.value (.pointer (some ⟨h.next,0,none⟩)),zai h 287 zl false):=by
  intro h
  rw [zqx,zAi]
  simp only [zgL,zjq,Value.cells]
 have n1:(zai hp 287 zl false).next=2:=by simp [zai,SHeap.new,hp2]
 have ld:zba (Eo O) 287 (some (.pointer (some ⟨2,0,none⟩))) h'=.ok (.value (.agg tl.toArray),h'):=by
  unfold zba; simp only [b1]; rfl
 have sto:zcI (Eo O) 287 (some (.pointer (some ⟨1,0,none⟩))) (some (.agg tl.toArray)) h'=.ok (.value (.tuple #[]),h'.set 1 (some (.cells (Tr.ofL 33 tl) 3600 287 false false))):=by
  unfold zcI; simp only [b2]
 simp only [Tryz.f204,cF,Option.getD,zab,zbs,zaJ,zaT,zbL,zbx,zbp,zbr,zbq,zaC,zaE,zaS,zac,zao,zak,zct,al1,n1,hp2,zbI,zbJ,zar,zap,ld,sto,zal,zaH,zbg,zbf,zaa,lim,Nat.reduceLT,Nat.reduceEqDiff,and_true,if_true,if_false,reduceIte,false_and,true_and,e1,a2,a3,Nat.beq,cond_true] at hr
 subst hr a1
 refine ⟨_,_,rfl,?_,?_⟩
 ·simp [zaa,lim,a2]
 ·simp [SHeap.set,zaa,lim]
theorem zDK {tl:List Value} {tm':Tr Value} {h':SHeap} (zeY:tl.length=3600) (zqo:(Tr.ofL 33 tl).toL 32 3600=some tl) (h2:tm'.get 0=some (.pointer (some ⟨1,0,none⟩))) (h3:h'.t.get 1=some (.cells (Tr.ofL 33 tl) 3600 287 false false)) :
  zaQ (Eo O) tm' h' [.cell 0 287]=.ok [.agg tl.toArray]:=by
 have:loadAt (Eo O) h' 287 ⟨1,0,none⟩=.ok (.agg tl.toArray):=by
  unfold loadAt
  simp only [zqx,h3]
  rw [if_pos (show TI.agg ⟨.array 60 285,3600,Tab.t287.bytes,Tab.t287.zero⟩=true from rfl)]
  unfold range
  rw [show Nat.ble 3600 12=false from rfl,cond_false]
  simp only [zqo]
  rw [show (Nat.ble (0+3600) 3600&&Nat.ble 3600 lim)=true from rfl,cond_true]
  simp only [List.drop_zero]
  rw [List.take_of_length_le (by rw [zeY]; omega)]
 simp only [zaQ,h2,this]
theorem znV (k:Nat) (hk:k<3600):(Tr.ofL 33 zeroL).get k=some (.int .i64 0):=by
 rw [zbv (by unfold lim; omega),zeroL,List.getElem?_replicate,if_pos hk]
theorem zyT:((Tr.ofL 33 zeroL).toL 32 3600).isSome=true:=by rw [znY]; rfl
theorem zEs:Tryz.f204.body=some (cF Tryz.f204):=rfl
theorem zLs:(Eo O).F 204=some Tryz.f204:=by show Tab.funcs.get 204=_; kernel_rfl
theorem zMr:max Tryz.f204.ntmps (#[]:Array Value).size=20:=rfl
theorem zKB:Tryz.f204.results.toList=[.cell 0 287]:=rfl
theorem zDA (n:Nat) (hO:O 204=none):∃ h',run (Eo O) (n+1) (.call 204 #[] .normal) ⟨.nil,1⟩=.ok (.agg topL.toArray,h'):=by
 obtain ⟨tm',h',h1,h2,h3⟩:=zCu (O:=O) (ih:=run (Eo O) n) zAi zlh zyT znV zeY zjM (fun c h1 h2=>zop rfl h1 h2)
 exact ⟨h',(zby (show (Eo O).O 204=none from hO)).trans (zaY (vs:=[.agg topL.toArray]) zLs zEs zMr rfl zKB h1 (zDK zeY zqo h2 h3))⟩
theorem zIW (KE:EnvOK (Eo O)) (hdraw:zcp (Eo O)) (hOK:∀ f g,(Eo O).O f=some g→zaz (Eo O) f g) (hO:O 204=none):zaz (Eo O) 204 (zsb [] (.agg topL.toArray)):=by
 refine zEo (zdc KE hdraw hOK 1) ?_
 obtain ⟨h',h1⟩:=zDA (O:=O) 0 hO
 unfold zqw
 have h1:run (Eo O) 1 (.call 204 ([]:List Value).toArray .normal) ⟨.nil,(Eo O).G⟩=.ok (.agg topL.toArray,h'):=h1
 simp only [h1,zKI,zzn]
 rfl
end Go.Proofs.YtghhpeemloeljaaGreat
set_option linter.unusedSimpArgs false
set_option linter.unusedVariables false
namespace Go.Proofs.YtghhpeemloeljaaGreat
open Go Go.Sim
set_option maxRecDepth 100000
variable {O:OT} {ih:K} {ds:List Deferred}
noncomputable def zfB:Code:=cI (cI (cB (cA (cB (cB (cF Tryz.f152))))))
noncomputable def zjj:Code:=cI (cI (cB (cB (cI (cA (cB (cB zfB)))))))
noncomputable def zyx:Code:=cA (cB (cI (cA (cB (cB zjj)))))
theorem E4:(Eo O).T 4=some ⟨.bool,1,Tab.t4.bytes,Tab.t4.zero⟩:=by show Tab.types.get 4=_; kernel_rfl
theorem zcj {a:Addr} {h:SHeap}:zbz (Eo O) ((Eo O).T 289) (some (.pointer (some a))) 1 h=.ok (.value (.pointer (some (zbe a 1))),h):=by kernel_rfl
theorem zck {a:Addr} {h:SHeap}:zbz (Eo O) ((Eo O).T 289) (some (.pointer (some a))) 0 h=.ok (.value (.pointer (some (zbe a 0))),h):=by kernel_rfl
theorem zEU:zdb (Eo O) (zKz zyx).toList=some ⟨[⟨0,.pure,0⟩,⟨1,.pure,0⟩,⟨2,.pure,0⟩,⟨3,.pure,0⟩,⟨4,.pure,0⟩,⟨5,.pure,0⟩,⟨6,.pure,0⟩,⟨7,.read,0⟩,⟨8,.pure,0⟩,⟨9,.pure,0⟩,⟨10,.pure,0⟩,⟨11,.pure,0⟩,⟨12,.pure,0⟩,⟨13,.pure,0⟩,⟨14,.pure,0⟩,⟨15,.read,0⟩],16,0⟩:=by kernel_rfl
structure WiI (h:SHeap) (b d i j:Nat) (st:St):Prop where
 ds:st.defers=[]
 h:st.h=h
 t0:st.tm.get 0=some (.pointer (some ⟨b,0,none⟩))
 t1:st.tm.get 1=some (.pointer (some ⟨d,0,none⟩))
 t21:st.tm.get 21=some (.int .i64 (.ofNat i))
 t5:st.tm.get 5=some (.int .i64 (.ofNat i))
 t24:st.tm.get 24=some (.int .i64 (.ofNat j))
structure WiH (h:SHeap) (b d:Nat) (l m:List Value):Prop where
 next:h.next≤lim
 hb:∃ c e o r,h.t.get b=some (.cells c 3601 e o r)∧∀ k,k<3600→c.get (0+1+k)=l[k]?
 hd:∃ c e o r,h.t.get d=some (.cells c 3601 e o r)∧∀ k,k<3600→c.get (0+1+k)=m[k]?
 ll:l.length=3600
 lm:m.length=3600
 al:zbu l=true
 am:zbu m=true
def WiP (h:SHeap) (b d:Nat) (l m:List Value) (i:Nat) (o:Out) (st:St):Prop:=
 st.defers=[]∧st.h=h∧((o=.exit 2∧WiI h b d i 60 st∧zcu l m=zcu (l.drop (i*60+60)) (m.drop (i*60+60)))∨(o=.ret∧zcu l m=false∧st.tm.get 4=some (.bool false)))
theorem zMM {h:SHeap} {b d:Nat} {l m:List Value} (hw:WiH h b d l m) (i j:Nat) (hi:i<60) (hj:j<60) (st:St) (hI:WiI h b d i j st∧zcu l m=zcu (l.drop (i*60+j)) (m.drop (i*60+j))) :
  (∃ st',zab zjj (Eo O) ih ⟨152,46,.normal,none⟩ st=.ok (.normal,st')∧WiI h b d i (j+1) st'∧zcu l m=zcu (l.drop (i*60+(j+1))) (m.drop (i*60+(j+1)))) ∨
   ∃ o st',o ≠ .normal∧zab zjj (Eo O) ih ⟨152,46,.normal,none⟩ st=.ok (o,st')∧WiP h b d l m i o st':=by
 obtain ⟨tm,h,dd⟩:=st
 obtain ⟨⟨hd,rfl,h0,h1,h21,h5,h24⟩,hle⟩:=hI
 simp only at hd h0 h1 h21 h5 h24
 subst hd
 obtain ⟨hn,⟨cb,eb,ob,rb,hb,gb⟩,⟨cd,ed,od,rd,hdd,gd⟩,ll,lm,al,am⟩:=hw
 simp only at hn hb hdd
 have hk:i*60+j<3600:=by omega
 obtain ⟨x,hx⟩:=zdI al (show i*60+j<l.length by omega)
 obtain ⟨y,hy⟩:=zdI am (show i*60+j<m.length by omega)
 have hj':decide (Int.ofNat j<60)=true:=by simp; omega
 have hj2:zaK .i64 (Int.ofNat j+1)=.ofNat (j+1):=zbb (m:=j+1) (by omega)
 have ix:cb.get (0+1+i*60+j)=some (.int .i64 x):=by rw [show 0+1+i*60+j=0+1+(i*60+j) by omega,gb _ hk]; exact hx
 have iy:cd.get (0+1+i*60+j)=some (.int .i64 y):=by rw [show 0+1+i*60+j=0+1+(i*60+j) by omega,gd _ hk]; exact hy
 have st:=zuL hx hy
 have lx:=zbD (E:=Eo O) E3 rfl hb ix
 have ly:=zbD (E:=Eo O) E3 rfl hdd iy
 generalize hr:zab zjj (Eo O) ih ⟨152,46,.normal,none⟩ ⟨tm,h,[]⟩=r
 have pl:=zEU (O:=O)
 unfold zyx zjj zfB at pl
 unfold zjj zfB at hr
 simp only [Tryz.f152,cF,Option.getD,cA,cB,cI,zKz] at pl
 by_cases hxy:x>y
 ·have hg:decide (x>y)=true:=by simp; omega
  simp only [Tryz.f152,cF,Option.getD,cA,cB,cI,zab,zbs,zbj,zaJ,zaV,zaT,zbi,zbL,zbt,zbp,zbr,zbq,zaC,zbB,zbh,zay,zaL,zaE,zaS,zac,zao,zak,zbI,zbJ,zbQ,zau,zbM,zcg,zbV,zal,zaH,zbg,zbf,zaa,lim,Nat.reduceLT,Nat.reduceEqDiff,and_true,if_true,if_false,reduceIte,false_and,true_and,zbx,Nat.beq,cond_true,
   zad,zae,zaf,zar,zaZ,zck,zcj,Option.bind_some,zbm,zaG,zbw,zbk,zbG,zbS,zbE,zbl,List.getElem?_toArray,List.getElem?_cons_succ,List.getElem?_cons_zero,List.drop_succ_cons,List.drop_zero,
   zbX pl hn,h0,h1,h5,h24,hj',hj2,zcV hi,zde hj,lx,ly,hg] at hr
  subst hr
  refine .inr ⟨.ret,_,by simp,rfl,rfl,rfl,.inr ⟨rfl,?_,?_⟩⟩
  ·rw [hle,st,show decide (x≤y)=false by simp; omega]; rfl
  ·simp [zaa,lim]
 ·have hg:decide (x>y)=false:=by simp; omega
  simp only [Tryz.f152,cF,Option.getD,cA,cB,cI,zab,zbs,zbj,zaJ,zaV,zaT,zbi,zbL,zbt,zbp,zbr,zbq,zaC,zbB,zbh,zay,zaL,zaE,zaS,zac,zao,zak,zbI,zbJ,zbQ,zau,zbM,zcg,zbV,zal,zaH,zbg,zbf,zaa,lim,Nat.reduceLT,Nat.reduceEqDiff,and_true,if_true,if_false,reduceIte,false_and,true_and,zbx,Nat.beq,cond_true,
   zad,zae,zaf,zar,zaZ,zck,zcj,Option.bind_some,zbm,zaG,zbw,zbk,zbG,zbS,zbE,zbl,List.getElem?_toArray,List.getElem?_cons_succ,List.getElem?_cons_zero,List.drop_succ_cons,List.drop_zero,
   zbX pl hn,h0,h1,h5,h24,hj',hj2,zcV hi,zde hj,lx,ly,hg] at hr
  subst hr
  refine .inl ⟨_,rfl,?_,?_⟩
  ·refine ⟨rfl,rfl,?_,?_,?_,?_,?_⟩
   ·simp [zaa,lim,h0]
   ·simp [zaa,lim,h1]
   ·simp [zaa,lim,h21]
   ·simp [zaa,lim,h5]
   ·simp [zaa,lim]
  ·rw [hle,st,show decide (x≤y)=true by simp; omega]; rfl
theorem zyM {h:SHeap} {b d:Nat} {l m:List Value} (i:Nat) (st:St) (hI:WiI h b d i 60 st∧zcu l m=zcu (l.drop (i*60+60)) (m.drop (i*60+60))) :
  ∃ o st',o ≠ .normal∧zab zjj (Eo O) ih ⟨152,46,.normal,none⟩ st=.ok (o,st')∧WiP h b d l m i o st':=by
 obtain ⟨tm,h,dd⟩:=st
 obtain ⟨⟨hd,rfl,h0,h1,h21,h5,h24⟩,hle⟩:=hI
 simp only at hd h0 h1 h21 h5 h24
 subst hd
 have hj':decide (Int.ofNat 60<60)=false:=by decide
 generalize hr:zab zjj (Eo O) ih ⟨152,46,.normal,none⟩ ⟨tm,h,[]⟩=r
 unfold zjj zfB at hr
 simp only [Tryz.f152,cF,Option.getD,cA,cB,cI,zab,zbs,zbj,zaJ,zaV,zaT,zbi,zbL,zbt,zbp,zbr,zbq,zaC,zbB,zbh,zay,zaL,zaE,zaS,zac,zao,zak,zbI,zbJ,zbQ,zau,zbM,zcg,zbV,zal,zaH,zbg,zbf,zaa,lim,Nat.reduceLT,Nat.reduceEqDiff,and_true,if_true,if_false,reduceIte,false_and,true_and,zbx,Nat.beq,cond_true,
   zad,zae,zaf,zar,zaZ,zck,zcj,Option.bind_some,zbm,zaG,zbw,zbk,zbG,zbS,zbE,zbl,List.getElem?_toArray,List.getElem?_cons_succ,List.getElem?_cons_zero,List.drop_succ_cons,List.drop_zero,h24,hj'] at hr
 subst hr
 refine ⟨.exit 2,_,by simp,rfl,rfl,rfl,.inl ⟨rfl,?_,hle⟩⟩
 refine ⟨rfl,rfl,?_,?_,?_,?_,?_⟩
 ·simp [zaa,lim,h0]
 ·simp [zaa,lim,h1]
 ·simp [zaa,lim,h21]
 ·simp [zaa,lim,h5]
 ·simp [zaa,lim,h24]
structure WiJ (h:SHeap) (b d i:Nat) (st:St):Prop where
 ds:st.defers=[]
 h:st.h=h
 t0:st.tm.get 0=some (.pointer (some ⟨b,0,none⟩))
 t1:st.tm.get 1=some (.pointer (some ⟨d,0,none⟩))
 t21:st.tm.get 21=some (.int .i64 (.ofNat i))
def WiQ (h:SHeap) (b d:Nat) (l m:List Value) (o:Out) (st:St):Prop:=
 st.defers=[]∧st.h=h∧((o=.exit 0∧zcu l m=true)∨(o=.ret∧zcu l m=false∧st.tm.get 4=some (.bool false)))
theorem zIJ {h:SHeap} {b d:Nat} {l m:List Value} (hw:WiH h b d l m) (i:Nat) (hi:i<60) (st:St) (hI:WiJ h b d i st∧zcu l m=zcu (l.drop (i*60)) (m.drop (i*60))) :
  (∃ st',zab zfB (Eo O) ih ⟨152,46,.normal,none⟩ st=.ok (.normal,st')∧WiJ h b d (i+1) st'∧zcu l m=zcu (l.drop ((i+1)*60)) (m.drop ((i+1)*60))) ∨
   ∃ o st',o ≠ .normal∧zab zfB (Eo O) ih ⟨152,46,.normal,none⟩ st=.ok (o,st')∧WiQ h b d l m o st':=by
 obtain ⟨tm,h,dd⟩:=st
 obtain ⟨⟨hd,rfl,h0,h1,h21⟩,hle⟩:=hI
 simp only at hd h0 h1 h21
 subst hd
 have hj':decide (Int.ofNat i<60)=true:=by simp; omega
 have hj2:zaK .i64 (Int.ofNat i+1)=.ofNat (i+1):=zbb (m:=i+1) (by omega)
 generalize hr:zab zfB (Eo O) ih ⟨152,46,.normal,none⟩ ⟨tm,h,[]⟩=r
 have hin:WiI h b d i 0 ⟨((((tm.put 22 (some (.bool true))).put 23 (some (.int .i64 (.ofNat i)))).put 5 (some (.int .i64 (.ofNat i)))).put 24 (some (.int .i64 0))),h,[]⟩:=by
  refine ⟨rfl,rfl,?_,?_,?_,?_,?_⟩
  ·simp [zaa,lim,h0]
  ·simp [zaa,lim,h1]
  ·simp [zaa,lim,h21]
  ·simp [zaa,lim]
  ·simp [zaa,lim]
 obtain ⟨o,⟨tm',h',dd'⟩,e0,e1,e2⟩:=zcS (f:=zab zjj (Eo O) ih ⟨152,46,.normal,none⟩) (I:=fun j st=>WiI h b d i j st∧zcu l m=zcu (l.drop (i*60+j)) (m.drop (i*60+j))) (N:=60) (P:=WiP h b d l m i)
  (fun j st hj hI=>zMM hw i j hi hj st hI) (fun st hI=>zyM i st hI) 60 1000000 0 _ (by omega) (by omega) ⟨hin,by simpa using hle⟩
 unfold zjj zfB at e1
 unfold zfB at hr
 simp only [Tryz.f152,cF,Option.getD,cA,cB,cI,zab] at e1
 obtain ⟨p1,p2,p3⟩:=e2
 simp only at p1 p2
 subst p1 p2
 rcases p3 with ⟨rfl,p4,p5⟩ | ⟨rfl,p4,p5⟩
 ·obtain ⟨_,_,q0,q1,q2,_,_⟩:=p4
  simp only at q0 q1 q2
  simp only [Tryz.f152,cF,Option.getD,cA,cB,cI,zab,zbs,zbj,zaJ,zaV,zaT,zbi,zbL,zbt,zbp,zbr,zbq,zaC,zbB,zbh,zay,zaL,zaE,zaS,zac,zao,zak,zbI,zbJ,zbQ,zau,zbM,zcg,zbV,zal,zaH,zbg,zbf,zaa,lim,Nat.reduceLT,Nat.reduceEqDiff,and_true,if_true,if_false,reduceIte,false_and,true_and,zbx,Nat.beq,cond_true,
   zad,zae,zaf,zar,zaZ,zck,zcj,Option.bind_some,zbm,zaG,zbw,zbk,zbG,zbS,zbE,zbl,List.getElem?_toArray,List.getElem?_cons_succ,List.getElem?_cons_zero,List.drop_succ_cons,List.drop_zero,h21,hj',hj2,e1,q2] at hr
  subst hr
  refine .inl ⟨_,rfl,?_,?_⟩
  ·refine ⟨rfl,rfl,?_,?_,?_⟩
   ·simp [zaa,lim,q0]
   ·simp [zaa,lim,q1]
   ·simp [zaa,lim]
  ·rw [p5,show (i+1)*60=i*60+60 by omega]
 ·simp only at p5
  simp only [Tryz.f152,cF,Option.getD,cA,cB,cI,zab,zbs,zbj,zaJ,zaV,zaT,zbi,zbL,zbt,zbp,zbr,zbq,zaC,zbB,zbh,zay,zaL,zaE,zaS,zac,zao,zak,zbI,zbJ,zbQ,zau,zbM,zcg,zbV,zal,zaH,zbg,zbf,zaa,lim,Nat.reduceLT,Nat.reduceEqDiff,and_true,if_true,if_false,reduceIte,false_and,true_and,zbx,Nat.beq,cond_true,
   zad,zae,zaf,zar,zaZ,zck,zcj,Option.bind_some,zbm,zaG,zbw,zbk,zbG,zbS,zbE,zbl,List.getElem?_toArray,List.getElem?_cons_succ,List.getElem?_cons_zero,List.drop_succ_cons,List.drop_zero,h21,hj',hj2,e1] at hr
  subst hr
  exact .inr ⟨.ret,_,by simp,rfl,rfl,rfl,.inr ⟨rfl,p4,p5⟩⟩
theorem zwf {h:SHeap} {b d:Nat} {l m:List Value} (hw:WiH h b d l m) (st:St) (hI:WiJ h b d 60 st∧zcu l m=zcu (l.drop (60*60)) (m.drop (60*60))) :
  ∃ o st',o ≠ .normal∧zab zfB (Eo O) ih ⟨152,46,.normal,none⟩ st=.ok (o,st')∧WiQ h b d l m o st':=by
 obtain ⟨tm,h,dd⟩:=st
 obtain ⟨⟨hd,rfl,h0,h1,h21⟩,hle⟩:=hI
 simp only at hd h0 h1 h21
 subst hd
 have hj':decide (Int.ofNat 60<60)=false:=by decide
 generalize hr:zab zfB (Eo O) ih ⟨152,46,.normal,none⟩ ⟨tm,h,[]⟩=r
 unfold zfB at hr
 simp only [Tryz.f152,cF,Option.getD,cA,cB,cI,zab,zbs,zbj,zaJ,zaV,zaT,zbi,zbL,zbt,zbp,zbr,zbq,zaC,zbB,zbh,zay,zaL,zaE,zaS,zac,zao,zak,zbI,zbJ,zbQ,zau,zbM,zcg,zbV,zal,zaH,zbg,zbf,zaa,lim,Nat.reduceLT,Nat.reduceEqDiff,and_true,if_true,if_false,reduceIte,false_and,true_and,zbx,Nat.beq,cond_true,
   zad,zae,zaf,zar,zaZ,zck,zcj,Option.bind_some,zbm,zaG,zbw,zbk,zbG,zbS,zbE,zbl,List.getElem?_toArray,List.getElem?_cons_succ,List.getElem?_cons_zero,List.drop_succ_cons,List.drop_zero,h21,hj'] at hr
 subst hr
 refine ⟨.exit 0,_,by simp,rfl,rfl,rfl,.inl ⟨rfl,?_⟩⟩
 rw [hle,List.drop_of_length_le (by have:=hw.ll; omega),List.drop_of_length_le (by have:=hw.lm; omega)]
 rfl
theorem zEG {h:SHeap} {b d:Nat} {l m:List Value} {e e':Bool} (hw:WiH h b d l m) (he:∃ c q o r,h.t.get b=some (.cells c 3601 q o r)∧c.get (0+0)=some (.bool e)) (he':∃ c q o r,h.t.get d=some (.cells c 3601 q o r)∧c.get (0+0)=some (.bool e'))
  {tm:Tr Value} (h0:tm.get 0=some (.pointer (some ⟨b,0,none⟩))) (h1:tm.get 1=some (.pointer (some ⟨d,0,none⟩))) :
  ∃ tm',zab (cF Tryz.f152) (Eo O) ih ⟨152,46,.normal,none⟩ ⟨tm,h,[]⟩=.ok (.ret,⟨tm',h,[]⟩)∧tm'.get 4=some (.bool (bif e then true else bif e' then false else zcu l m)):=by
 obtain ⟨c1,q1,o1,r1,g1,g2⟩:=he
 obtain ⟨c2,q2,o2,r2,g3,g4⟩:=he'
 have lx:=zbD (E:=Eo O) E4 rfl g1 g2
 have ly:=zbD (E:=Eo O) E4 rfl g3 g4
 generalize hr:zab (cF Tryz.f152) (Eo O) ih ⟨152,46,.normal,none⟩ ⟨tm,h,[]⟩=r
 cases e with
 | true=>
  simp only [Tryz.f152,cF,Option.getD,cA,cB,cI,zab,zbs,zbj,zaJ,zaV,zaT,zbi,zbL,zbt,zbp,zbr,zbq,zaC,zbB,zbh,zay,zaL,zaE,zaS,zac,zao,zak,zbI,zbJ,zbQ,zau,zbM,zcg,zbV,zal,zaH,zbg,zbf,zaa,lim,Nat.reduceLT,Nat.reduceEqDiff,and_true,if_true,if_false,reduceIte,false_and,true_and,zbx,Nat.beq,cond_true,
   zad,zae,zaf,zar,zaZ,zck,zcj,Option.bind_some,zbm,zaG,zbw,zbk,zbG,zbS,zbE,zbl,List.getElem?_toArray,List.getElem?_cons_succ,List.getElem?_cons_zero,List.drop_succ_cons,List.drop_zero,zcd,zah,Option.bind_some,zas,zcf,zbT,h0,h1,lx,ly,show (true==false)=false from rfl] at hr
  subst hr
  exact ⟨_,rfl,by simp [zaa,lim]⟩
 | false=>
  cases e' with
  | true=>
   simp only [Tryz.f152,cF,Option.getD,cA,cB,cI,zab,zbs,zbj,zaJ,zaV,zaT,zbi,zbL,zbt,zbp,zbr,zbq,zaC,zbB,zbh,zay,zaL,zaE,zaS,zac,zao,zak,zbI,zbJ,zbQ,zau,zbM,zcg,zbV,zal,zaH,zbg,zbf,zaa,lim,Nat.reduceLT,Nat.reduceEqDiff,and_true,if_true,if_false,reduceIte,false_and,true_and,zbx,Nat.beq,cond_true,
   zad,zae,zaf,zar,zaZ,zck,zcj,Option.bind_some,zbm,zaG,zbw,zbk,zbG,zbS,zbE,zbl,List.getElem?_toArray,List.getElem?_cons_succ,List.getElem?_cons_zero,List.drop_succ_cons,List.drop_zero,zcd,zah,Option.bind_some,zas,zcf,zbT,h0,h1,lx,ly,show (false==false)=true from rfl] at hr
   subst hr
   exact ⟨_,rfl,by simp [zaa,lim]⟩
  | false=>
   obtain ⟨tmk,hk⟩:∃ tmk,tmk=(((((((((((((tm.put 4 (some (.bool false))).put 7 (some (.pointer (some ⟨b,0,none⟩)))).put 8 (some (.pointer (some ⟨b,0,none⟩)))).put 9 (some (.pointer (some ⟨b,0+0,none⟩)))).put 10 (some (.bool false))).put 11 (some (.bool false))).put 12 (some (.pointer (some ⟨d,0,none⟩)))).put 13 (some (.pointer (some ⟨d,0,none⟩)))).put 14 (some (.pointer (some ⟨d,0+0,none⟩)))).put 15 (some (.bool false))).put 16 (some (.bool false))).put 21 (some (.int .i64 0)))):=⟨_,rfl⟩
   have hin:WiJ h b d 0 ⟨tmk,h,[]⟩:=by
    subst hk
    refine ⟨rfl,rfl,?_,?_,?_⟩
    ·simp [zaa,lim,h0]
    ·simp [zaa,lim,h1]
    ·simp [zaa,lim]
   obtain ⟨o,⟨tm',h',dd'⟩,e0,e1,e2⟩:=zcS (f:=zab zfB (Eo O) ih ⟨152,46,.normal,none⟩) (I:=fun j st=>WiJ h b d j st∧zcu l m=zcu (l.drop (j*60)) (m.drop (j*60))) (N:=60) (P:=WiQ h b d l m)
    (fun j st hj hI=>zIJ hw j hj st hI) (fun st hI=>zwf hw st hI) 60 1000000 0 _ (by omega) (by omega) ⟨hin,by simp⟩
   unfold zfB at e1
   simp only [Tryz.f152,cF,Option.getD,cA,cB,cI,zab] at e1
   subst hk
   obtain ⟨p1,p2,p3⟩:=e2
   simp only at p1 p2
   subst p1 p2
   rcases p3 with ⟨rfl,p4⟩ | ⟨rfl,p4,p5⟩
   ·simp only [Tryz.f152,cF,Option.getD,cA,cB,cI,zab,zbs,zbj,zaJ,zaV,zaT,zbi,zbL,zbt,zbp,zbr,zbq,zaC,zbB,zbh,zay,zaL,zaE,zaS,zac,zao,zak,zbI,zbJ,zbQ,zau,zbM,zcg,zbV,zal,zaH,zbg,zbf,zaa,lim,Nat.reduceLT,Nat.reduceEqDiff,and_true,if_true,if_false,reduceIte,false_and,true_and,zbx,Nat.beq,cond_true,
   zad,zae,zaf,zar,zaZ,zck,zcj,Option.bind_some,zbm,zaG,zbw,zbk,zbG,zbS,zbE,zbl,List.getElem?_toArray,List.getElem?_cons_succ,List.getElem?_cons_zero,List.drop_succ_cons,List.drop_zero,zcd,zah,Option.bind_some,zas,zcf,zbT,h0,h1,lx,ly,show (false==false)=true from rfl,e1] at hr
    subst hr
    exact ⟨_,rfl,by simp [zaa,lim,p4]⟩
   ·simp only at p5
    simp only [Tryz.f152,cF,Option.getD,cA,cB,cI,zab,zbs,zbj,zaJ,zaV,zaT,zbi,zbL,zbt,zbp,zbr,zbq,zaC,zbB,zbh,zay,zaL,zaE,zaS,zac,zao,zak,zbI,zbJ,zbQ,zau,zbM,zcg,zbV,zal,zaH,zbg,zbf,zaa,lim,Nat.reduceLT,Nat.reduceEqDiff,and_true,if_true,if_false,reduceIte,false_and,true_and,zbx,Nat.beq,cond_true,
   zad,zae,zaf,zar,zaZ,zck,zcj,Option.bind_some,zbm,zaG,zbw,zbk,zbG,zbS,zbE,zbl,List.getElem?_toArray,List.getElem?_cons_succ,List.getElem?_cons_zero,List.drop_succ_cons,List.drop_zero,zcd,zah,Option.bind_some,zas,zcf,zbT,h0,h1,lx,ly,show (false==false)=true from rfl,e1] at hr
    subst hr
    exact ⟨_,rfl,by simp [p4,p5]⟩
theorem zvS {c:Tr Value} {e:Bool} {l:List Value} (h:c.toL 32 3601=some (.bool e::l)):c.get (0+0)=some (.bool e)∧l.length=3600∧∀ k,k<3600→c.get (0+1+k)=l[k]? := by
 obtain ⟨h1,h2⟩:=zcF h
 refine ⟨?_,by simpa using h1,fun k hk => ?_⟩
 ·rw [← h2 0 (by omega) (by unfold lim; omega)]; rfl
 ·have:=h2 (k+1) (by omega) (by unfold lim; omega)
  rw [show 0+1+k=k+1 by omega,← this]
  simp
theorem zEV:Tryz.f152.body=some (cF Tryz.f152):=rfl
theorem zNe:(Eo O).F 152=some Tryz.f152:=by show Tab.funcs.get 152=_; kernel_rfl
theorem zMs {a b:Value}:max Tryz.f152.ntmps (#[a,b]:Array Value).size=46:=rfl
theorem zHW:Tryz.f152.results.toList=[.tmp 4]:=rfl
theorem zxu {n:Nat} (hO:O 152=none) {args:Array Value} {h h':SHeap} {v:Value} (hok:withinQ args.toList h=.ok (v,h')):run (Eo O) (n+1) (.call 152 args .normal) h=.ok (v,h'):=by
 unfold withinQ at hok
 split at hok
 ·rename_i b d hargs
  unfold znh at hok
  split at hok
  ·rename_i c n1 q1 o1 r1 hb
   split at hok
   ·rename_i c' n2 q2 o2 r2 hd
    cases hc:(Nat.beq n1 3601&&Nat.beq n2 3601&&Nat.ble h.next lim) with
    | false=>rw [hc] at hok; simp at hok
    | true=>
     rw [hc,cond_true] at hok
     simp only [Bool.and_eq_true] at hc
     obtain ⟨⟨x1,x2⟩,x3⟩:=hc
     obtain rfl:=Nat.eq_of_beq_eq_true x1
     obtain rfl:=Nat.eq_of_beq_eq_true x2
     have x3:=Nat.le_of_ble_eq_true x3
     unfold zqP at hok
     split at hok
     ·rename_i e l hl
      split at hok
      ·rename_i e' l' hl'
       cases ha:(zbu l&&zbu l') with
       | false=>rw [ha] at hok; simp at hok
       | true=>
        rw [ha,cond_true] at hok
        simp only [Except.ok.injEq,Prod.mk.injEq] at hok
        obtain ⟨rfl,rfl⟩:=hok
        simp only [Bool.and_eq_true] at ha
        obtain ⟨y1,y2,y3⟩:=zvS hl
        obtain ⟨z1,z2,z3⟩:=zvS hl'
        have harr:args = #[.pointer (some ⟨b,0,none⟩),.pointer (some ⟨d,0,none⟩)]:=Array.toList_inj.1 hargs
        subst harr
        obtain ⟨tm',k1,k2⟩:=zEG (O:=O) (ih:=run (Eo O) n) (e:=e) (e':=e') ⟨x3,⟨c,q1,o1,r1,hb,y3⟩,⟨c',q2,o2,r2,hd,z3⟩,y2,z2,ha.1,ha.2⟩ ⟨c,q1,o1,r1,hb,y1⟩ ⟨c',q2,o2,r2,hd,z1⟩
         (tm:=Tr.ofL 33 [.pointer (some ⟨b,0,none⟩),.pointer (some ⟨d,0,none⟩)]) rfl rfl
        refine (zby (show (Eo O).O 152=none from hO)).trans (zaY (vs:=[_]) zNe zEV zMs rfl zHW k1 ?_)
        simp only [zaQ,k2,zcM]
      ·simp at hok
     ·simp at hok
   ·simp at hok
  ·simp at hok
 ·simp at hok
theorem zrB (KE:EnvOK (Eo O)) (hdraw:zcp (Eo O)) (hOK:∀ f g,(Eo O).O f=some g→zaz (Eo O) f g) (hO:O 152=none):zaz (Eo O) 152 withinQ:=
 zcJ (zdc KE hdraw hOK 1) fun args h v h' _ hok=>⟨h',zxu hO hok,rfl,fun _ o h=>⟨o,h,ObjLe.refl o⟩⟩
end Go.Proofs.YtghhpeemloeljaaGreat
set_option linter.unusedSimpArgs false
set_option linter.unusedVariables false
namespace Go.Proofs.YtghhpeemloeljaaGreat
open Go Go.Sim
set_option maxRecDepth 100000
variable {O:OT} {ih:K} {ds:List Deferred}
noncomputable def zgw:Code:=cI (cI (cB (cA (cB (cB (cF Tryz.f148))))))
noncomputable def zmx:Code:=cI (cI (cB (cB (cI (cA (cB (cB zgw)))))))
theorem E27:(Eo O).T 151=some ⟨.slice 230,1,Tab.t151.bytes,Tab.t151.zero⟩:=by show Tab.types.get 151=_; kernel_rfl
theorem E32:(Eo O).T 230=some ⟨Tab.t230.desc,3,24,some (.agg #[.int .i64 0,.int .i64 0,.int .i64 0])⟩:=by show Tab.types.get 230=_; kernel_rfl
theorem zvc {x y z:Int} {h:SHeap}:zfw (Eo O) ((Eo O).T 230) (some [(0,.int .i64 x),(1,.int .i64 y),(2,.int .i64 z)]) h=.ok (.value (.agg #[.int .i64 x,.int .i64 y,.int .i64 z]),h):=by kernel_rfl
theorem zmc {x y z:Value} {h:SHeap}:zfN (Eo O) ((Eo O).T 151) 1 (some [(0,.agg #[x,y,z])]) h=.ok (.value (.slice (some ⟨h.next,0,none⟩) 1 1),zai h 230 [x,y,z] false):=by kernel_rfl
theorem zCY {x y z:Value}:(Tr.ofL 33 [x,y,z]).toListFrom 0 3=some [x,y,z]:=by kernel_rfl
theorem zvQ:zkM (Eo O) [151]=true:=by kernel_rfl
theorem zFP {b e i:Nat} {o r:Bool} {c:Tr Value} {q:Value} {l:List Value} {h:SHeap} (hb:h.t.get b=some (.cells c 3601 e o r)) (hl:c.toL 32 3601=some (q::l)) (hi:i<60) :
  zba (Eo O) 285 (some (.pointer (some ⟨b,0+1+i*60,none⟩))) h=.ok (.value (.agg ((l.drop (i*60)).take 60).toArray),h):=by
 unfold zba loadAt
 simp only [zIE,hb]
 rw [if_pos (show TI.agg ⟨.array 60 3,60,Tab.t285.bytes,Tab.t285.zero⟩=true from rfl)]
 unfold range
 rw [show Nat.ble 60 12=false from rfl,cond_false]
 simp only [hl]
 have h1:Nat.ble (0+1+i*60+60) 3601=true:=by rw [Nat.ble_eq]; omega
 rw [h1,show (true&&Nat.ble 3601 lim)=true from rfl,cond_true]
 rw [show 0+1+i*60=i*60+1 by omega,List.drop_succ_cons]
 rfl
theorem zli {ev:Ev} {op:Oper} {cs:Array Value} {j:Nat} {v:Value} {h:SHeap} (hj:j<60) (hv:cs[j]? = some v):zjN (Eo O) ev op ((Eo O).T 285) (some (.agg cs)) (some j) h=.ok (.value v,h):=by
 rw [zIE]
 simp only [zjN,E3,hj,if_true,zoq,Nat.mul_one]
 rw [if_neg (show ¬ TI.agg ⟨.int .i64,1,Tab.t3.bytes,Tab.t3.zero⟩=true from by decide)]
 simp only [hv,zcM,zal]
theorem append_nil {c:Call} (hc:c.argTypes.toList=[151,151]) {b:Nat} {x y z:Value} {h:SHeap} (hb:h.t.get b=some (.cells (Tr.ofL 33 [x,y,z]) 3 230 false false)) :
  zgf (Eo O) c [.slice none 0 0,.slice (some ⟨b,0,none⟩) 1 1] h=.ok (.slice (some ⟨h.next,0,none⟩) 1 openCap,zai h 230 [x,y,z] true):=by
 unfold zgf
 simp only [hc,zvQ,cond_true,E27,E32,zkT,zhW,hb,Nat.one_mul,zCY,zcM]
 rfl
theorem zuR {c:Call} (hc:c.argTypes.toList=[151,151]) {b r n:Nat} {x y z:Int} {h:SHeap} {ct:Tr Value} (hb:h.t.get b=some (.cells (Tr.ofL 33 [.int .i64 x,.int .i64 y,.int .i64 z]) 3 230 false false))
  (hr:h.t.get r=some (.cells ct (n*3) 230 true false)) (hn:n≤3600) :
  zgf (Eo O) c [.slice (some ⟨r,0,none⟩) n openCap,.slice (some ⟨b,0,none⟩) 1 1] h =
   .ok (.slice (some ⟨h.next,0,none⟩) (n+1) openCap,(h.set r none).new (.cells (((ct.put (n*3) (some (.int .i64 x))).put (n*3+1) (some (.int .i64 y))).put (n*3+1+1) (some (.int .i64 z))) (n*3+3) 230 true false)):=by
 unfold zgf
 simp only [hc,zvQ,cond_true,E27,E32,zkT,zhW,hb,Nat.one_mul,zCY,zcM]
 unfold zkG
 have h1:Nat.ble ((n+1)*(24+1)) 70368744177664=true:=by rw [Nat.ble_eq]; omega
 rw [h1,show (Nat.beq [Value.int .i64 x,.int .i64 y,.int .i64 z].length 3&&true)=true from rfl,cond_true,show Nat.beq openCap openCap=true from rfl,cond_true]
 unfold zku
 simp only [hr]
 have h2:Nat.beq (n*3) (n*3)=true:=Nat.beq_refl _
 rw [h2,show (Nat.beq 0 0&&Nat.beq 230 230&&true)=true from rfl,cond_true]
 have h3:zcC ct (n*3+[Value.int .i64 x,.int .i64 y,.int .i64 z].length) (n*3) [Value.int .i64 x,.int .i64 y,.int .i64 z]=some (((ct.put (n*3) (some (.int .i64 x))).put (n*3+1) (some (.int .i64 y))).put (n*3+1+1) (some (.int .i64 z))):=by
  simp only [zcC,zav,zaD,List.length_cons,List.length_nil]
  rw [zaI (by omega),cond_true,zaI (by omega),cond_true,zaI (by omega),cond_true]
 rw [h3]
 rfl
theorem znz {x:Int}:zbA x=decide (x=2305843009213693952):=by
 cases x with
 | ofNat m=>
  simp only [zbA,zaF]
  congr 1
  apply propext
  constructor
  ·intro h; subst h; rfl
  ·intro h; exact Int.ofNat.inj h
 | negSucc m=>
  simp only [zbA]
  symm
  rw [decide_eq_false_iff_not]
  intro h
  have:=Int.negSucc_lt_zero m
  omega
structure CoI (h0:SHeap) (b:Nat) (l:List Value) (i j cnt:Nat) (out:List Value) (st:St):Prop where
 ds:st.defers=[]
 t0:st.tm.get 0=some (.pointer (some ⟨b,0,none⟩))
 t7:st.tm.get 7=some (.int .i64 (.ofNat i))
 t4:st.tm.get 4=some (.int .i64 (.ofNat i))
 t16:st.tm.get 16=some (.int .i64 (.ofNat j))
 t15:st.tm.get 15=some (.agg ((l.drop (i*60)).take 60).toArray)
 next:st.h.next=h0.next+2*cnt
 hcnt:cnt≤i*60+j
 hlen:out.length=cnt*3
 low:∀ x,x<h0.next→st.h.t.get x=h0.t.get x
 sl:(cnt=0∧st.tm.get 3=some (.slice none 0 0))∨(0<cnt∧st.tm.get 3=some (.slice (some ⟨h0.next+2*cnt-1,0,none⟩) cnt openCap) ∧
  ∃ ct,st.h.t.get (h0.next+2*cnt-1)=some (.cells ct (cnt*3) 230 true false)∧∀ k,k<cnt*3→ct.get k=out[k]?)
 acc:out++zdh (i*60+j) (l.drop (i*60+j))=zdh 0 l
theorem zph {l:List Value} {k:Nat} {x:Int} (hl:l[k]? = some (.int .i64 x)) (h:k/60=k%60∨x=2305843009213693952):zdh k (l.drop k)=zdh (k+1) (l.drop (k+1)):=by
 have hk:k<l.length:=by
  rcases Nat.lt_or_ge k l.length with h' | h'
  ·exact h'
  ·rw [List.getElem?_eq_none h'] at hl; simp at hl
 rw [List.drop_eq_getElem_cons hk]
 rw [List.getElem?_eq_getElem hk] at hl
 rw [Option.some.inj hl,zdh,zaD,zfx]
 rcases h with h | h
 ·rw [zaF,decide_eq_true h]; rfl
 ·rw [znz,decide_eq_true h]
  cases Nat.beq (k/60) (k%60)<;>rfl
theorem zpt {l:List Value} {k:Nat} {x:Int} (hl:l[k]? = some (.int .i64 x)) (h1:k/60≠k%60) (h2:x≠2305843009213693952):zdh k (l.drop k)=[.int .i64 (.ofNat (k/60)),.int .i64 (.ofNat (k%60)),.int .i64 x]++zdh (k+1) (l.drop (k+1)):=by
 have hk:k<l.length:=by
  rcases Nat.lt_or_ge k l.length with h' | h'
  ·exact h'
  ·rw [List.getElem?_eq_none h'] at hl; simp at hl
 rw [List.drop_eq_getElem_cons hk]
 rw [List.getElem?_eq_getElem hk] at hl
 rw [Option.some.inj hl,zdh,zaD,zfx,zaF,decide_eq_false h1,znz,decide_eq_false h2]
 rfl
def CoG (h0:SHeap) (b:Nat) (l:List Value) (i j:Nat) (st:St):Prop:=∃ cnt out,CoI h0 b l i j cnt out st
theorem zLq {h0:SHeap} {b:Nat} {l:List Value} (hn:h0.next+8000≤lim) (hll:l.length=3600) (hal:zbu l=true) (i j:Nat) (hi:i<60) (hj:j<60) (st:St) (hI:CoG h0 b l i j st) :
  ∃ st',zab zmx (Eo O) ih ⟨148,42,.normal,none⟩ st=.ok (.normal,st')∧CoG h0 b l i (j+1) st':=by
 obtain ⟨tm,h,dd⟩:=st
 obtain ⟨cnt,out,hd,t0,t7,t4,t16,t15,hnx,hcnt,hlen,low,sl,acc⟩:=hI
 simp only at hd t0 t7 t4 t16 t15 hnx low sl
 subst hd
 have hk:i*60+j<3600:=by omega
 obtain ⟨x,hx⟩:=zdI hal (show i*60+j<l.length by omega)
 have hrow:(((l.drop (i*60)).take 60).toArray)[j]? = some (.int .i64 x):=by
  rw [List.getElem?_toArray,List.getElem?_take,if_pos hj,List.getElem?_drop]; exact hx
 have hj':decide (Int.ofNat j<60)=true:=by simp; omega
 have hj2:zaK .i64 (Int.ofNat j+1)=.ofNat (j+1):=zbb (m:=j+1) (by omega)
 have e1:(i*60+j)/60=i:=by omega
 have e2:(i*60+j)%60=j:=by omega
 generalize hr:zab zmx (Eo O) ih ⟨148,42,.normal,none⟩ ⟨tm,h,[]⟩=r
 unfold zmx zgw at hr
 by_cases hne:i=j
 ·have hne':(Int.ofNat i != Int.ofNat j)=false:=by simp [hne]
  simp only [Tryz.f148,cF,Option.getD,cA,cB,cI,zab,zbs,zbj,zaJ,zaV,zaT,zbi,zbL,zbt,zbp,zbr,zbq,zaC,zbB,zbh,zay,zaL,zaE,zaS,zac,zao,zak,zbI,zbJ,zbQ,zau,zbM,zcg,zbV,zal,zaH,zbg,zbf,zaa,lim,Nat.reduceLT,Nat.reduceEqDiff,and_true,if_true,if_false,reduceIte,false_and,true_and,zbx,Nat.beq,cond_true,
   zdS,zad,zae,zaf,zar,zaZ,zck,zcj,Option.bind_some,zbm,zaG,zbw,zbk,zbG,zbS,zbE,zbl,List.getElem?_toArray,List.getElem?_cons_succ,List.getElem?_cons_zero,List.drop_succ_cons,List.drop_zero,zas,zcf,zbT,zcd,zah,Option.bind_some,zeP,zbC,zcG,zat,zbY,zcH,zaN,zaj,zfc,
   t0,t7,t4,t16,t15,hj',hj2,hne',zli hj hrow,show (false==true)=false from rfl] at hr
  subst hr
  refine ⟨_,rfl,cnt,out,?_⟩
  refine ⟨rfl,?_,?_,?_,?_,?_,hnx,by omega,hlen,low,?_,?_⟩
  ·simp [zaa,lim,t0]
  ·simp [zaa,lim,t7]
  ·simp [zaa,lim,t4]
  ·simp [zaa,lim]
  ·simp [zaa,lim,t15]
  ·rcases sl with ⟨a,c⟩ | ⟨a,c,d⟩
   ·exact .inl ⟨a,by simp [zaa,lim,c]⟩
   ·exact .inr ⟨a,by simp [zaa,lim,c],d⟩
  ·rw [← acc,zph hx (.inl (by rw [e1,e2]; exact hne))]; rfl
 ·have hne':(Int.ofNat i != Int.ofNat j)=true:=by simp; omega
  by_cases hx0:x=2305843009213693952
  ·have hx':(x != 2305843009213693952)=false:=by simp [hx0]
   simp only [Tryz.f148,cF,Option.getD,cA,cB,cI,zab,zbs,zbj,zaJ,zaV,zaT,zbi,zbL,zbt,zbp,zbr,zbq,zaC,zbB,zbh,zay,zaL,zaE,zaS,zac,zao,zak,zbI,zbJ,zbQ,zau,zbM,zcg,zbV,zal,zaH,zbg,zbf,zaa,lim,Nat.reduceLT,Nat.reduceEqDiff,and_true,if_true,if_false,reduceIte,false_and,true_and,zbx,Nat.beq,cond_true,
   zdS,zad,zae,zaf,zar,zaZ,zck,zcj,Option.bind_some,zbm,zaG,zbw,zbk,zbG,zbS,zbE,zbl,List.getElem?_toArray,List.getElem?_cons_succ,List.getElem?_cons_zero,List.drop_succ_cons,List.drop_zero,zas,zcf,zbT,zcd,zah,Option.bind_some,zeP,zbC,zcG,zat,zbY,zcH,zaN,zaj,zfc,
    t0,t7,t4,t16,t15,hj',hj2,hne',hx',zdS,zli hj hrow,show (true==true)=true from rfl] at hr
   subst hr
   refine ⟨_,rfl,cnt,out,?_⟩
   refine ⟨rfl,?_,?_,?_,?_,?_,hnx,by omega,hlen,low,?_,?_⟩
   ·simp [zaa,lim,t0]
   ·simp [zaa,lim,t7]
   ·simp [zaa,lim,t4]
   ·simp [zaa,lim]
   ·simp [zaa,lim,t15]
   ·rcases sl with ⟨a,c⟩ | ⟨a,c,d⟩
    ·exact .inl ⟨a,by simp [zaa,lim,c]⟩
    ·exact .inr ⟨a,by simp [zaa,lim,c],d⟩
   ·rw [← acc,zph hx (.inr hx0)]; rfl
  ·have hx':(x != 2305843009213693952)=true:=by simp [hx0]
   have hb1:(zai h 230 [.int .i64 (.ofNat i),.int .i64 (.ofNat j),.int .i64 x] false).t.get h.next=some (.cells (Tr.ofL 33 [.int .i64 (.ofNat i),.int .i64 (.ofNat j),.int .i64 x]) 3 230 false false):=by
    simp only [zai,SHeap.new,zaa]
    rw [if_pos ⟨trivial,by omega⟩]
    rfl
   have hn1:∀ (h:SHeap) (cs:List Value) (o:Bool),(zai h 230 cs o).next=h.next+1:=fun _ _ _=>rfl
   rcases sl with ⟨rfl,c3⟩ | ⟨hpos,c3,ct,c4,c5⟩
   ·have ap:∀ (cal:Callee) (a:Array Operand),zgf (Eo O) ⟨cal,a,#[151,151]⟩ [.slice none 0 0,.slice (some ⟨h.next,0,none⟩) 1 1] (zai h 230 [.int .i64 (.ofNat i),.int .i64 (.ofNat j),.int .i64 x] false)=_:=fun _ _=>append_nil rfl hb1
    simp only [Tryz.f148,cF,Option.getD,cA,cB,cI,zab,zbs,zbj,zaJ,zaV,zaT,zbi,zbL,zbt,zbp,zbr,zbq,zaC,zbB,zbh,zay,zaL,zaE,zaS,zac,zao,zak,zbI,zbJ,zbQ,zau,zbM,zcg,zbV,zal,zaH,zbg,zbf,zaa,lim,Nat.reduceLT,Nat.reduceEqDiff,and_true,if_true,if_false,reduceIte,false_and,true_and,zbx,Nat.beq,cond_true,
   zad,zae,zaf,zar,zaZ,zck,zcj,Option.bind_some,zbm,zaG,zbw,zbk,zbG,zbS,zbE,zbl,List.getElem?_toArray,List.getElem?_cons_succ,List.getElem?_cons_zero,List.drop_succ_cons,List.drop_zero,zas,zcf,zbT,zcd,zah,Option.bind_some,zeP,zbC,zcG,zat,zbY,zcH,zaN,zaj,zfc,
     t0,t7,t4,t16,t15,c3,hj',hj2,hne',hx',zdS,zli hj hrow,show (true==true)=true from rfl,zvc,zmc,ap] at hr
    subst hr
    refine ⟨_,rfl,0+1,out++[.int .i64 (.ofNat i),.int .i64 (.ofNat j),.int .i64 x],?_⟩
    refine ⟨rfl,?_,?_,?_,?_,?_,?_,by omega,by simp only [List.length_append,hlen,List.length_cons,List.length_nil],?_,.inr ⟨by omega,?_,?_⟩,?_⟩
    ·simp [zaa,lim,t0]
    ·simp [zaa,lim,t7]
    ·simp [zaa,lim,t4]
    ·simp [zaa,lim]
    ·simp [zaa,lim,t15]
    ·simp only [hn1,hnx]
    ·intro y hy
     simp only [zai,SHeap.new,zaa]
     rw [if_neg (by omega),if_neg (by omega)]
     exact low y hy
    ·simp only [zaa,hn1,hnx,lim,Nat.reduceLT,Nat.reduceEqDiff,and_true,if_true,if_false]
     rfl
    ·refine ⟨Tr.ofL 33 [.int .i64 (.ofNat i),.int .i64 (.ofNat j),.int .i64 x],?_,fun k hk => ?_⟩
     ·rw [show h0.next+2*(0+1)-1=h.next+1 by omega]
      show ((zai h 230 _ false).t.put (h.next+1) _).get (h.next+1)=_
      rw [zaa,if_pos ⟨rfl,by omega⟩]
      rfl
     ·rw [zbv (by unfold lim; omega)]
      have:out=[]:=List.eq_nil_of_length_eq_zero (by omega)
      subst this
      rfl
    ·rw [← acc,zpt hx (by rw [e1,e2]; exact hne) hx0,e1,e2,List.append_assoc]; rfl
   ·have ap:∀ (cal:Callee) (a:Array Operand),zgf (Eo O) ⟨cal,a,#[151,151]⟩ [.slice (some ⟨h0.next+2*cnt-1,0,none⟩) cnt openCap,.slice (some ⟨h.next,0,none⟩) 1 1] (zai h 230 [.int .i64 (.ofNat i),.int .i64 (.ofNat j),.int .i64 x] false)=_:=fun _ _=>zuR rfl hb1 (by
     simp only [zai,SHeap.new,zaa]
     rw [if_neg (by omega)]
     exact c4) (by omega)
    simp only [Tryz.f148,cF,Option.getD,cA,cB,cI,zab,zbs,zbj,zaJ,zaV,zaT,zbi,zbL,zbt,zbp,zbr,zbq,zaC,zbB,zbh,zay,zaL,zaE,zaS,zac,zao,zak,zbI,zbJ,zbQ,zau,zbM,zcg,zbV,zal,zaH,zbg,zbf,zaa,lim,Nat.reduceLT,Nat.reduceEqDiff,and_true,if_true,if_false,reduceIte,false_and,true_and,zbx,Nat.beq,cond_true,
   zad,zae,zaf,zar,zaZ,zck,zcj,Option.bind_some,zbm,zaG,zbw,zbk,zbG,zbS,zbE,zbl,List.getElem?_toArray,List.getElem?_cons_succ,List.getElem?_cons_zero,List.drop_succ_cons,List.drop_zero,zas,zcf,zbT,zcd,zah,Option.bind_some,zeP,zbC,zcG,zat,zbY,zcH,zaN,zaj,zfc,
     t0,t7,t4,t16,t15,c3,hj',hj2,hne',hx',zdS,zli hj hrow,show (true==true)=true from rfl,zvc,zmc,ap] at hr
    subst hr
    refine ⟨_,rfl,cnt+1,out++[.int .i64 (.ofNat i),.int .i64 (.ofNat j),.int .i64 x],?_⟩
    refine ⟨rfl,?_,?_,?_,?_,?_,?_,by omega,by simp only [List.length_append,hlen,List.length_cons,List.length_nil]; omega,?_,.inr ⟨by omega,?_,?_⟩,?_⟩
    ·simp [zaa,lim,t0]
    ·simp [zaa,lim,t7]
    ·simp [zaa,lim,t4]
    ·simp [zaa,lim]
    ·simp [zaa,lim,t15]
    ·simp only [SHeap.new,SHeap.set,hn1,hnx]; omega
    ·intro y hy
     simp only [zai,SHeap.new,SHeap.set,zaa]
     rw [if_neg (by omega),if_neg (by omega),if_neg (by omega)]
     exact low y hy
    ·simp only [zaa,hn1,hnx,lim,Nat.reduceLT,Nat.reduceEqDiff,and_true,if_true,if_false]
     rw [show h0.next+2*cnt+1=h0.next+2*(cnt+1)-1 by omega]
    ·refine ⟨((ct.put (cnt*3) (some (.int .i64 (.ofNat i)))).put (cnt*3+1) (some (.int .i64 (.ofNat j)))).put (cnt*3+1+1) (some (.int .i64 x)),?_,fun k hk => ?_⟩
     ·rw [show h0.next+2*(cnt+1)-1=h.next+1 by omega]
      show ((SHeap.set (zai h 230 _ false) _ none).t.put (h.next+1) _).get (h.next+1)=_
      rw [zaa,if_pos ⟨rfl,by omega⟩,show cnt*3+3=(cnt+1)*3 by omega]
     ·have h0':h0.next≤4294967296:=by unfold lim at hn; omega
      simp only [zaa]
      by_cases q3:k=cnt*3+1+1
      ·rw [if_pos ⟨q3,by unfold lim; omega⟩,List.getElem?_append_right (by omega),show k-out.length=2 by omega]; rfl
      ·rw [if_neg (by omega)]
       by_cases q2:k=cnt*3+1
       ·rw [if_pos ⟨q2,by unfold lim; omega⟩,List.getElem?_append_right (by omega),show k-out.length=1 by omega]; rfl
       ·rw [if_neg (by omega)]
        by_cases q1:k=cnt*3
        ·rw [if_pos ⟨q1,by unfold lim; omega⟩,List.getElem?_append_right (by omega),show k-out.length=0 by omega]; rfl
        ·rw [if_neg (by omega),c5 k (by omega),List.getElem?_append_left (by omega)]
    ·rw [← acc,zpt hx (by rw [e1,e2]; exact hne) hx0,e1,e2,List.append_assoc]; rfl
structure CoJ (h0:SHeap) (b:Nat) (l:List Value) (i cnt:Nat) (out:List Value) (st:St):Prop where
 ds:st.defers=[]
 t0:st.tm.get 0=some (.pointer (some ⟨b,0,none⟩))
 t7:st.tm.get 7=some (.int .i64 (.ofNat i))
 next:st.h.next=h0.next+2*cnt
 hcnt:cnt≤i*60
 hlen:out.length=cnt*3
 low:∀ x,x<h0.next→st.h.t.get x=h0.t.get x
 sl:(cnt=0∧st.tm.get 3=some (.slice none 0 0))∨(0<cnt∧st.tm.get 3=some (.slice (some ⟨h0.next+2*cnt-1,0,none⟩) cnt openCap) ∧
  ∃ ct,st.h.t.get (h0.next+2*cnt-1)=some (.cells ct (cnt*3) 230 true false)∧∀ k,k<cnt*3→ct.get k=out[k]?)
 acc:out++zdh (i*60) (l.drop (i*60))=zdh 0 l
def CoK (h0:SHeap) (b:Nat) (l:List Value) (i:Nat) (st:St):Prop:=∃ cnt out,CoJ h0 b l i cnt out st
theorem zzr {h0:SHeap} {b:Nat} {l:List Value} (i:Nat) (st:St) (hI:CoG h0 b l i 60 st) :
  ∃ st',zab zmx (Eo O) ih ⟨148,42,.normal,none⟩ st=.ok (.exit 2,st')∧CoK h0 b l (i+1) ⟨(st'.tm.put 35 (some (.int .i64 (.ofNat (i+1))))).put 7 (some (.int .i64 (.ofNat (i+1)))),st'.h,st'.defers⟩∧st'.tm.get 7=some (.int .i64 (.ofNat i)):=by
 obtain ⟨tm,h,dd⟩:=st
 obtain ⟨cnt,out,hd,t0,t7,t4,t16,t15,hnx,hcnt,hlen,low,sl,acc⟩:=hI
 simp only at hd t0 t7 t4 t16 t15 hnx low sl
 subst hd
 have hj':decide (Int.ofNat 60<60)=false:=by decide
 generalize hr:zab zmx (Eo O) ih ⟨148,42,.normal,none⟩ ⟨tm,h,[]⟩=r
 unfold zmx zgw at hr
 simp only [Tryz.f148,cF,Option.getD,cA,cB,cI,zab,zbs,zbj,zaJ,zaV,zaT,zbi,zbL,zbt,zbp,zbr,zbq,zaC,zbB,zbh,zay,zaL,zaE,zaS,zac,zao,zak,zbI,zbJ,zbQ,zau,zbM,zcg,zbV,zal,zaH,zbg,zbf,zaa,lim,Nat.reduceLT,Nat.reduceEqDiff,and_true,if_true,if_false,reduceIte,false_and,true_and,zbx,Nat.beq,cond_true,
   zad,zae,zaf,zar,zaZ,zck,zcj,Option.bind_some,zbm,zaG,zbw,zbk,zbG,zbS,zbE,zbl,List.getElem?_toArray,List.getElem?_cons_succ,List.getElem?_cons_zero,List.drop_succ_cons,List.drop_zero,zas,zcf,zbT,zcd,zah,Option.bind_some,zeP,zbC,zcG,zat,zbY,zcH,zaN,zaj,zfc,t16,hj'] at hr
 subst hr
 refine ⟨_,rfl,⟨cnt,out,?_⟩,by simp [zaa,lim,t7]⟩
 refine ⟨rfl,?_,?_,hnx,by omega,hlen,low,?_,?_⟩
 ·simp [zaa,lim,t0]
 ·simp [zaa,lim]
 ·rcases sl with ⟨a,c⟩ | ⟨a,c,d⟩
  ·exact .inl ⟨a,by simp [zaa,lim,c]⟩
  ·exact .inr ⟨a,by simp [zaa,lim,c],d⟩
 ·rw [← acc,show (i+1)*60=i*60+60 by omega]
theorem zGC {h0:SHeap} {b:Nat} {l:List Value} (hn:h0.next+8000≤lim) (hll:l.length=3600) (hal:zbu l=true) (hb0:b<h0.next) {c0:Tr Value} {e0:Nat} {o0 r0:Bool} {q0:Value} (hbk:h0.t.get b=some (.cells c0 3601 e0 o0 r0)) (hc0:c0.toL 32 3601=some (q0::l))
  (i:Nat) (hi:i<60) (st:St) (hI:CoK h0 b l i st) :
  ∃ st',zab zgw (Eo O) ih ⟨148,42,.normal,none⟩ st=.ok (.normal,st')∧CoK h0 b l (i+1) st':=by
 obtain ⟨tm,h,dd⟩:=st
 obtain ⟨cnt,out,hd,t0,t7,hnx,hcnt,hlen,low,sl,acc⟩:=hI
 simp only at hd t0 t7 hnx low sl
 subst hd
 have hj':decide (Int.ofNat i<60)=true:=by simp; omega
 have hj2:zaK .i64 (Int.ofNat i+1)=.ofNat (i+1):=zbb (m:=i+1) (by omega)
 have ld:=zFP (O:=O) (h:=h) (by rw [low b hb0]; exact hbk) hc0 hi
 generalize hr:zab zgw (Eo O) ih ⟨148,42,.normal,none⟩ ⟨tm,h,[]⟩=r
 obtain ⟨tmk,hk⟩:∃ tmk,tmk=((((((((((tm.put 8 (some (.bool true))).put 9 (some (.int .i64 (.ofNat i)))).put 4 (some (.int .i64 (.ofNat i)))).put 10 (some (.pointer (some ⟨b,0,none⟩)))).put 11 (some (.int .i64 (.ofNat i)))).put 12 (some (.pointer (some ⟨b,0,none⟩)))).put 13 (some (.pointer (some ⟨b,0+1,none⟩)))).put 14 (some (.pointer (some ⟨b,0+1+i*60,none⟩)))).put 15 (some (.agg ((l.drop (i*60)).take 60).toArray))).put 16 (some (.int .i64 0))):=⟨_,rfl⟩
 have hin:CoG h0 b l i 0 ⟨tmk,h,[]⟩:=by
  subst hk
  refine ⟨cnt,out,rfl,?_,?_,?_,?_,?_,hnx,by omega,hlen,low,?_,acc⟩
  ·simp [zaa,lim,t0]
  ·simp [zaa,lim,t7]
  ·simp [zaa,lim]
  ·simp [zaa,lim]
  ·simp [zaa,lim]
  ·rcases sl with ⟨a,c⟩ | ⟨a,c,d⟩
   ·exact .inl ⟨a,by simp [zaa,lim,c]⟩
   ·exact .inr ⟨a,by simp [zaa,lim,c],d⟩
 obtain ⟨⟨tm',h',dd'⟩,e1,e2,e3⟩:=zfe (f:=zab zmx (Eo O) ih ⟨148,42,.normal,none⟩) (I:=CoG h0 b l i) (N:=60) (id:=2) (Q:=fun st'=>CoK h0 b l (i+1) ⟨(st'.tm.put 35 (some (.int .i64 (.ofNat (i+1))))).put 7 (some (.int .i64 (.ofNat (i+1)))),st'.h,st'.defers⟩∧st'.tm.get 7=some (.int .i64 (.ofNat i)))
  (fun j st hj hI=>zLq hn hll hal i j hi hj st hI) (fun st hI=>zzr i st hI) 60 1000000 0 _ (by omega) (by omega) hin
 subst hk
 unfold zmx zgw at e1
 unfold zgw at hr
 simp only [Tryz.f148,cF,Option.getD,cA,cB,cI,zab] at e1
 simp only at e3
 simp only [Tryz.f148,cF,Option.getD,cA,cB,cI,zab,zbs,zbj,zaJ,zaV,zaT,zbi,zbL,zbt,zbp,zbr,zbq,zaC,zbB,zbh,zay,zaL,zaE,zaS,zac,zao,zak,zbI,zbJ,zbQ,zau,zbM,zcg,zbV,zal,zaH,zbg,zbf,zaa,lim,Nat.reduceLT,Nat.reduceEqDiff,and_true,if_true,if_false,reduceIte,false_and,true_and,zbx,Nat.beq,cond_true,
   zad,zae,zaf,zar,zaZ,zck,zcj,Option.bind_some,zbm,zaG,zbw,zbk,zbG,zbS,zbE,zbl,List.getElem?_toArray,List.getElem?_cons_succ,List.getElem?_cons_zero,List.drop_succ_cons,List.drop_zero,zas,zcf,zbT,zcd,zah,Option.bind_some,zeP,zbC,zcG,zat,zbY,zcH,zaN,zaj,zfc,t0,t7,hj',hj2,zcV hi,ld,e1,e3] at hr
 subst hr
 exact ⟨_,rfl,e2⟩
theorem zwi {h0:SHeap} {b:Nat} {l:List Value} (st:St) (hI:CoK h0 b l 60 st) :
  ∃ st',zab zgw (Eo O) ih ⟨148,42,.normal,none⟩ st=.ok (.exit 0,st')∧CoK h0 b l 60 st':=by
 obtain ⟨tm,h,dd⟩:=st
 obtain ⟨cnt,out,hd,t0,t7,hnx,hcnt,hlen,low,sl,acc⟩:=hI
 simp only at hd t0 t7 hnx low sl
 subst hd
 have hj':decide (Int.ofNat 60<60)=false:=by decide
 generalize hr:zab zgw (Eo O) ih ⟨148,42,.normal,none⟩ ⟨tm,h,[]⟩=r
 unfold zgw at hr
 simp only [Tryz.f148,cF,Option.getD,cA,cB,cI,zab,zbs,zbj,zaJ,zaV,zaT,zbi,zbL,zbt,zbp,zbr,zbq,zaC,zbB,zbh,zay,zaL,zaE,zaS,zac,zao,zak,zbI,zbJ,zbQ,zau,zbM,zcg,zbV,zal,zaH,zbg,zbf,zaa,lim,Nat.reduceLT,Nat.reduceEqDiff,and_true,if_true,if_false,reduceIte,false_and,true_and,zbx,Nat.beq,cond_true,
   zad,zae,zaf,zar,zaZ,zck,zcj,Option.bind_some,zbm,zaG,zbw,zbk,zbG,zbS,zbE,zbl,List.getElem?_toArray,List.getElem?_cons_succ,List.getElem?_cons_zero,List.drop_succ_cons,List.drop_zero,zas,zcf,zbT,zcd,zah,Option.bind_some,zeP,zbC,zcG,zat,zbY,zcH,zaN,zaj,zfc,t7,hj'] at hr
 subst hr
 refine ⟨_,rfl,cnt,out,?_⟩
 refine ⟨rfl,?_,?_,hnx,by omega,hlen,low,?_,acc⟩
 ·simp [zaa,lim,t0]
 ·simp [zaa,lim,t7]
 ·rcases sl with ⟨a,c⟩ | ⟨a,c,d⟩
  ·exact .inl ⟨a,by simp [zaa,lim,c]⟩
  ·exact .inr ⟨a,by simp [zaa,lim,c],d⟩
theorem zCQ {ev:Ev} {op:Oper} {a:Option Addr} {n c:Nat} {h:SHeap}:zks (Eo O) ev op ((Eo O).T 151) (.slice a n c) h=.ok (.value (.int .i64 (.ofNat n)),h):=by
 rw [E27]
 rfl
theorem zuX {ev:Ev} {op:Oper} {h:SHeap}:ziG (Eo O) ev op 151 (some (.slice none 0 0)) none (some (some (.int .i64 (.ofNat 0)))) (some (some (.int .i64 (.ofNat 0)))) h=.ok (.value (.slice none 0 0),h):=by kernel_rfl
theorem zsz {ev:Ev} {op:Oper} {h:SHeap} {r n:Nat} (h0:0<n) (hn:n≤3600):ziG (Eo O) ev op 151 (some (.slice (some ⟨r,0,none⟩) n openCap)) none (some (some (.int .i64 (.ofNat n)))) (some (some (.int .i64 (.ofNat n)))) h=.ok (.value (.slice (some ⟨r,0,none⟩) n n),h):=by
 simp only [ziG,ztj,zeT,zbm,E27,zgi,E32,Option.getD]
 have e:openCap=1180591620717411303424:=rfl
 rw [if_neg]
 ·rw [if_neg (by omega)]
  simp [zbe,zal]
 ·simp [e]
  omega
theorem zEc {h0:SHeap} {b:Nat} {l:List Value} (hn:h0.next+8000≤lim) (hll:l.length=3600) (hal:zbu l=true) (hb0:b<h0.next) {c0:Tr Value} {e0:Nat} {o0 r0:Bool} {q0:Value} (hbk:h0.t.get b=some (.cells c0 3601 e0 o0 r0)) (hc0:c0.toL 32 3601=some (q0::l))
  {tm:Tr Value} (t0:tm.get 0=some (.pointer (some ⟨b,0,none⟩))) :
  ∃ tm' h' cnt,zab (cF Tryz.f148) (Eo O) ih ⟨148,42,.normal,none⟩ ⟨tm,h0,[]⟩=.ok (.ret,⟨tm',h',[]⟩)∧(zdh 0 l).length=cnt*3∧cnt≤3600∧h'.next=h0.next+2*cnt∧(∀ x,x<h0.next→h'.t.get x=h0.t.get x) ∧
   ((cnt=0∧tm'.get 2=some (.slice none 0 0))∨(0<cnt∧tm'.get 2=some (.slice (some ⟨h0.next+2*cnt-1,0,none⟩) cnt cnt)∧∃ ct,h'.t.get (h0.next+2*cnt-1)=some (.cells ct (cnt*3) 230 true false)∧∀ k,k<cnt*3→ct.get k=(zdh 0 l)[k]?)):=by
 obtain ⟨tmk,hk⟩:∃ tmk,tmk=(((tm.put 2 (some (.slice none 0 0))).put 3 (some (.slice none 0 0))).put 7 (some (.int .i64 0))):=⟨_,rfl⟩
 have hin:CoK h0 b l 0 ⟨tmk,h0,[]⟩:=by
  subst hk
  refine ⟨0,[],rfl,?_,?_,rfl,by omega,rfl,fun _ _=>rfl,.inl ⟨rfl,?_⟩,by simp⟩
  ·simp [zaa,lim,t0]
  ·simp [zaa,lim]
  ·simp [zaa,lim]
 obtain ⟨⟨tm1,h1,dd1⟩,e1,e2⟩:=zfe (f:=zab zgw (Eo O) ih ⟨148,42,.normal,none⟩) (I:=CoK h0 b l) (N:=60) (id:=0) (Q:=CoK h0 b l 60)
  (fun j st hj hI=>zGC hn hll hal hb0 hbk hc0 j hj st hI) (fun st hI=>zwi st hI) 60 1000000 0 _ (by omega) (by omega) hin
 subst hk
 unfold zgw at e1
 simp only [Tryz.f148,cF,Option.getD,cA,cB,cI,zab] at e1
 generalize hr:zab (cF Tryz.f148) (Eo O) ih ⟨148,42,.normal,none⟩ ⟨tm,h0,[]⟩=r
 obtain ⟨cnt,out,hd,u0,u7,hnx,hcnt,hlen,low,sl,acc⟩:=e2
 simp only at hd u0 u7 hnx low sl
 subst hd
 have hout:out=zdh 0 l:=by
  rw [← acc,List.drop_of_length_le (by omega)]
  simp [zdh]
 subst hout
 have sn:∀ G (tm:Tr Value),evT G tm (.const (.slice none 0 0))=some (.slice none 0 0):=fun _ _=>rfl
 have hm:∀ (f:Operand→Option Value) (x:Operand),(some x).map f=some (f x):=fun _ _=>rfl
 have hm0:∀ (f:Operand→Option Value),(none:Option Operand).map f=none:=fun _=>rfl
 rcases sl with ⟨rfl,c3⟩ | ⟨hpos,c3,ct,c4,c5⟩
 ·simp only [Tryz.f148,cF,Option.getD,cA,cB,cI,zab,zbs,zbj,zaJ,zaV,zaT,zbi,zbL,zbt,zbp,zbr,zbq,zaC,zbB,zbh,zay,zaL,zaE,zaS,zac,zao,zak,zbI,zbJ,zbQ,zau,zbM,zcg,zbV,zal,zaH,zbg,zbf,zaa,lim,Nat.reduceLT,Nat.reduceEqDiff,and_true,if_true,if_false,reduceIte,false_and,true_and,zbx,Nat.beq,cond_true,
   zad,zae,zaf,zar,zaZ,zck,zcj,Option.bind_some,zbm,zaG,zbw,zbk,zbG,zbS,zbE,zbl,List.getElem?_toArray,List.getElem?_cons_succ,List.getElem?_cons_zero,List.drop_succ_cons,List.drop_zero,zas,zcf,zbT,zcd,zah,Option.bind_some,zeP,zbC,zcG,zat,zbY,zcH,zaN,zaj,zfc,sn,e1,c3,zCQ,hm,hm0,zuX] at hr
  subst hr
  exact ⟨_,h1,0,rfl,hlen,by omega,hnx,low,.inl ⟨rfl,by simp [zaa,lim]⟩⟩
 ·simp only [Tryz.f148,cF,Option.getD,cA,cB,cI,zab,zbs,zbj,zaJ,zaV,zaT,zbi,zbL,zbt,zbp,zbr,zbq,zaC,zbB,zbh,zay,zaL,zaE,zaS,zac,zao,zak,zbI,zbJ,zbQ,zau,zbM,zcg,zbV,zal,zaH,zbg,zbf,zaa,lim,Nat.reduceLT,Nat.reduceEqDiff,and_true,if_true,if_false,reduceIte,false_and,true_and,zbx,Nat.beq,cond_true,
   zad,zae,zaf,zar,zaZ,zck,zcj,Option.bind_some,zbm,zaG,zbw,zbk,zbG,zbS,zbE,zbl,List.getElem?_toArray,List.getElem?_cons_succ,List.getElem?_cons_zero,List.drop_succ_cons,List.drop_zero,zas,zcf,zbT,zcd,zah,Option.bind_some,zeP,zbC,zcG,zat,zbY,zcH,zaN,zaj,zfc,sn,e1,c3,zCQ,hm,hm0,zsz hpos (show cnt≤3600 by omega)] at hr
  subst hr
  exact ⟨_,h1,cnt,rfl,hlen,by omega,hnx,low,.inr ⟨hpos,by simp [zaa,lim],ct,c4,c5⟩⟩
theorem zFd:Tryz.f148.body=some (cF Tryz.f148):=rfl
theorem zMH:(Eo O).F 148=some Tryz.f148:=by show Tab.funcs.get 148=_; kernel_rfl
theorem zMQ {a:Value}:max Tryz.f148.ntmps (#[a]:Array Value).size=42:=rfl
theorem zJY:Tryz.f148.results.toList=[.tmp 2]:=rfl
theorem zzK {n:Nat} (hO:O 148=none) {args:Array Value} {h h':SHeap} {v:Value} (hlow:∀ b o,h.t.get b=some o→b<h.next) (hok:consQ args.toList h=.ok (v,h')) :
  ∃ h'',run (Eo O) (n+1) (.call 148 args .normal) h=.ok (v,h'')∧h''.next=h'.next∧∀ b o,h'.t.get b=some o→∃ o2,h''.t.get b=some o2∧ObjLe (Eo O) o2 o:=by
 unfold consQ at hok
 split at hok
 ·rename_i b hargs
  unfold zse at hok
  split at hok
  ·rename_i c n1 q1 o1 r1 hb
   cases hc:(Nat.beq n1 3601&&Nat.ble (h.next+8000) lim&&Nat.blt b h.next) with
   | false=>rw [hc] at hok; simp at hok
   | true=>
    rw [hc,cond_true] at hok
    simp only [Bool.and_eq_true] at hc
    obtain ⟨⟨x1,x2⟩,x3⟩:=hc
    obtain rfl:=Nat.eq_of_beq_eq_true x1
    have x2:=Nat.le_of_ble_eq_true x2
    have x3:=zaB x3
    unfold zsc at hok
    split at hok
    ·rename_i e l hl
     cases ha:zbu l with
     | false=>rw [ha] at hok; simp at hok
     | true=>
      rw [ha,cond_true] at hok
      have hll:l.length=3600:=by have:=(zcF hl).1; simpa using this
      have harr:args = #[.pointer (some ⟨b,0,none⟩)]:=Array.toList_inj.1 hargs
      subst harr
      obtain ⟨tm',h1,cnt,k1,k2,k3,k4,k5,k6⟩:=zEc (O:=O) (ih:=run (Eo O) n) x2 hll ha x3 hb hl (tm:=Tr.ofL 33 [.pointer (some ⟨b,0,none⟩)]) rfl
      rw [k2,Nat.mul_div_cancel _ (by omega)] at hok
      have fin:∀ u,tm'.get 2=some u→run (Eo O) (n+1) (.call 148 #[.pointer (some ⟨b,0,none⟩)] .normal) h=.ok (u,h1):=fun u hu=>
       (zby (show (Eo O).O 148=none from hO)).trans (zaY (vs:=[u]) zMH zFd zMQ rfl zJY k1 (by simp only [zaQ,hu,zcM]))
      refine ⟨h1,?_⟩
      rcases k6 with ⟨rfl,c1⟩ | ⟨hpos,c1,ct,c2,c3⟩
      ·have:zdh 0 l=[]:=List.eq_nil_of_length_eq_zero (by omega)
       rw [this] at hok
       simp only [zlf,Except.ok.injEq,Prod.mk.injEq] at hok
       obtain ⟨rfl,rfl⟩:=hok
       exact ⟨fin _ c1,k4,fun x o hx=>⟨o,by rw [k5 x (hlow x o hx)]; exact hx,ObjLe.refl o⟩⟩
      ·unfold zlf at hok
       split at hok
       ·rename_i h0; rw [h0] at k2; simp at k2; omega
       ·rename_i a r h0
        simp only [Except.ok.injEq,Prod.mk.injEq] at hok
        obtain ⟨rfl,rfl⟩:=hok
        refine ⟨fin _ c1,k4,fun x o hx => ?_⟩
        simp only [zaa] at hx
        split at hx
        ·rename_i hxx
         obtain ⟨rfl,_⟩:=hxx
         simp only [Option.some.injEq] at hx
         subst hx
         refine ⟨_,c2,ObjLe.cells fun i v hi => ?_⟩
         have hi:=zcX hi
         have:i<(zdh 0 l).length:=by
          rcases Nat.lt_or_ge i (zdh 0 l).length with h | h
          ·exact h
          ·rw [List.getElem?_eq_none h] at hi; simp at hi
         rw [c3 i (by omega)]
         exact hi
        ·exact ⟨o,by rw [k5 x (hlow x o hx)]; exact hx,ObjLe.refl o⟩
    ·simp at hok
  ·simp at hok
 ·simp at hok
theorem zvG (KE:EnvOK (Eo O)) (hdraw:zcp (Eo O)) (hOK:∀ f g,(Eo O).O f=some g→zaz (Eo O) f g) (hO:O 148=none):zaz (Eo O) 148 consQ:=
 zcJ (zdc KE hdraw hOK 1) fun args h v h' hlow hok=>zzK hO hlow hok
end Go.Proofs.YtghhpeemloeljaaGreat
set_option linter.unusedSimpArgs false
set_option linter.unusedVariables false
namespace Go.Proofs.YtghhpeemloeljaaGreat
open Go Go.Sim
set_option maxRecDepth 100000
variable {O:OT} {ih:K}
theorem zDD:Tryz.f263.body=some (cF Tryz.f263):=rfl
theorem zNC:(Eo O).F 263=some Tryz.f263:=by show Tab.funcs.get 263=_; kernel_rfl
theorem zNj {a b:Value}:max Tryz.f263.ntmps (#[a,b]:Array Value).size=24:=rfl
theorem zFV:Tryz.f263.results.toList=[.tmp 4]:=rfl
theorem zfO {E:Env} {ev:Ev} {o:Oper} {t:TypeId} {x y:Int} {h:SHeap}:zcZ E ev o .eql t (some (.int .i64 x)) (some (.int .i64 y)) h=.ok (.value (.bool (x==y)),h):=zel rfl
theorem zni {n:Nat} (hO:O 263=none) {a b:Int} {h:SHeap}:run (Eo O) (n+1) (.call 263 #[.int .i64 a,.int .i64 b] .normal) h=.ok (.int .i64 (zaM a b),h):=by
 suffices hc:∃ tm',zab (cF Tryz.f263) (Eo O) (run (Eo O) n) ⟨263,24,.normal,none⟩ ⟨Tr.ofL 33 [.int .i64 a,.int .i64 b],h,[]⟩=.ok (.ret,⟨tm',h,[]⟩)∧tm'.get 4=some (.int .i64 (zaM a b)) by
  obtain ⟨tm',k1,k2⟩:=hc
  exact (zby (show (Eo O).O 263=none from hO)).trans (zaY (vs:=[_]) zNC zDD zNj rfl zFV k1 (by simp only [zaQ,k2,zcM]))
 generalize hr:zab (cF Tryz.f263) (Eo O) (run (Eo O) n) ⟨263,24,.normal,none⟩ ⟨Tr.ofL 33 [.int .i64 a,.int .i64 b],h,[]⟩=r
 have t0:(Tr.ofL 33 [Value.int .i64 a,.int .i64 b]).get 0=some (.int .i64 a):=rfl
 have t1:(Tr.ofL 33 [Value.int .i64 a,.int .i64 b]).get 1=some (.int .i64 b):=rfl
 generalize Tr.ofL 33 [Value.int .i64 a,.int .i64 b]=tm at hr t0 t1
 unfold zaM
 generalize hs:zaK .i64 (a+b)=s at hr ⊢
 cases c1:(a==2305843009213693952)<;>cases c2:(b==2305843009213693952)<;>cases c3:decide (s>1152921504606846976)<;>cases c4:decide (s < -1152921504606846976) <;>
 ·simp only [Tryz.f263,cF,Option.getD,cA,cB,cI,zab,zbs,zbj,zaJ,zaV,zaT,zbi,zbL,zbt,zbp,zbr,zbq,zaC,zbB,zbh,zay,zaL,zaE,zaS,zac,zao,zak,zbI,zbJ,zbQ,zau,zbM,zcg,zbV,zfO,zal,zaH,zbg,zbf,zaa,lim,Nat.reduceLT,Nat.reduceEqDiff,and_true,if_true,if_false,reduceIte,false_and,true_and,zbx,Nat.beq,cond_true,cond_false,
   Option.bind_some,zbm,zbE,zbl,List.getElem?_toArray,List.getElem?_cons_succ,List.getElem?_cons_zero,List.drop_succ_cons,List.drop_zero,zcd,zah,zas,zcf,zbT,t0,t1,hs,c1,c2,c3,c4,bqa,bqb,bqc,bqd] at hr
  subst hr
  exact ⟨_,rfl,by simp [zaa,lim]⟩
theorem zyj (KE:EnvOK (Eo O)) (hdraw:zcp (Eo O)) (hOK:∀ f g,(Eo O).O f=some g→zaz (Eo O) f g) (hO:O 263=none):zaz (Eo O) 263 sumQ:=by
 intro args h v h' hok ρ w hw hg rargs ha c cs
 obtain ⟨l⟩:=args
 unfold sumQ at hok
 split at hok
 ·rename_i a b e
  obtain ⟨rfl,rfl⟩:=zaq hok
  have e:l=[.int .i64 a,.int .i64 b]:=e
  subst e
  exact zdc KE hdraw hOK 1 _ _ _ _ (zni (n:=0) hO) ρ w hw hg rargs ha c cs (.inl rfl)
 ·simp at hok
end Go.Proofs.YtghhpeemloeljaaGreat
set_option linter.unusedSimpArgs false
set_option linter.unusedVariables false
namespace Go.Sim
open Go
def zcb:Code→List (Array Oper)
 | .seq a b=>zcb a++zcb b
 | .cond _ a b=>zcb a++zcb b
 | .block _ b=>zcb b
 | .loop b=>zcb b
 | .scope b=>zcb b
 | .region _ ops d=>match d with
  | true=>[ops]
  | false=>[]
 | _=>[]
def zev:List (Array Oper)→Nat→Array Oper
 | [],_ => #[]
 | x::_,0=>x
 | _::r,n+1=>zev r n
theorem zdW {ih:K} {g:FuncId} {args:Array Value} {h:SHeap}:callOut ih (.enter g args,h)=ih (.call g args .normal) h:=(id rfl)
theorem zfr {E:Env} {ih:K} {l:List Oper} {nt base i lo:Nat} {heaps:List SHeap} {tm:Tr Value} {h:SHeap} {cur:List Nat} :
  zcc E ih l.toArray nt base ⟨i,.eff,lo⟩ ⟨heaps,tm,h,cur⟩=(match l[i]? with
   | none=>.error "draw  no operation"
   | some ⟨dst,op,ty,pos,after,g⟩=>match g with
    | none=>(match zac op E (evT E.G tm) ⟨dst,op,ty,pos,after,none⟩ h with
     | .error e=>.error e
     | .ok out=>match callOut ih out with
      | .error e=>.error e
      | .ok (v,h)=>bif Nat.ble h.next lim then .ok ⟨h::heaps,zcr tm nt dst v,h,[]⟩ else .error "draw  too many names")
    | some _=>zcc E ih l.toArray nt base ⟨i,.eff,lo⟩ ⟨heaps,tm,h,cur⟩):=by
 rcases ho:l[i]? with _ | ⟨dst,op,ty,pos,after,g⟩
 ·simp only [zcc,List.getElem?_toArray,ho]
 ·cases g with
  | none=>
   simp only [zcc,List.getElem?_toArray,ho,zah,PKind.isEff,cond_true,zdi]
   cases zac op E (evT E.G tm) ⟨dst,op,ty,pos,after,none⟩ h with
   | error e=>rfl
   | ok out=>
    simp only
    cases callOut ih out with
    | error e=>rfl
    | ok p=>rfl
  | some _=>rfl
theorem zlT {E:Env} {ih:K} {l:List Oper} {nt base i:Nat} {hh:SHeap} {old:List SHeap} {tm:Tr Value} {h:SHeap} {cur:List Nat} :
  zcc E ih l.toArray nt base ⟨i,.read,0⟩ ⟨hh::old,tm,h,cur⟩=(match l[i]? with
   | none=>.error "draw  no operation"
   | some ⟨dst,op,ty,pos,after,g⟩=>match g with
    | none=>(match zdP (zac op E (evT E.G tm) ⟨dst,op,ty,pos,after,none⟩ hh) with
     | .ok v=>bif zdl E (evT E.G tm) ⟨dst,op,ty,pos,after,none⟩ v old then .ok ⟨hh::old,zcr tm nt dst v,h,cur⟩ else .error "draw  a read that hangs on the order"
     | .error e=>.error e)
    | some _=>zcc E ih l.toArray nt base ⟨i,.read,0⟩ ⟨hh::old,tm,h,cur⟩):=by
 rcases ho:l[i]? with _ | ⟨dst,op,ty,pos,after,g⟩
 ·simp only [zcc,List.getElem?_toArray,ho]
 ·cases g with
  | none=>
   simp only [zcc,List.getElem?_toArray,ho,zah,PKind.isEff,cond_false,zhg,zdi,Nat.sub_zero,List.take_length]
   cases zdP (zac op E (evT E.G tm) ⟨dst,op,ty,pos,after,none⟩ hh) with
   | error e=>rfl
   | ok v=>
    simp only
    cases hR:zdl E (evT E.G tm) ⟨dst,op,ty,pos,after,none⟩ v old<;>simp only [hR,cond_true,cond_false]
  | some _=>rfl
theorem zdV {E:Env} {ev:Ev} {o:Oper} {v:Value}:zdl E ev o v []=true:=(id rfl)
theorem zdB {E:Env} {ev:Ev} {dst:Option Tmp} {op:Op} {ty:TypeId} {pos:String} {after:Array Edge} {g:Option (Nat×Bool)} {v:Value} {h:SHeap} {r:List SHeap}:zdl E ev ⟨dst,op,ty,pos,after,g⟩ v (h::r)=(match zac op E ev ⟨dst,op,ty,pos,after,g⟩ h with
  | .ok (.value u,_)=>zdz 200 u v&&zdl E ev ⟨dst,op,ty,pos,after,g⟩ v r
  | _=>false):=by
 simp only [zdl,zdi]
 rfl
theorem valEq_int {k:IntKind} {n:Int}:zdz 200 (.int k n) (.int k n)=true:=by simp [zdz]
variable {ih:K}
theorem zdU {v:Value} {h:SHeap}:callOut ih (.value v,h)=.ok (v,h):=(id rfl)
theorem zbn {ih:K} {fx:Fx} {dst:Option Tmp} {tm:Tr Value} {ds:List Deferred} {g:FuncId} {args:Array Value} {h:SHeap}:zhY ih fx dst tm ds (.enter g args,h)=(match ih (.call g args .normal) h with
  | .error e=>.error e
  | .ok (v,h')=>.ok ⟨zcr tm fx.nt dst v,h',ds⟩):=by
 simp only [zhY]
 cases ih (.call g args .normal) h with
 | error e=>rfl
 | ok p=>
  obtain ⟨v,⟨t,n⟩⟩:=p
  simp only [zeF,zhn,zav,zaD]
def zcY (E:Env) (f:FuncId):Prop:=∀ args h,znc E f args h=.ok (.enter f args,h)
theorem zam {E:Env} {G:Nat} {tm:Tr Value} {o:Oper} {f:FuncId} {args:Array Operand} {ats:Array TypeId} {h:SHeap} (he:zcY E f):zbY E (evT G tm) o ⟨.value (.func f),args,ats⟩ h=(match zaj (evT G tm) args.toList with
  | none=>.error "call  args"
  | some l=>.ok (.enter f l.toArray,h)):=by
 simp only [zbY,zen,evT]
 cases zaj (evT G tm) args.toList with
 | none=>rfl
 | some l=>simp only [zej,Array.append_empty,Array.empty_append,he _ _]
theorem zgH {G:Nat} {tm:Tr Value} {f:FuncId}:evT G tm (.func f)=some (.func (.func f) #[] #[]):=(id rfl)
theorem zhi {E:Env} {ev:Ev} {o:Oper} {t:TypeId} {x y:Int} {h:SHeap}:zcZ E ev o .geq t (some (.int .i64 x)) (some (.int .i64 y)) h=.ok (.value (.bool (decide (x≥y))),h):=zel (id rfl)
def zjG (x y:Int):Int:=bif decide (y<x) then y else x
theorem zgE {E:Env} {G:Nat} {tm:Tr Value} {o:Oper} {a b:Operand} {ats:Array TypeId} {h:SHeap}:zbY E (evT G tm) o ⟨.builtin .min,#[a,b],ats⟩ h=(match evT G tm a,evT G tm b with
  | some (.int .i64 x),some (.int .i64 y)=>.ok (.value (.int .i64 (zjG x y)),h)
  | _,_=>zbY E (evT G tm) o ⟨.builtin .min,#[a,b],ats⟩ h):=by
 split
 ·rename_i x y h1 h2
  simp only [zbY,zaj,h1,h2]
  rfl
 ·rfl
end Go.Sim
namespace Go.Proofs.YtghhpeemloeljaaGreat
open Go Go.Sim
theorem SSb:type_of% @zbV∧type_of% @zaG∧type_of% @zaH∧type_of% @bqa∧type_of% @bqb∧type_of% @bqc∧type_of% @bqd∧type_of% @zaT∧type_of% @zbj∧type_of% @zbt∧type_of% @zbx∧type_of% @zaV∧type_of% @zaJ∧type_of% @zbL∧type_of% @zbs∧type_of% @zbi∧type_of% @zdW∧type_of% @zdU∧type_of% @zgE∧type_of% @zbk∧type_of% @zbw∧type_of% @zfr∧type_of% @zbG∧type_of% @zlT∧type_of% @zfO∧type_of% @zbQ∧type_of% @zgH∧type_of% @zbJ∧type_of% @zbI∧type_of% @zaE∧type_of% @zay∧type_of% @zaL∧type_of% @zck∧type_of% @zcj∧type_of% @zhi∧type_of% @zaa∧type_of% @zcg∧type_of% @zbM∧type_of% @zbm∧type_of% @zdS∧type_of% @zaZ∧type_of% @zaS∧type_of% @zbq∧type_of% @zcd∧type_of% @zbp∧type_of% @zbr∧type_of% @zbl∧type_of% @zbT∧type_of% @zcf∧type_of% @zbf∧type_of% @zbg∧type_of% @zdB∧type_of% @zdV∧type_of% @zbE∧type_of% @zbh∧type_of% @zaC∧type_of% @zbB∧type_of% @valEq_int:=And.intro @zbV (And.intro @zaG (And.intro @zaH (And.intro @bqa (And.intro @bqb (And.intro @bqc (And.intro @bqd (And.intro @zaT (And.intro @zbj (And.intro @zbt (And.intro @zbx (And.intro @zaV (And.intro @zaJ (And.intro @zbL (And.intro @zbs (And.intro @zbi (And.intro @zdW (And.intro @zdU (And.intro @zgE (And.intro @zbk (And.intro @zbw (And.intro @zfr (And.intro @zbG (And.intro @zlT (And.intro @zfO (And.intro @zbQ (And.intro @zgH (And.intro @zbJ (And.intro @zbI (And.intro @zaE (And.intro @zay (And.intro @zaL (And.intro @zck (And.intro @zcj (And.intro @zhi (And.intro @zaa (And.intro @zcg (And.intro @zbM (And.intro @zbm (And.intro @zdS (And.intro @zaZ (And.intro @zaS (And.intro @zbq (And.intro @zcd (And.intro @zbp (And.intro @zbr (And.intro @zbl (And.intro @zbT (And.intro @zcf (And.intro @zbf (And.intro @zbg (And.intro @zdB (And.intro @zdV (And.intro @zbE (And.intro @zbh (And.intro @zaC (And.intro @zbB (@valEq_int)))))))))))))))))))))))))))))))))))))))))))))))))))))))))
end Go.Proofs.YtghhpeemloeljaaGreat

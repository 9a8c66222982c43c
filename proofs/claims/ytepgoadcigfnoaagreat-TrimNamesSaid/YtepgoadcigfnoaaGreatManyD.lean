/- The simulator where a walk over a map can take its steps in more than one way: all outcomes. Definitions. -/
import Derived.Test.YtepgoadcigfnoaaGreatMemoD
set_option linter.unusedVariables false
set_option linter.unusedSimpArgs false
namespace Go.Sim

/-- all outcomes of each,one behind the other -/
def mapN {α β : Type} (f : α → Ex (List β)) : List α → Ex (List β)
  | [] => .ok []
  | a :: r => match f a with
    | .error e => .error e
    | .ok l => match mapN f r with
      | .error e => .error e
      | .ok m => .ok (l ++ m)

def stepN (fx : Fx) (dst : Option Tmp) (tm : Tr Value) (ds : List Deferred) (k : St → Ex (List St)) : Value × SHeap → Ex (List St)
  | (v,⟨t,next⟩) => (putT tm fx.nt dst v).force fun tm => t.force fun t => k ⟨tm,⟨t,next⟩,ds⟩

def isNext (o : Oper) : Option Operand := match o with
  | ⟨_,op,_,_,_,g⟩ => match op with
    | .next x b => match b with
      | false => match g with
        | none => some x
        | some _ => none
      | true => none
    | _ => none

def opsN (E : Env) (ih : K) (fx : Fx) (all : Array Oper) : List Oper → St → Ex (List St)
  | [],st => .ok [st]
  | o :: r,st => match isNext o with
    | some x => match st with
      | ⟨tm,h,ds⟩ => match nextsS (evT E.G tm x) h with
        | .error e => .error e
        | .ok l => mapN (stepN fx o.dst tm ds (opsN E ih fx all r)) l
    | none => match opS E ih fx all o st with
      | .error e => .error e
      | .ok st => opsN E ih fx all r st

abbrev NR := Ex (List (Out × St))
def normalN : Ex (List St) → NR
  | .error e => .error e
  | .ok l => .ok (l.map fun st => (.normal,st))
def thenN (k : St → NR) : Out × St → NR
  | (o,st) => match o with
    | .normal => k st
    | o => .ok [(o,st)]
def outN (i : Nat) : Out × St → Out × St
  | (o,st) => match o with
    | .exit j => bif Nat.beq j i then (.normal,st) else (.exit j,st)
    | o => (o,st)
def blockN (i : Nat) : NR → NR
  | .error e => .error e
  | .ok l => .ok (l.map (outN i))
def bindN (r : NR) (k : St → NR) : NR := match r with
  | .error e => .error e
  | .ok l => mapN (thenN k) l
def loopN (f : St → NR) : Nat → St → NR
  | 0,_ => .error "many  fuel"
  | n + 1,st => bindN (f st) (loopN f n)
def oneN (r : RS) : NR := match r with
  | .error e => .error e
  | .ok p => .ok [p]

def codeN : Code → Env → K → Fx → St → NR
  | .region id ops d => fun E ih fx st => match d with
    | false => normalN (opsN E ih fx ops ops.toList st)
    | true => oneN (codeS (.region id ops true) E ih fx st)
  | .seq a b => fun E ih fx st => bindN (codeN a E ih fx st) (codeN b E ih fx)
  | .cond c a b => fun E ih fx st => match evT E.G st.tm c with
    | some (.bool t) => match t with
      | true => codeN a E ih fx st
      | false => codeN b E ih fx st
    | _ => .error "many  cond"
  | .block i b => fun E ih fx st => blockN i (codeN b E ih fx st)
  | .loop b => fun E ih fx st => loopN (codeN b E ih fx) 1000 st
  | .scope b => fun E ih fx st => codeN b E ih fx st
  | .skip => fun E ih fx st => oneN (codeS .skip E ih fx st)
  | .rangeFunc f ps a b => fun E ih fx st => oneN (codeS (.rangeFunc f ps a b) E ih fx st)
  | .exit i => fun E ih fx st => oneN (codeS (.exit i) E ih fx st)
  | .label i => fun E ih fx st => oneN (codeS (.label i) E ih fx st)
  | .goto i => fun E ih fx st => oneN (codeS (.goto i) E ih fx st)
  | .ret => fun E ih fx st => oneN (codeS .ret E ih fx st)
  | .refuse s => fun E ih fx st => oneN (codeS (.refuse s) E ih fx st)

def leaveN (E : Env) (ih : K) (fd : Func) : Out × St → Ex (List (Value × SHeap))
  | (o,st) => match o with
    | .exit _ => .error "exit  no such block"
    | _ => match leaveS E ih fd st with
      | .error e => .error e
      | .ok p => .ok [p]

def enterN (E : Env) (ih : K) (f : FuncId) (args : Array Value) (h : SHeap) : Ex (List (Value × SHeap)) :=
  match E.F f with
  | some fd => match fd.body with
    | some c => match codeN c E ih ⟨f,max fd.ntmps args.size,.normal,none⟩ ⟨Tr.ofL 33 args.toList,h,[]⟩ with
      | .error e => .error e
      | .ok l => mapN (leaveN E ih fd) l
    | none => .error "enter  body"
  | none => .error "enter"

def allChk (m : Memo) : List (Value × SHeap) → Bool
  | [] => true
  | p :: r => memoChk m (.ok p) && allChk m r
/-- the memo is right,whatever the order -/
def memoRunN (E : Env) (ih : K) (m : Memo) : Bool := match enterN E ih m.f m.args.toArray (memoHeap m) with
  | .ok l => allChk m l
  | .error _ => false

end Go.Sim

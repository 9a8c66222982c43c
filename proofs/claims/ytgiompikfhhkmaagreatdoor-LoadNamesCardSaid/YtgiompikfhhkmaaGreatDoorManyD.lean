/- The simulator where a walk over a map can take its steps in more than one way: all outcomes. Definitions. -/
import Derived.Test.YtgiompikfhhkmaaGreatDoorMemoD
set_option linter.unusedVariables false
set_option linter.unusedSimpArgs false
namespace Go.Sim

/-- all outcomes of each,one behind the other -/
def mapN {α β : Type} (f : α → Ex (List β)) : List α → Ex (List β)
  | [] => .ok []
  | a :: r => match f a with
    | .error e => .error e
    | .ok l => match mapN f r with
      | .error e => .error e
      | .ok m => .ok (l ++ m)

def stepN (fx : Fx) (dst : Option Tmp) (tm : Tr Value) (ds : List Deferred) (k : St → Ex (List St)) : Value × SHeap → Ex (List St)
  | (v,⟨t,next⟩) => (putT tm fx.nt dst v).force fun tm => t.force fun t => k ⟨tm,⟨t,next⟩,ds⟩

def isNext (o : Oper) : Option Operand := match o with
  | ⟨_,op,_,_,_,g⟩ => match op with
    | .next x b => match b with
      | false => match g with
        | none => some x
        | some _ => none
      | true => none
    | _ => none

def opsN (E : Env) (ih : K) (fx : Fx) (all : Array Oper) : List Oper → St → Ex (List St)
  | [],st => .ok [st]
  | o :: r,st => match isNext o with
    | some x => match st with
      | ⟨tm,h,ds⟩ => match nextsS (evT E.G tm x) h with
        | .error e => .error e
        | .ok l => mapN (stepN fx o.dst tm ds (opsN E ih fx all r)) l
    | none => match opS E ih fx all o st with
      | .error e => .error e
      | .ok st => opsN E ih fx all r st

/-- how a piece of code comes out: as in the simulator,or by a jump to a label -/
inductive OutN where
  | out (o : Out)
  | goto (l : Nat)

abbrev NR := Ex (List (OutN × St))
def normalN : Ex (List St) → NR
  | .error e => .error e
  | .ok l => .ok (l.map fun st => (.out .normal,st))
def thenN (k : St → NR) : OutN × St → NR
  | (o,st) => match o with
    | .out .normal => k st
    | o => .ok [(o,st)]
def outN (i : Nat) : OutN × St → OutN × St
  | (o,st) => match o with
    | .out (.exit j) => bif Nat.beq j i then (.out .normal,st) else (.out (.exit j),st)
    | o => (o,st)
def blockN (i : Nat) : NR → NR
  | .error e => .error e
  | .ok l => .ok (l.map (outN i))
def bindN (k : OutN × St → NR) (r : NR) : NR := match r with
  | .error e => .error e
  | .ok l => mapN k l
def loopN (f : St → NR) : Nat → St → NR
  | 0,_ => .error "many  fuel"
  | n + 1,st => bindN (thenN (loopN f n)) (f st)
def oneN (r : RS) : NR := match r with
  | .error e => .error e
  | .ok (o,st) => .ok [(.out o,st)]
/-- a scope: jumps to its labels are followed -/
def scopeN (run : Code → St → NR) (body : Code) : Nat → OutN × St → NR
  | 0,_ => .error "many  fuel"
  | n + 1,(o,st) => match o with
    | .goto l => match findLabel body l with
      | some rest => bindN (scopeN run body n) (run rest st)
      | none => .ok [(.goto l,st)]
    | o => .ok [(o,st)]

def codeN (E : Env) (ih : K) (fx : Fx) : Nat → Code → St → NR
  | 0,_,_ => .error "many  fuel"
  | n + 1,c,st => match c with
    | .region id ops d => match d with
      | false => normalN (opsN E ih fx ops ops.toList st)
      | true => oneN (codeS (.region id ops true) E ih fx st)
    | .seq a b => bindN (thenN (codeN E ih fx n b)) (codeN E ih fx n a st)
    | .cond c a b => match evT E.G st.tm c with
      | some (.bool t) => match t with
        | true => codeN E ih fx n a st
        | false => codeN E ih fx n b st
      | _ => .error "many  cond"
    | .block i b => blockN i (codeN E ih fx n b st)
    | .loop b => loopN (codeN E ih fx n b) 1000 st
    | .scope b => bindN (scopeN (codeN E ih fx n) b 1000) (codeN E ih fx n b st)
    | .goto l => .ok [(.goto l,st)]
    | .skip => oneN (codeS .skip E ih fx st)
    | .rangeFunc f ps a b => oneN (codeS (.rangeFunc f ps a b) E ih fx st)
    | .exit i => oneN (codeS (.exit i) E ih fx st)
    | .label i => oneN (codeS (.label i) E ih fx st)
    | .ret => oneN (codeS .ret E ih fx st)
    | .refuse s => oneN (codeS (.refuse s) E ih fx st)

def leaveN (E : Env) (ih : K) (fd : Func) : OutN × St → Ex (List (Value × SHeap))
  | (o,st) => match o with
    | .goto _ => .error "goto  no such label"
    | .out (.exit _) => .error "exit  no such block"
    | _ => match leaveS E ih fd st with
      | .error e => .error e
      | .ok p => .ok [p]

def enterN (E : Env) (ih : K) (f : FuncId) (args : Array Value) (h : SHeap) : Ex (List (Value × SHeap)) :=
  match E.F f with
  | some fd => match fd.body with
    | some c => match codeN E ih ⟨f,max fd.ntmps args.size,.normal,none⟩ 1000 c ⟨Tr.ofL 33 args.toList,h,[]⟩ with
      | .error e => .error e
      | .ok l => mapN (leaveN E ih fd) l
    | none => .error "enter  body"
  | none => .error "enter"

def allChk (m : Memo) : List (Value × SHeap) → Bool
  | [] => true
  | p :: r => memoChk m (.ok p) && allChk m r
/-- the memo is right,whatever the order -/
def memoRunN (E : Env) (ih : K) (m : Memo) : Bool := match enterN E ih m.f m.args.toArray (memoHeap m) with
  | .ok l => allChk m l
  | .error _ => false

end Go.Sim

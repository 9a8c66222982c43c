/- What the memos are: definitions. -/
import Derived.Test.YtgiompikfhhkmaaGreatDoorSim
set_option linter.unusedVariables false
set_option linter.unusedSimpArgs false
namespace Go.Sim

inductive MObj where
  | cells (l : List Value) (elem : TypeId) (opn ro : Bool)
  | map (es : List MapEntry) (clock : Nat)

def MObj.obj : MObj → SObj
  | .cells l e o r => .cells (Tr.ofL 33 l) l.length e o r
  | .map es c => .map es.toArray c

def entEq : List MapEntry → List MapEntry → Bool
  | [],[] => true
  | ⟨a,b,c⟩ :: r,⟨a',b',c'⟩ :: r' => valEq 12 a a' && valEq 12 b b' && Nat.beq c c' && entEq r r'
  | _,_ => false

def boolEq : Bool → Bool → Bool
  | true,true => true
  | false,false => true
  | _,_ => false

/-- lists of values,element by element (each is as deep as it may be) -/
def vlEq : List Value → List Value → Bool
  | [],[] => true
  | a :: r,b :: s => valEq 12 a b && vlEq r s
  | _,_ => false

/-- the same,where aggregates may be long -/
def vEq (a b : Value) : Bool := match a,b with
  | .agg x,.agg y => vlEq x.toList y.toList
  | a,b => valEq 12 a b
def alEq : List Value → List Value → Bool
  | [],[] => true
  | a :: r,b :: s => vEq a b && alEq r s
  | _,_ => false
def wEq (a b : Value) : Bool := match a,b with
  | .tuple x,.tuple y => alEq x.toList y.toList
  | a,b => vEq a b

/-- all cells of a row -/
def cellsAll (c : Tr Value) (n : Nat) : Option (List Value) := match c.toL 32 n with
  | some l => some l
  | none => c.toListFrom 0 n

def matches' : SObj → MObj → Bool
  | .cells c n e o r,.cells l e' o' r' => Nat.beq n l.length && Nat.beq e e' && boolEq o o' && boolEq r r' && Nat.ble n lim && match cellsAll c n with
    | some l2 => vlEq l2 l
    | none => false
  | .map es k,.map es' k' => Nat.beq k k' && entEq es.toList es'
  | _,_ => false

def putAll (t : Tr SObj) : List (Nat × MObj) → Tr SObj
  | [] => t
  | (b,o) :: r => (putAll t r).force fun t => t.put b (some o.obj)
def dropAll (t : Tr SObj) : List (Nat × MObj) → Tr SObj
  | [] => t
  | (b,_) :: r => (dropAll t r).force fun t => t.put b none

structure Memo where
  f : Nat
  args : List Value
  next : Nat
  pre : List (Nat × MObj)
  v : Value
  post : List (Nat × MObj)
  next' : Nat

def allIn (t : Tr SObj) : List (Nat × MObj) → Bool
  | [] => true
  | (b,m) :: r => (match t.get b with
    | some o => matches' o m
    | none => false) && allIn t r

def hasN (b : Nat) : List (Nat × MObj) → Bool
  | [] => false
  | (c,_) :: r => bif Nat.beq b c then true else hasN b r
/-- new names,or names of before -/
def namesOK (pre : List (Nat × MObj)) (next : Nat) : List (Nat × MObj) → Bool
  | [] => true
  | (b,_) :: r => (Nat.ble next b || hasN b pre) && namesOK pre next r
def memoHeap (m : Memo) : SHeap := ⟨putAll .nil m.pre,m.next⟩
def memoChk (m : Memo) : Ex (Value × SHeap) → Bool
  | .ok (v,h) => wEq v m.v && Nat.beq h.next m.next' && allIn h.t m.post && namesOK m.pre m.next m.post
  | .error _ => false
/-- the memo is right -/
def memoRun (ih : K) (m : Memo) : Bool := memoChk m (ih (.call m.f m.args.toArray .normal) (memoHeap m))

def memoO (m : Memo) (args : List Value) (h : SHeap) : Ex (Value × SHeap) :=
  bif Nat.beq h.next m.next && alEq args m.args && allIn h.t m.pre then .ok (m.v,⟨putAll (dropAll h.t m.pre) m.post,m.next'⟩) else .error "memo"

def pureO (args : List Value) (v : Value) (as : List Value) (h : SHeap) : Ex (Value × SHeap) :=
  bif alEq as args then .ok (v,h) else .error "memo"
def pureRun (ih : K) (G f : Nat) (args : List Value) (v : Value) : Bool := match ih (.call f args.toArray .normal) ⟨.nil,G⟩ with
  | .ok (u,_) => wEq u v && plainV 3 v && args.all (plainV 3)
  | .error _ => false

def topL : List Value := (List.range 3600).map fun k => .int .i64 (bif Nat.beq (k / 60) (k % 60) then 0 else 2305843009213693952)
def allI64 : List Value → Bool
  | [] => true
  | v :: r => match v with
    | .int k _ => match k with
      | .i64 => allI64 r
      | _ => false
    | _ => false
def leAll2 : List Value → List Value → Bool
  | [],_ => true
  | a :: r,l => match l with
    | [] => false
    | b :: s => match a with
      | .int _ x => match b with
        | .int _ y => bif decide (x ≤ y) then leAll2 r s else false
        | _ => false
      | _ => false
def withinA (h : SHeap) (x y : Option (List Value)) : Ex (Value × SHeap) := match x with
  | some (.bool e :: l) => match y with
    | some (.bool e' :: l') => bif allI64 l && allI64 l' then .ok (.bool (bif e then true else bif e' then false else leAll2 l l'),h) else .error "within  cells"
    | _ => .error "within  cells"
  | _ => .error "within  cells"
def withinB (h : SHeap) (x y : Option SObj) : Ex (Value × SHeap) := match x with
  | some (.cells c n _ _ _) => match y with
    | some (.cells c' n' _ _ _) => bif Nat.beq n 3601 && Nat.beq n' 3601 && Nat.ble h.next lim then withinA h (c.toL 32 3601) (c'.toL 32 3601) else .error "within  sizes"
    | _ => .error "within  block"
  | _ => .error "within  block"
def withinQ (args : List Value) (h : SHeap) : Ex (Value × SHeap) := match args with
  | [.pointer (some ⟨b,0,none⟩),.pointer (some ⟨d,0,none⟩)] => withinB h (h.t.get b) (h.t.get d)
  | _ => .error "within  args"

def isNone61 : Int → Bool
  | .ofNat m => Nat.beq m 2305843009213693952
  | .negSucc _ => false
def consOne (k : Nat) (v : Value) : List Value := match v with
  | .int .i64 x => bif Nat.beq (k / 60) (k % 60) then [] else bif isNone61 x then [] else [.int .i64 (.ofNat (k / 60)),.int .i64 (.ofNat (k % 60)),.int .i64 x]
  | _ => []
def consL : Nat → List Value → List Value
  | _,[] => []
  | k,v :: r => consOne k v ++ forceN (k + 1) fun k => consL k r

def consC (h : SHeap) (out : List Value) (cnt : Nat) : Ex (Value × SHeap) := match out with
  | [] => .ok (.slice none 0 0,h)
  | _ :: _ => .ok (.slice (some ⟨h.next + 2 * cnt - 1,0,none⟩) cnt cnt,⟨h.t.put (h.next + 2 * cnt - 1) (some (.cells (Tr.ofL 33 out) (cnt * 3) 151 true false)),h.next + 2 * cnt⟩)
def consA (h : SHeap) (x : Option (List Value)) : Ex (Value × SHeap) := match x with
  | some (_ :: l) => bif allI64 l then consC h (consL 0 l) ((consL 0 l).length / 3) else .error "cons  cells"
  | _ => .error "cons  cells"
def consB (h : SHeap) (b : Nat) (x : Option SObj) : Ex (Value × SHeap) := match x with
  | some (.cells c n _ _ _) => bif Nat.beq n 3601 && Nat.ble (h.next + 8000) lim && Nat.blt b h.next then consA h (c.toL 32 3601) else .error "cons  sizes"
  | _ => .error "cons  block"
def consQ (args : List Value) (h : SHeap) : Ex (Value × SHeap) := match args with
  | [.pointer (some ⟨b,0,none⟩)] => consB h b (h.t.get b)
  | _ => .error "cons  args"


/-- the sum of two bounds -/
def sumI (a b : Int) : Int := bif (a == 2305843009213693952) || (b == 2305843009213693952) then 2305843009213693952 else
  bif decide (wrapF .i64 (a + b) > 1152921504606846976) then 2305843009213693952 else bif decide (wrapF .i64 (a + b) < -1152921504606846976) then -1152921504606846976 else wrapF .i64 (a + b)
def sumQ (args : List Value) (h : SHeap) : Ex (Value × SHeap) := match args with
  | [.int .i64 a,.int .i64 b] => .ok (.int .i64 (sumI a b),h)
  | _ => .error "sum  args"

/-! ## short ways to write values -/
def rp (v : Value) (l : List Value) (n : Nat) : List Value := match n with
  | 0 => l
  | n + 1 => v :: rp v l n
def rl : List (Nat × Value) → List Value
  | [] => []
  | (n,v) :: r => rp v (rl r) n
def sB (l : List Nat) : Value := .string ⟨(l.map UInt8.ofNat).toArray⟩
def pt (b o : Nat) : Value := .pointer (some ⟨b,o,none⟩)
def sl (b o l c : Nat) : Value := .slice (some ⟨b,o,none⟩) l c
def iV (n : Int) : Value := .int .i64 n
def bV (n : Nat) : Value := .int .u8 (.ofNat n)

/-- the memo of a function's calls by the next name -/
def memoTab (ms : List Memo) (args : List Value) (h : SHeap) : Ex (Value × SHeap) := match ms with
  | [] => .error "memo  none"
  | m :: r => bif Nat.beq h.next m.next then memoO m args h else memoTab r args h

end Go.Sim

/- What the memos are: definitions. The simulator where a walk over a map can take its steps in more than one way: all outcomes. Definitions. Calls that have been worked out stand for calls with other names: definitions. All outcomes of a walk, checked path by path: definitions. -/
import Derived.Test.YtgdkljcnebaiiaaGreatSim
set_option linter.unusedVariables false
set_option linter.unusedSimpArgs false
namespace Go.Sim

/-! ## tables of 60 times 60 numbers behind a truth value,most of them none -/
def dfV (i : Nat) : Value := match i with
 | 0 => .bool false
 | k + 1 => bif Nat.beq (k % 61) 0 then .int .i64 0 else .int .i64 2305843009213693952
def dfB : Nat → Bool → Nat → Nat → Tr Value
 | 0,_,_,_ => .nil
 | f + 1,c,i,s => bif Nat.blt (bif c then i else i + s) 3601 then .node (dfB f true (i + s) (2 * s)) (some (dfV i)) (dfB f false i (2 * s)) else .nil
def xkQ : Tr Value := dfB 33 true 0 1
def zhk : List (Nat × Int) → Tr Value
 | [] => xkQ
 | p :: r => (zhk r).force fun t => bif Nat.blt p.1 3601 then t.put p.1 (some (.int .i64 p.2)) else t

inductive MObj where
 | cells (l : List Value) (elem : TypeId) (opn ro : Bool)
 | map (es : List MapEntry) (clock : Nat)
 | zone (zt : TypeId) (es : List (Nat × Int))

def MObj.obj : MObj → SObj
 | .cells l e o r => .cells (Tr.ofL 33 l) l.length e o r
 | .map es c => .map es.toArray c
 | .zone zt es => .cells (zhk es) 3601 zt false false

def zlR : List MapEntry → List MapEntry → Bool
 | [],[] => true
 | ⟨a,b,c⟩ :: r,⟨a',b',c'⟩ :: r' => zdr 12 a a' && zdr 12 b b' && Nat.beq c c' && zlR r r'
 | _,_ => false

def zdx : Bool → Bool → Bool
 | true,true => true
 | false,false => true
 | _,_ => false

def zmy : List Value → List Value → Bool
 | [],[] => true
 | a :: r,b :: s => zdr 12 a b && zmy r s
 | _,_ => false

def vEq (a b : Value) : Bool := match a,b with
 | .agg x,.agg y => zmy x.toList y.toList
 | a,b => zdr 12 a b
def zkw : List Value → List Value → Bool
 | [],[] => true
 | a :: r,b :: s => vEq a b && zkw r s
 | _,_ => false
def wEq (a b : Value) : Bool := match a,b with
 | .tuple x,.tuple y => zkw x.toList y.toList
 | a,b => vEq a b

def zje (c : Tr Value) (n : Nat) : Option (List Value) := match c.toL 32 n with
 | some l => some l
 | none => c.toListFrom 0 n

def zvs : Option Value → Option Value → Bool
 | some (.int k a),some (.int l b) => bif decide (k = l) then decide (a = b) else false
 | some (.bool a),some (.bool b) => zdx a b
 | none,none => true
 | _,_ => false
def zfc : Bool → Tr Value → Tr Value → Bool
 | _,.nil,.nil => true
 | c,.node l v r,.node l' v' r' => (bif c then zvs v v' else true) && (zfc true l l' && zfc false r r')
 | _,_,_ => false
def zbA : SObj → MObj → Bool
 | .cells c n e o r,.cells l e' o' r' => Nat.beq n l.length && Nat.beq e e' && zdx o o' && zdx r r' && Nat.ble n lim && match zje c n with
  | some l2 => zmy l2 l
  | none => false
 | .map es k,.map es' k' => Nat.beq k k' && zlR es.toList es'
 | .cells c n e o r,.zone zt es => Nat.beq n 3601 && Nat.beq e zt && zdx o false && zdx r false && zfc true c (zhk es)
 | _,_ => false

def znx (t : Tr SObj) : List (Nat × MObj) → Tr SObj
 | [] => t
 | (b,o) :: r => (znx t r).force fun t => t.put b (some o.obj)
structure Memo where
 f : Nat
 args : List Value
 next : Nat
 pre : List (Nat × MObj)
 v : Value
 post : List (Nat × MObj)
 next' : Nat

def zql (t : Tr SObj) : List (Nat × MObj) → Bool
 | [] => true
 | (b,m) :: r => (match t.get b with
  | some o => zbA o m
  | none => false) && zql t r

def zHs (b : Nat) : List (Nat × MObj) → Bool
 | [] => false
 | (c,_) :: r => bif Nat.beq b c then true else zHs b r
def ztT (pre : List (Nat × MObj)) (next : Nat) : List (Nat × MObj) → Bool
 | [] => true
 | (b,_) :: r => (Nat.ble next b || zHs b pre) && ztT pre next r
def zcW (m : Memo) : SHeap := ⟨znx .nil m.pre,m.next⟩
def zdX (m : Memo) : Ex (Value × SHeap) → Bool
 | .ok (v,h) => wEq v m.v && Nat.ble h.next m.next' && zql h.t m.post && ztT m.pre m.next m.post
 | .error _ => false
def ziH (ih : K) (m : Memo) : Bool := zdX m (ih (.call m.f m.args.toArray .normal) (zcW m))

def zqj (args : List Value) (v : Value) (as : List Value) (h : SHeap) : Ex (Value × SHeap) :=
 bif zkw as args then .ok (v,h) else .error "memo"
def zoC (ih : K) (G f : Nat) (args : List Value) (v : Value) : Bool := match ih (.call f args.toArray .normal) ⟨.nil,G⟩ with
 | .ok (u,_) => wEq u v && zaO 3 v && args.all (zaO 3)
 | .error _ => false

def topL : List Value := (List.range 3600).map fun k => .int .i64 (bif Nat.beq (k / 60) (k % 60) then 0 else 2305843009213693952)
def zbg : List Value → Bool
 | [] => true
 | v :: r => match v with
  | .int k _ => match k with
   | .i64 => zbg r
   | _ => false
  | _ => false
def zcc : List Value → List Value → Bool
 | [],_ => true
 | a :: r,l => match l with
  | [] => false
  | b :: s => match a with
   | .int _ x => match b with
    | .int _ y => bif decide (x ≤ y) then zcc r s else false
    | _ => false
   | _ => false
def ztr (h : SHeap) (x y : Option (List Value)) : Ex (Value × SHeap) := match x with
 | some (.bool e :: l) => match y with
  | some (.bool e' :: l') => bif zbg l && zbg l' then .ok (.bool (bif e then true else bif e' then false else zcc l l'),h) else .error "within  cells"
  | _ => .error "within  cells"
 | _ => .error "within  cells"
def ztJ (h : SHeap) (x y : Option SObj) : Ex (Value × SHeap) := match x with
 | some (.cells c n _ _ _) => match y with
  | some (.cells c' n' _ _ _) => bif Nat.beq n 3601 && Nat.beq n' 3601 && Nat.ble h.next lim then ztr h (c.toL 32 3601) (c'.toL 32 3601) else .error "within  sizes"
  | _ => .error "within  block"
 | _ => .error "within  block"
def withinQ (args : List Value) (h : SHeap) : Ex (Value × SHeap) := match args with
 | [.pointer (some ⟨b,0,none⟩),.pointer (some ⟨d,0,none⟩)] => ztJ h (h.t.get b) (h.t.get d)
 | _ => .error "within  args"

def zcd : Int → Bool
 | .ofNat m => Nat.beq m 2305843009213693952
 | .negSucc _ => false
def zfX (k : Nat) (v : Value) : List Value := match v with
 | .int .i64 x => bif Nat.beq (k / 60) (k % 60) then [] else bif zcd x then [] else [.int .i64 (.ofNat (k / 60)),.int .i64 (.ofNat (k % 60)),.int .i64 x]
 | _ => []
def zda : Nat → List Value → List Value
 | _,[] => []
 | k,v :: r => zfX k v ++ zcQ (k + 1) fun k => zda k r

def zqh (h : SHeap) (out : List Value) (cnt : Nat) : Ex (Value × SHeap) := match out with
 | [] => .ok (.slice none 0 0,h)
 | _ :: _ => .ok (.slice (some ⟨h.next + 2 * cnt - 1,0,none⟩) cnt cnt,⟨h.t.put (h.next + 2 * cnt - 1) (some (.cells (Tr.ofL 33 out) (cnt * 3) 216 true false)),h.next + 2 * cnt⟩)
def zuS (h : SHeap) (x : Option (List Value)) : Ex (Value × SHeap) := match x with
 | some (_ :: l) => bif zbg l then zqh h (zda 0 l) ((zda 0 l).length / 3) else .error "cons  cells"
 | _ => .error "cons  cells"
def zul (h : SHeap) (b : Nat) (x : Option SObj) : Ex (Value × SHeap) := match x with
 | some (.cells c n _ _ _) => bif Nat.beq n 3601 && Nat.ble (h.next + 8000) lim && Nat.blt b h.next then zuS h (c.toL 32 3601) else .error "cons  sizes"
 | _ => .error "cons  block"
def consQ (args : List Value) (h : SHeap) : Ex (Value × SHeap) := match args with
 | [.pointer (some ⟨b,0,none⟩)] => zul h b (h.t.get b)
 | _ => .error "cons  args"


def zaL (a b : Int) : Int := bif (a == 2305843009213693952) || (b == 2305843009213693952) then 2305843009213693952 else
 bif decide (zbh .i64 (a + b) > 1152921504606846976) then 2305843009213693952 else bif decide (zbh .i64 (a + b) < -1152921504606846976) then -1152921504606846976 else zbh .i64 (a + b)
def sumQ (args : List Value) (h : SHeap) : Ex (Value × SHeap) := match args with
 | [.int .i64 a,.int .i64 b] => .ok (.int .i64 (zaL a b),h)
 | _ => .error "sum  args"

/-! ## short ways to write values -/
def rp (v : Value) (l : List Value) (n : Nat) : List Value := match n with
 | 0 => l
 | n + 1 => v :: rp v l n
def rl : List (Nat × Value) → List Value
 | [] => []
 | (n,v) :: r => rp v (rl r) n
def sl (b o l c : Nat) : Value := .slice (some ⟨b,o,none⟩) l c
end Go.Sim

namespace Go.Sim

def ziq {α β : Type} (f : α → Ex (List β)) : List α → Ex (List β)
 | [] => .ok []
 | a :: r => match f a with
  | .error e => .error e
  | .ok l => match ziq f r with
   | .error e => .error e
   | .ok m => .ok (l ++ m)

def znY (fx : Fx) (dst : Option Tmp) (tm : Tr Value) (ds : List Deferred) (k : St → Ex (List St)) : Value × SHeap → Ex (List St)
 | (v,⟨t,next⟩) => (zce tm fx.nt dst v).force fun tm => t.force fun t => k ⟨tm,⟨t,next⟩,ds⟩

def zle (o : Oper) : Option Operand := match o with
 | ⟨_,op,_,_,_,g⟩ => match op with
  | .next x b => match b with
   | false => match g with
    | none => some x
    | some _ => none
   | true => none
  | _ => none

def zhw (E : Env) (ih : K) (fx : Fx) (all : Array Oper) : List Oper → St → Ex (List St)
 | [],st => .ok [st]
 | o :: r,st => match zle o with
  | some x => match st with
   | ⟨tm,h,ds⟩ => match ziI (evT E.G tm x) h with
    | .error e => .error e
    | .ok l => ziq (znY fx o.dst tm ds (zhw E ih fx all r)) l
  | none => match opS E ih fx all o st with
   | .error e => .error e
   | .ok st => zhw E ih fx all r st

inductive OutN where
 | out (o : Out)
 | goto (l : Nat)

abbrev NR := Ex (List (OutN × St))
def zoG : Ex (List St) → NR
 | .error e => .error e
 | .ok l => .ok (l.map fun st => (.out .normal,st))
def zqm (k : St → NR) : OutN × St → NR
 | (o,st) => match o with
  | .out .normal => k st
  | o => .ok [(o,st)]
def zkC (i : Nat) : OutN × St → OutN × St
 | (o,st) => match o with
  | .out (.exit j) => bif Nat.beq j i then (.out .normal,st) else (.out (.exit j),st)
  | o => (o,st)
def zrT (i : Nat) : NR → NR
 | .error e => .error e
 | .ok l => .ok (l.map (zkC i))
def zjv (k : OutN × St → NR) (r : NR) : NR := match r with
 | .error e => .error e
 | .ok l => ziq k l
def zlG (f : St → NR) : Nat → St → NR
 | 0,_ => .error "many  fuel"
 | n + 1,st => zjv (zqm (zlG f n)) (f st)
def ziw (r : RS) : NR := match r with
 | .error e => .error e
 | .ok (o,st) => .ok [(.out o,st)]
def ziW (run : Code → St → NR) (body : Code) : Nat → OutN × St → NR
 | 0,_ => .error "many  fuel"
 | n + 1,(o,st) => match o with
  | .goto l => match findLabel body l with
   | some rest => zjv (ziW run body n) (run rest st)
   | none => .ok [(.goto l,st)]
  | o => .ok [(o,st)]

def zcR (E : Env) (ih : K) (fx : Fx) : Nat → Code → St → NR
 | 0,_,_ => .error "many  fuel"
 | n + 1,c,st => match c with
  | .region id ops d => match d with
   | false => zoG (zhw E ih fx ops ops.toList st)
   | true => ziw (zad (.region id ops true) E ih fx st)
  | .seq a b => zjv (zqm (zcR E ih fx n b)) (zcR E ih fx n a st)
  | .cond c a b => match evT E.G st.tm c with
   | some (.bool t) => match t with
    | true => zcR E ih fx n a st
    | false => zcR E ih fx n b st
   | _ => .error "many  cond"
  | .block i b => zrT i (zcR E ih fx n b st)
  | .loop b => zlG (zcR E ih fx n b) 1000 st
  | .scope b => zjv (ziW (zcR E ih fx n) b 1000) (zcR E ih fx n b st)
  | .goto l => .ok [(.goto l,st)]
  | .skip => ziw (zad .skip E ih fx st)
  | .rangeFunc f ps a b => ziw (zad (.rangeFunc f ps a b) E ih fx st)
  | .exit i => ziw (zad (.exit i) E ih fx st)
  | .label i => ziw (zad (.label i) E ih fx st)
  | .ret => ziw (zad .ret E ih fx st)
  | .refuse s => ziw (zad (.refuse s) E ih fx st)

def zkp (E : Env) (ih : K) (fd : Func) : OutN × St → Ex (List (Value × SHeap))
 | (o,st) => match o with
  | .goto _ => .error "goto  no such label"
  | .out (.exit _) => .error "exit  no such block"
  | _ => match zeO E ih fd st with
   | .error e => .error e
   | .ok p => .ok [p]

def znd (E : Env) (ih : K) (f : FuncId) (args : Array Value) (h : SHeap) : Ex (List (Value × SHeap)) :=
 match E.F f with
 | some fd => match fd.body with
  | some c => match zcR E ih ⟨f,max fd.ntmps args.size,.normal,none⟩ 1000 c ⟨Tr.ofL 33 args.toList,h,[]⟩ with
   | .error e => .error e
   | .ok l => ziq (zkp E ih fd) l
  | none => .error "enter  body"
 | none => .error "enter"

def ziz (m : Memo) : List (Value × SHeap) → Bool
 | [] => true
 | p :: r => zdX m (.ok p) && ziz m r
def zhP (E : Env) (ih : K) (m : Memo) : Bool := match znd E ih m.f m.args.toArray (zcW m) with
 | .ok l => ziz m l
 | .error _ => false

end Go.Sim

namespace Go.Sim

abbrev Sub := List (Nat × Nat)
def zcH : Sub → Nat → Option Nat
 | [],_ => none
 | p :: r,b => bif Nat.beq p.1 b then some p.2 else zcH r b
def zkT : Sub → Nat → Bool
 | [],_ => false
 | p :: r,c => bif Nat.beq p.2 c then true else zkT r c
def zkS (G N b c : Nat) (s : Sub) : Option Sub :=
 bif Nat.blt b G then (bif Nat.beq b c then some s else none) else
 bif Nat.blt b N then (match zcH s b with
  | some d => bif Nat.beq d c then some s else none
  | none => bif Nat.blt c G || zkT s c then none else some ((b,c) :: s))
 else none
def zdT (G : Nat) (s : Sub) (b : Nat) : Option Nat := bif Nat.blt b G then some b else zcH s b

def zer (f : Value → Value → Sub → Option Sub) : List Value → List Value → Sub → Option Sub
 | [],[],s => some s
 | a :: r,b :: t,s => match f a b s with
  | some s => zer f r t s
  | none => none
 | _,_,_ => none
def zfA (G N : Nat) : Nat → Value → Value → Sub → Option Sub
 | 0,_,_,_ => none
 | n + 1,v,w,s => match v,w with
  | .int k a,.int l b => bif decide (k = l) && decide (a = b) then some s else none
  | .bool a,.bool b => bif zdx a b then some s else none
  | .string a,.string b => if a.data.toList = b.data.toList then some s else none
  | .pointer none,.pointer none => some s
  | .pointer (some ⟨b,o,none⟩),.pointer (some ⟨c,q,none⟩) => bif Nat.beq o q then zkS G N b c s else none
  | .slice none l k,.slice none m j => bif Nat.beq l m && Nat.beq k j then some s else none
  | .slice (some ⟨b,o,none⟩) l k,.slice (some ⟨c,q,none⟩) m j => bif Nat.beq o q && Nat.beq l m && Nat.beq k j then zkS G N b c s else none
  | .map none,.map none => some s
  | .map (some b),.map (some c) => zkS G N b c s
  | .nilFunc,.nilFunc => some s
  | .nilIface,.nilIface => some s
  | .iface t a,.iface u b => bif Nat.beq t u then zfA G N n a b s else none
  | .agg a,.agg b => zer (zfA G N n) a.toList b.toList s
  | .tuple a,.tuple b => zer (zfA G N n) a.toList b.toList s
  | .func (.func f) a b,.func (.func g) c d => bif Nat.beq f g then (match zer (zfA G N n) a.toList c.toList s with
   | some s => zer (zfA G N n) b.toList d.toList s
   | none => none) else none
  | _,_ => none
def ziA (f : Value → Value → Sub → Option Sub) : List MapEntry → List MapEntry → Sub → Option Sub
 | [],[],s => some s
 | a :: r,b :: t,s => bif zdr 12 a.key b.key && Nat.beq a.born b.born then (match f a.val b.val s with
  | some s => ziA f r t s
  | none => none) else none
 | _,_,_ => none
def zqs (f : Value → Value → Sub → Option Sub) (m : MObj) (o : SObj) (s : Sub) : Option Sub := match m,o with
 | .cells l e op ro,.cells c n e' op' ro' => bif Nat.beq n l.length && Nat.beq e e' && zdx op op' && zdx ro ro' && Nat.ble n lim then (match zje c n with
  | some l2 => zer f l l2 s
  | none => none) else none
 | .map es k,.map es' k' => bif Nat.beq k k' then ziA f es es'.toList s else none
 | .zone zt es,.cells c n e o r => bif Nat.beq n 3601 && Nat.beq e zt && zdx o false && zdx r false && zfc true c (zhk es) then some s else none
 | _,_ => none
def ziZ (G : Nat) (f : Value → Value → Sub → Option Sub) (t : Tr SObj) : List (Nat × MObj) → Sub → Option Sub
 | [],s => some s
 | p :: r,s => match zdT G s p.1 with
  | some c => match t.get c with
   | some o => match zqs f p.2 o s with
    | some s => ziZ G f t r s
    | none => none
   | none => none
  | none => none

def zhf (G N next : Nat) (s : Sub) (b : Nat) : Option Nat := bif Nat.blt b G then some b else bif Nat.ble N b then some (b - N + next) else zcH s b
def zkx (f : Value → Option Value) : List Value → Option (List Value)
 | [] => some []
 | a :: r => match f a with
  | some a => match zkx f r with
   | some r => some (a :: r)
   | none => none
  | none => none
def zgU (nf : Nat → Option Nat) : Nat → Value → Option Value
 | 0,_ => none
 | n + 1,v => match v with
  | .int k a => some (.int k a)
  | .bool a => some (.bool a)
  | .string a => some (.string a)
  | .pointer none => some (.pointer none)
  | .pointer (some ⟨b,o,none⟩) => match nf b with
   | some c => some (.pointer (some ⟨c,o,none⟩))
   | none => none
  | .slice none l k => some (.slice none l k)
  | .slice (some ⟨b,o,none⟩) l k => match nf b with
   | some c => some (.slice (some ⟨c,o,none⟩) l k)
   | none => none
  | .map none => some (.map none)
  | .map (some b) => match nf b with
   | some c => some (.map (some c))
   | none => none
  | .nilFunc => some .nilFunc
  | .nilIface => some .nilIface
  | .iface t a => match zgU nf n a with
   | some a => some (.iface t a)
   | none => none
  | .agg a => match zkx (zgU nf n) a.toList with
   | some l => some (.agg l.toArray)
   | none => none
  | .tuple a => match zkx (zgU nf n) a.toList with
   | some l => some (.tuple l.toArray)
   | none => none
  | .func (.func f) a b => match zkx (zgU nf n) a.toList with
   | some l => match zkx (zgU nf n) b.toList with
    | some l2 => some (.func (.func f) l.toArray l2.toArray)
    | none => none
   | none => none
  | _ => none
def zvq (f : Value → Option Value) : List MapEntry → Option (List MapEntry)
 | [] => some []
 | a :: r => match f a.val with
  | some v => match zvq f r with
   | some r => some ({ key := a.key,val := v,born := a.born } :: r)
   | none => none
  | none => none
def zkv (f : Value → Option Value) : MObj → Option SObj
 | .cells l e op ro => match zkx f l with
  | some l => some (.cells (Tr.ofL 33 l) l.length e op ro)
  | none => none
 | .map es k => match zvq f es with
  | some es => some (.map es.toArray k)
  | none => none
 | .zone zt es => (zhk es).force fun t => some (.cells t 3601 zt false false)
def zua (nf : Nat → Option Nat) (f : Value → Option Value) (t : Tr SObj) : List (Nat × MObj) → Option (Tr SObj)
 | [] => some t
 | p :: r => match zua nf f t r with
  | some t => match nf p.1 with
   | some c => match zkv f p.2 with
    | some o => (t.put c (some o)).force fun t => some t
    | none => none
   | none => none
  | none => none
def zqn (G : Nat) (s : Sub) (t : Tr SObj) : List (Nat × MObj) → Tr SObj
 | [] => t
 | p :: r => (zqn G s t r).force fun t => match zdT G s p.1 with
  | some c => t.put c none
  | none => t
def zks (G : Nat) (m : Memo) (args : List Value) (h : SHeap) : Ex (Value × SHeap) := match zer (zfA G m.next 8) m.args args [] with
 | none => .error "memo  args"
 | some s => match ziZ G (zfA G m.next 8) h.t m.pre s with
  | none => .error "memo  blocks"
  | some s => match zgU (zhf G m.next h.next s) 8 m.v with
   | none => .error "memo  value"
   | some v => match zua (zhf G m.next h.next s) (zgU (zhf G m.next h.next s) 8) (zqn G s h.t m.pre) m.post with
    | none => .error "memo  put"
    | some t => .ok (v,⟨t,h.next + (m.next' - m.next)⟩)
end Go.Sim

namespace Go.Sim

def zro {α : Type} (f : α → Bool) : List α → Bool
 | [] => true
 | a :: r => bif f a then zro f r else false
def znt {α : Type} (B : Nat) (f : α → List Nat → Bool) (l : List α) (s : List Nat) : Bool := match s with
 | [] => zro (fun a => f a []) l
 | i :: s => match l with
  | [] => true
  | [a] => f a (i :: s)
  | a :: b :: r => bif Nat.ble (a :: b :: r).length B then (match (a :: b :: r)[i]? with
   | some p => f p s
   | none => true) else false
def zqg (fx : Fx) (dst : Option Tmp) (tm : Tr Value) (ds : List Deferred) (k : St → Bool) : Value × SHeap → Bool
 | (v,⟨t,next⟩) => (zce tm fx.nt dst v).force fun tm => t.force fun t => k ⟨tm,⟨t,next⟩,ds⟩
def zjU (E : Env) (ih : K) (fx : Fx) (all : Array Oper) (B : Nat) (k : St → List Nat → Bool) : List Oper → St → List Nat → Bool
 | [],st,s => k st s
 | o :: r,st,s => match zle o with
  | some x => match st with
   | ⟨tm,h,ds⟩ => match ziI (evT E.G tm x) h with
    | .error _ => false
    | .ok l => znt B (fun p s => zqg fx o.dst tm ds (fun st => zjU E ih fx all B k r st s) p) l s
  | none => match opS E ih fx all o st with
   | .error _ => false
   | .ok st => zjU E ih fx all B k r st s
abbrev CK' := OutN × St → List Nat → Bool
def zsk (k : CK') (s : List Nat) (r : RS) : Bool := match r with
 | .error _ => false
 | .ok (o,st) => k (.out o,st) s
def zvm (f : St → List Nat → Bool) (k : CK') : CK' := fun p s => match p with
 | (o,st) => match o with
  | .out .normal => f st s
  | o => k (o,st) s
def ztU (f : CK' → St → List Nat → Bool) (k : CK') : Nat → St → List Nat → Bool
 | 0,_,_ => false
 | n + 1,st,s => f (zvm (ztU f k n) k) st s
def zfr (E : Env) (ih : K) (fx : Fx) (B : Nat) : Nat → Code → CK' → St → List Nat → Bool
 | 0,_,_,_,_ => false
 | n + 1,c,k,st,s => match c with
  | .region id ops d => match d with
   | false => zjU E ih fx ops B (fun st s => k (.out .normal,st) s) ops.toList st s
   | true => zsk k s (zad (.region id ops true) E ih fx st)
  | .seq a b => zfr E ih fx B n a (zvm (zfr E ih fx B n b k) k) st s
  | .cond c a b => match evT E.G st.tm c with
   | some (.bool t) => match t with
    | true => zfr E ih fx B n a k st s
    | false => zfr E ih fx B n b k st s
   | _ => false
  | .block i b => zfr E ih fx B n b (fun p s => k (zkC i p) s) st s
  | .loop b => ztU (zfr E ih fx B n b) k 1000 st s
  | .skip => zsk k s (zad .skip E ih fx st)
  | .exit i => zsk k s (zad (.exit i) E ih fx st)
  | .ret => zsk k s (zad .ret E ih fx st)
  | _ => false
def zqA (E : Env) (ih : K) (fd : Func) (m : Memo) : CK' := fun p _ => match p with
 | (o,st) => match o with
  | .goto _ => false
  | .out (.exit _) => false
  | _ => match zeO E ih fd st with
   | .error _ => false
   | .ok q => zdX m (.ok q)
def zhz (E : Env) (ih : K) (B : Nat) (m : Memo) (s : List Nat) : Bool := match E.F m.f with
 | some fd => match fd.body with
  | some c => zfr E ih ⟨m.f,max fd.ntmps m.args.toArray.size,.normal,none⟩ B 1000 c (zqA E ih fd m) ⟨Tr.ofL 33 m.args.toArray.toList,zcW m,[]⟩ s
  | none => false
 | none => false

end Go.Sim

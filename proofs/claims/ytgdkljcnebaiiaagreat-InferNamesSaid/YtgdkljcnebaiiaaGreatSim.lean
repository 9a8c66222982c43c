/- A simulator of the model's machine over a heap of its own: definitions. -/
import GoSem.Step
set_option linter.unusedVariables false
set_option linter.unusedSimpArgs false
namespace Go.Sim

inductive Tr (α : Type) where
 | nil
 | node (l : Tr α) (v : Option α) (r : Tr α)
 deriving Inhabited

def Tr.get' {α : Type} : Tr α → List Bool → Option α
 | .nil,_ => none
 | .node _ v _,[] => v
 | .node l _ r,b :: p => bif b then Tr.get' l p else Tr.get' r p

def Tr.force {α β : Type} (t : Tr α) (k : Tr α → β) : β := match t with
 | .nil => k .nil
 | .node l v r => k (.node l v r)

def zcQ {β : Type} (n : Nat) (k : Nat → β) : β := match n with
 | 0 => k 0
 | m + 1 => k (m + 1)

def zdy {β : Type} (n : Int) (k : Int → β) : β := match n with
 | .ofNat m => zcQ m fun m => k (.ofNat m)
 | .negSucc m => zcQ m fun m => k (.negSucc m)

def zgO {β : Type} (v : Value) (k : Value → β) : β := match v with
 | .int kd n => zdy n fun n => k (.int kd n)
 | .bool b => match b with | true => k (.bool true) | false => k (.bool false)
 | .pointer a => match a with
  | none => k (.pointer none)
  | some ⟨b,o,s⟩ => zcQ b fun b => zcQ o fun o => k (.pointer (some ⟨b,o,s⟩))
 | .slice a l c => zcQ l fun l => zcQ c fun c => match a with
  | none => k (.slice none l c)
  | some ⟨b,o,s⟩ => zcQ b fun b => zcQ o fun o => k (.slice (some ⟨b,o,s⟩) l c)
 | v => k v

def Tr.put' {α : Type} (x : Option α) : List Bool → Tr α → Tr α
 | [],.nil => .node .nil x .nil
 | [],.node l _ r => .node l x r
 | b :: p,.nil => bif b then (Tr.put' x p .nil).force fun t => .node t none .nil else (Tr.put' x p .nil).force fun t => .node .nil none t
 | b :: p,.node l v r => bif b then (Tr.put' x p l).force fun t => .node t v r else (Tr.put' x p r).force fun t => .node l v t

def zcq : Nat → Nat → List Bool
 | 0,_ => []
 | _ + 1,0 => []
 | f + 1,n + 1 => Nat.beq ((n + 1) % 2) 1 :: zcq f ((n + 1) / 2)

def lim : Nat := 4294967296

def Tr.get {α : Type} (t : Tr α) (n : Nat) : Option α := bif Nat.blt n lim then t.get' (zcq 32 n) else none
def Tr.put {α : Type} (t : Tr α) (n : Nat) (x : Option α) : Tr α := bif Nat.blt n lim then t.put' x (zcq 32 n) else t

def Tr.toListFrom {α : Type} (t : Tr α) : Nat → Nat → Option (List α)
 | _,0 => some []
 | i,n + 1 => match t.get i with
  | none => none
  | some x => match zcQ (i + 1) fun i => Tr.toListFrom t i n with
   | none => none
   | some xs => some (x :: xs)

def split {α : Type} : List α → List α × List α
 | [] => ([],[])
 | [x] => ([x],[])
 | x :: y :: r => match split r with
  | (a,b) => (x :: a,y :: b)

def Tr.ofL {α : Type} : Nat → List α → Tr α
 | 0,_ => .nil
 | _ + 1,[] => .nil
 | f + 1,x :: xs => match xs with
  | [] => .node .nil (some x) .nil
  | y :: ys => match split (y :: ys) with
   | (o,e) => (Tr.ofL f o).force fun l => match e with
    | [] => .node l (some x) .nil
    | _ :: _ => (Tr.ofL f (x :: e)).force fun r => .node l (some x) r

def merge {α : Type} : List α → List α → List α
 | [],b => b
 | x :: a,[] => x :: a
 | x :: a,y :: b => x :: y :: merge a b

def Tr.toL {α : Type} : Nat → Tr α → Nat → Option (List α)
 | 0,_,_ => none
 | f + 1,t,n => match n with
  | 0 => some []
  | m + 1 => match t with
   | .nil => none
   | .node l v r => match v with
    | none => none
    | some x => match m with
     | 0 => some [x]
     | k + 1 => match Tr.toL f l (k / 2 + 1) with
      | none => none
      | some o => match k with
       | 0 => some (x :: o)
       | j + 1 => match Tr.toL f r (j / 2 + 2) with
        | some (_ :: e) => some (x :: merge o e)
        | _ => none

structure TI where
 desc : TypeDesc
 size : Nat
 bytes : Nat
 zero : Option Value
 deriving Inhabited

def TI.agg (t : TI) : Bool := match t.desc with | .struct _ | .array _ _ => true | _ => false

structure SLoop where
 state : LoopState
 pending : Option Code
 fn : FuncId
 tm : Tr Value
 nt : Nat
 params : Array Tmp
 assign : Code
 body : Code
 defers : Nat
 deriving Inhabited

inductive SObj where
 | cells (c : Tr Value) (n : Nat) (elem : TypeId) (opn : Bool) (ro : Bool)
 | far (c : Tr Value) (n : Nat) (off : Nat)
 | map (es : Array MapEntry) (clock : Nat)
 | loop (l : SLoop)
 | deferred (ds : Option (List Deferred))
 | iter (m since : Nat) (seen : List Nat) (last : Nat)
 | sent (v : Value)
 deriving Inhabited

structure SHeap where
 t : Tr SObj
 next : Nat
 deriving Inhabited

def SHeap.new (h : SHeap) (o : SObj) : SHeap := { t := h.t.put h.next (some o),next := h.next + 1 }
def SHeap.set (h : SHeap) (b : Nat) (o : Option SObj) : SHeap := { h with t := h.t.put b o }

def openCap : Nat := 1180591620717411303424
def looseCap : Nat := 1180591620717411303425

def zaO : Nat → Value → Bool
 | 0,_ => false
 | n + 1,v => match v with
  | .bool _ | .int _ _ | .string _ | .nilFunc | .nilIface | .float _ _ | .complex _ _ _ => true
  | .pointer none | .map none | .chan none => true
  | .slice none _ c => Nat.blt c openCap
  | .iface _ v => zaO n v
  | .agg cs => cs.toList.all (zaO n)
  | .tuple cs => cs.toList.all (zaO n)
  | .func (.yield _) _ _ => false
  | .func _ f c => f.toList.all (zaO n) && c.toList.all (zaO n)
  | _ => false

def zfO {α : Type} (P : Program) : Sem α → Option α
 | .pure a => some a
 | .program k => zfO P (k P)
 | _ => none

inductive SNext where
 | value (v : Value)
 | enter (f : FuncId) (args : Array Value)
 | round (l : Nat) (r : SLoop) (args : Array Value)
 | defer (d : Deferred)
 | recover
 deriving Inhabited

inductive Ext where
 | same
 | makeNoZero (elem : TypeId)
 | fn (g : List Value → SHeap → Option (Value × SHeap))

inductive CK where
 | int (k : IntKind)
 | bool
 | str

structure Env where
 P : Program
 T : Nat → Option TI
 F : Nat → Option Func
 X : Nat → Option Ext
 lies : TypeId → Nat → Nat → TypeId → Bool
 bytesLie : TypeId → TypeId → Bool
 eqT : TypeId → Option (List CK)
 keyT : TypeId → Bool
 M : TypeId → String → Option (FuncId × Bool)
 A : TypeId → TypeId → Option Bool
 Q : TypeId → Option TypeId
 G : Nat
 O : Nat → Option (List Value → SHeap → Except String (Value × SHeap))

abbrev Ex (α : Type) := Except String α

def zcT {α : Type} (o : Option α) (m : String) : Ex α := match o with | some a => .ok a | none => .error m

def range (c : Tr Value) (n off len : Nat) : Option (List Value) :=
 bif Nat.ble len 12 then c.toListFrom off len else
 match c.toL 32 n with
 | none => c.toListFrom off len
 | some l => bif Nat.ble (off + len) n && Nat.ble n lim then some ((l.drop off).take len) else none

def zfv : Value → Bool
 | .agg _ | .tuple _ => false
 | _ => true

def zcx : List Value → Bool
 | [] => true
 | v :: r => zfv v && zcx r

def loadAt (E : Env) (h : SHeap) (t : TypeId) (a : Addr) : Ex Value :=
 match E.T t,h.t.get a.block with
 | some ti,some (.cells c n _ _ _) =>
  if ti.agg then match range c n a.off ti.size with
   | some l => .ok (.agg l.toArray)
   | none => .error "load  cells"
  else match c.get a.off with
   | some v => .ok v
   | none => .error "load  cell"
 | some ti,some (.far c n off) =>
  bif Nat.ble off a.off then
   if ti.agg then match range c n (a.off - off) ti.size with
    | some l => .ok (.agg l.toArray)
    | none => .error "load  cells"
   else match c.get (a.off - off) with
    | some v => .ok v
    | none => .error "load  cell"
  else .error "load  ahead"
 | none,_ => .error "load  type"
 | _,_ => .error "load  no block"

def zcy (c : Tr Value) (n : Nat) : Nat → List Value → Option (Tr Value)
 | _,[] => some c
 | i,v :: vs => match v with
  | .agg _ | .tuple _ => none
  | _ => bif Nat.blt i n then (c.put i (some v)).force fun c => zcQ (i + 1) fun i => zcy c n i vs else none

def zdg (c : Tr Value) (n off : Nat) (vs : List Value) : Option (Tr Value) :=
 bif Nat.ble vs.length 12 then zcy c n off vs else
 bif zcx vs && Nat.ble (off + vs.length) n && Nat.ble n lim then
  bif Nat.beq off 0 && Nat.beq vs.length n then some (Tr.ofL 33 vs) else
  match c.toL 32 n with
  | none => zcy c n off vs
  | some l => some (Tr.ofL 33 (l.take off ++ vs ++ l.drop (off + vs.length)))
 else none

def storeAt (E : Env) (h : SHeap) (t : TypeId) (a : Addr) (v : Value) : Ex SHeap :=
 match E.T t,h.t.get a.block with
 | some ti,some (.cells c n e o false) =>
  if v.cells.size ≠ ti.size then .error "store  size" else
  match zdg c n a.off v.cells.toList with
  | some c => .ok (h.set a.block (some (.cells c n e o false)))
  | none => .error "store  cells"
 | none,_ => .error "store  type"
 | _,some (.cells _ _ _ _ true) => .error "store  read only"
 | _,_ => .error "store  no block"

def zaj (h : SHeap) (elem : TypeId) (cs : List Value) (opn : Bool) : SHeap :=
 h.new (.cells (Tr.ofL 33 cs) cs.length elem opn false)

def zlB (E : Env) (f : FuncId) (args : Array Value) (h : SHeap) : Ex (SNext × SHeap) :=
 match E.X f with
 | some .same => match args.toList with
  | [x] => .ok (.value x,h)
  | _ => .error "noEscape"
 | some (.makeNoZero elem) => match args.toList with
  | [.int .i64 (.ofNat n)] => if n > 2 ^ 40 then .error "makeNoZero" else .ok (.value (.slice (some ⟨h.next,0,none⟩) n openCap),zaj h elem [] true)
  | _ => .error "makeNoZero"
 | some (.fn g) => match g args.toList h with
  | some (v,h) => .ok (.value v,h)
  | none => .error "outside function"
 | none => match E.F f with
  | some fn => match fn.body with
   | some _ => .ok (.enter f args,h)
   | none => .error ("no body  " ++ fn.name)
  | none => .error "no function"

def zdW (E : Env) (t : Target) (args : Array Value) (h : SHeap) : Ex (SNext × SHeap) :=
 match t with
 | .fn (.func f) captured => zlB E f (args ++ captured) h
 | .fn (.yield l) _ => match h.t.get l with
  | some (.loop r) => bif Nat.beq args.size r.params.size then .ok (.round l r args,h) else .error "yield  args"
  | _ => .error "yield  no loop"
 | .fn (.method name) _ => .error ("method " ++ name)
 | .fn (.methodOf _ name) _ => .error ("methodOf " ++ name)
 | .fn (.via ..) _ => .error "via"
 | _ => .error "invoke"

def zpa (E : Env) (name : String) (recv : Option Value) (args : Option (List Value)) (h : SHeap) : Ex (SNext × SHeap) := match recv,args with
 | some (.iface t v),some args => match E.M t name with
  | some (f,false) => zlB E f (#[v] ++ args.toArray) h
  | some (f,true) => match v with
   | .agg cs => match cs.toList with
    | [x] => zlB E f (#[x] ++ args.toArray) h
    | _ => .error "invoke  parts"
   | _ => .error "invoke  held"
  | none => .error ("invoke  no such method " ++ name)
 | _,_ => .error "invoke  receiver"

def zbN (a : Addr) (n : Nat) : Addr := if n = 0 then a else { a with off := a.off + n,spot := none }

def zeY : Value → Option Nat
 | .int _ (.ofNat n) => some n
 | _ => none

def zgF (E : Env) (h : SHeap) (size n : Nat) : Value → Ex (List Value)
 | .slice (some a) _ _ => match h.t.get a.block with
  | some (.cells c _ _ _ _) => zcT (c.toListFrom a.off (n * size)) "append  source cells"
  | some (.far c _ off) => bif Nat.ble off a.off then zcT (c.toListFrom (a.off - off) (n * size)) "append  source cells" else .error "append  source ahead"
  | _ => .error "append  source block"
 | .slice none _ _ => .ok []
 | .string s => .ok ((s.extract 0 n).data.toList.map fun b => .int .u8 b.toNat)
 | _ => .error "append  source"

def zjr : Value → Option Nat
 | .slice _ n _ => some n
 | .string s => some s.size
 | _ => none

def zjl (E : Env) : List TypeId → Bool
 | [] => false
 | xt :: _ => match E.T xt with
  | some xi => match xi.desc with
   | .int _ => false
   | _ => true
  | none => false

def znH (h : SHeap) (b : Nat) (cs : Tr Value) (m elem size sLen n : Nat) (new : List Value) : Ex (Value × SHeap) := match zcy cs m (sLen * size) new with
 | some cs' => .ok (.slice (some ⟨b,0,none⟩) (sLen + n) openCap,h.set b (some (.cells cs' m elem true false)))
 | none => .error "append  cells"

def zjI (h : SHeap) (elem size sLen n : Nat) (new : List Value) : Option Addr → Ex (Value × SHeap)
 | none => .error "append  open nil"
 | some ⟨b,off,_⟩ => match h.t.get b with
  | some (.cells cs m el true false) =>
   bif Nat.beq off 0 && Nat.beq el elem && Nat.beq m (sLen * size) then
    match zcy cs (m + new.length) m new with
    | some cs' => .ok (.slice (some ⟨h.next,0,none⟩) (sLen + n) openCap,(h.set b none).new (.cells cs' (m + new.length) elem true false))
    | none => .error "append  cells"
   else bif Nat.beq off 0 && Nat.beq el elem && Nat.ble ((sLen + n) * size) m && Nat.blt 0 size then znH h b cs m elem size sLen n new else .error "append  open  not at its end"
  | _ => .error "append  open block"

def zmZ (E : Env) (h : SHeap) (elem size : Nat) (base : Option Addr) (sLen sCap n : Nat) (new : List Value) : Ex (Value × SHeap) :=
 match zgF E h size sLen (.slice base sLen sCap) with
 | .error e => .error e
 | .ok old => bif Nat.beq old.length (sLen * size) then .ok (.slice (some ⟨h.next,0,none⟩) (sLen + n) openCap,zaj h elem (old ++ new) true) else .error "append  old"

def zjy (E : Env) (h : SHeap) (elem size bytes : Nat) (base : Option Addr) (sLen sCap n : Nat) (new : List Value) : Ex (Value × SHeap) :=
 bif Nat.beq new.length (n * size) && Nat.ble ((sLen + n) * (bytes + 1)) 70368744177664 then
  bif Nat.beq sCap openCap then zjI h elem size sLen n new base
  else bif Nat.blt sCap openCap then
   bif Nat.ble (sLen + n) sCap then bif Nat.beq n 0 then .ok (.slice base (sLen + n) sCap,h) else .error "append  within"
   else zmZ E h elem size base sLen sCap n new
  else .error "append  loose"
 else .error "append  size"

def zfo (E : Env) (c : Call) (args : List Value) (h : SHeap) : Ex (Value × SHeap) :=
 match args,c.argTypes.toList with
 | [.slice base sLen sCap,x],st :: rest => bif zjl E rest then match E.T st with
  | some ⟨.slice elem,_,_,_⟩ => match E.T elem,zjr x with
   | some ⟨_,size,bytes,some _⟩,some n => match zgF E h size n x with
    | .error e => .error e
    | .ok new => zjy E h elem size bytes base sLen sCap n new
   | _,_ => .error "append  elem or arg"
  | _ => .error "append  type" else .error "append  make form"
 | _,_ => .error "append  args"

def zeu : Option (Option Value) → Option (Option Nat)
 | none => some none
 | some none => none
 | some (some v) => match zeY v with | some n => some (some n) | none => none

def zfq (E : Env) (a : Option Addr) (len cap : Nat) (elem : TypeId) (lo hi mx : Option Nat) : Ex Value :=
 match E.T elem with
 | none => .error "slice  elem"
 | some ei => match mx with
  | some m => match hi with
   | none => .error "slice  form"
   | some hh => if m > cap || hh > m || lo.getD 0 > hh || m ≥ openCap || (openCap ≤ cap && (m > len || a.isNone)) then .error "slice  bounds" else
    if m = lo.getD 0 then .ok (.slice a (hh - lo.getD 0) (m - lo.getD 0)) else .ok (.slice (a.map (zbN · (lo.getD 0 * ei.size))) (hh - lo.getD 0) (m - lo.getD 0))
  | none =>
   if openCap ≤ cap then
    if hi.getD len > len || lo.getD 0 > hi.getD len then .error "slice  open bounds" else
    if lo.getD 0 = 0 then .ok (.slice a (hi.getD len) cap) else
    if lo.getD 0 < hi.getD len then .ok (.slice (a.map (zbN · (lo.getD 0 * ei.size))) (hi.getD len - lo.getD 0) looseCap) else .ok (.slice none 0 looseCap)
   else
    if hi.getD len > cap || lo.getD 0 > hi.getD len then .error "slice  bounds" else
    if cap = lo.getD 0 then .ok (.slice a (hi.getD len - lo.getD 0) (cap - lo.getD 0)) else .ok (.slice (a.map (zbN · (lo.getD 0 * ei.size))) (hi.getD len - lo.getD 0) (cap - lo.getD 0))

def zrn (E : Env) (t : TypeId) (x : Value) (lo hi mx : Option (Option Value)) : Ex Value :=
 match zeu lo,zeu hi,zeu mx with
 | some lo,some hi,some mx =>
  match E.T t,x with
  | some { desc := .array n elem,.. },.pointer (some a) => bif Nat.blt n openCap then zfq E (some a) n n elem lo hi mx else .error "slice  array"
  | some { desc := .slice elem,.. },.slice a len cap => zfq E a len cap elem lo hi mx
  | some { desc := .pointer arr,.. },.pointer (some a) => match E.T arr with
   | some { desc := .array n elem,.. } => bif Nat.blt n openCap then zfq E (some a) n n elem lo hi mx else .error "slice  array"
   | _ => .error "slice  array"
  | _,_ => .error "slice  kind"
 | _,_,_ => .error "slice  bound"

def znQ (E : Env) (t : TypeId) (cs : Array Value) (off : Nat) : Ex Value :=
 match E.T t with
 | some ti => if ti.agg then .ok (.agg (cs.extract off (off + ti.size))) else zcT cs[off]? "part"
 | none => .error "part  type"

def zqo (ti : Option TI) : Bool := match ti with
 | some ti => bif Nat.beq ti.size 0 then false else true
 | none => false

def zuH (E : Env) (d : TypeDesc) (a b : Value) : Option Bool := match d,a,b with
 | .pointer _,.pointer none,.pointer b => some b.isNone
 | .pointer _,.pointer (some _),.pointer none => some false
 | .pointer e,.pointer (some a),.pointer (some b) => bif Nat.beq a.block b.block && zqo (E.T e) then some (Nat.beq a.off b.off) else none
 | .slice _,.slice none _ c,.slice b _ d => if openCap ≤ c then none else if b.isNone && openCap ≤ d then none else some b.isNone
 | .slice _,.slice (some _) _ _,.slice none _ d => if openCap ≤ d then none else some false
 | .map _ _,.map none,.map b => some b.isNone
 | .map _ _,.map (some _),.map none => some false
 | .func _ _ _,.nilFunc,.nilFunc => some true
 | .func _ _ _,.nilFunc,.func _ _ _ => some false
 | .func _ _ _,.func _ _ _,.nilFunc => some false
 | .interface _,.nilIface,.iface _ _ => some false
 | .interface _,.iface _ _,.nilIface => some false
 | _,_,_ => none

def zcs : List Value → Option (List UInt8)
 | [] => some []
 | .int .u8 n :: r => match zcs r with
  | some l => some (UInt8.ofNat n.toNat :: l)
  | none => none
 | _ :: _ => none

def zfZ (place : Nat → Option (Nat × Nat)) (n : Nat) (cells : List Value) : List (Nat × Value) → Option (List Value)
 | [] => some cells
 | (i,v) :: rest => match place i with
  | none => none
  | some (off,size) => match v.cells.toList with
   | vs => bif Nat.beq vs.length size && Nat.ble (off + size) n then
     bif Nat.beq off 0 && Nat.beq size n then zfZ place n vs rest else zfZ place n (cells.take off ++ vs ++ cells.drop (off + size)) rest
    else none

abbrev R := Ex (SNext × SHeap)
abbrev Ev := Operand → Option Value

def zao (v : Value) (h : SHeap) : R := .ok (.value v,h)

def zan (v : Option Value) (h : SHeap) : R := match v with
 | some v => zao v h
 | none => .error "move"

def zie (elem : TypeId) (cs : List Value) (h : SHeap) : R := .ok (.value (.pointer (some ⟨h.next,0,none⟩)),zaj h elem cs false)

def zfU (ti : Option TI) (elem : TypeId) (h : SHeap) : R := match ti with
 | some ⟨_,_,_,some z⟩ => zie elem z.cells.toList h
 | _ => .error "alloc"

def zfu (elem : TypeId) (v : Option Value) (h : SHeap) : R := match v with
 | some v => zie elem v.cells.toList h
 | none => .error "box"

def zaI (ev : Ev) : List (Nat × Operand) → Option (List (Nat × Value))
 | [] => some []
 | (i,x) :: r => match ev x with
  | none => none
  | some v => match zaI ev r with
   | none => none
   | some l => some ((i,v) :: l)

def zal (ev : Ev) : List Operand → Option (List Value)
 | [] => some []
 | x :: r => match ev x with
  | none => none
  | some v => match zal ev r with
   | none => none
   | some l => some (v :: l)

def zgl (E : Env) : List Field → Option (List (Nat × Nat))
 | [] => some []
 | f :: r => match E.T f.type with
  | none => none
  | some ti => match zgl E r with
   | none => none
   | some l => some ((f.offset,ti.size) :: l)

def zfw (E : Env) (ti : Option TI) (ps : Option (List (Nat × Value))) (h : SHeap) : R := match ti,ps with
 | some ⟨.struct fields,_,_,some z⟩,some ps => match zgl E fields.toList with
  | some places => match zfZ (places[·]?) z.cells.size z.cells.toList ps with
   | some cs => zao (.agg cs.toArray) h
   | none => .error "build  fill"
  | none => .error "build  field type"
 | some ⟨.array _ elem,_,_,some z⟩,some ps => match E.T elem with
  | some ei => match zfZ (fun i => some (i * ei.size,ei.size)) z.cells.size z.cells.toList ps with
   | some cs => zao (.agg cs.toArray) h
   | none => .error "build  fill"
  | none => .error "build  elem"
 | _,_ => .error "build"

def zfi (E : Env) (ti : Option TI) (len : Nat) (ps : Option (List (Nat × Value))) (h : SHeap) : R := match ti,ps with
 | some ⟨.slice elem,_,_,_⟩,some ps => match E.T elem with
  | some ⟨_,size,_,some z⟩ =>
   if len * size > 2 ^ 24 || len > 2 ^ 24 then .error "buildSlice  long" else
   match zfZ (fun i => some (i * size,size)) (len * size) (List.replicate len z.cells.toList).flatten ps with
   | some cs => .ok (.value (.slice (some ⟨h.next,0,none⟩) len len),zaj h elem cs false)
   | none => .error "buildSlice  fill"
  | _ => .error "buildSlice  elem"
 | _,_ => .error "buildSlice"

def zwh (E : Env) (t : TypeId) (b : Nat) (h : SHeap) : R := match E.T t,h.t.get b with
 | some ti,some (.sent v) => bif Nat.beq ti.size 1 then zao (if ti.agg then .agg #[v] else v) h else .error "load  sentinel"
 | _,_ => .error "load  no sentinel"

def zbw (E : Env) (t : TypeId) (a : Option Value) (h : SHeap) : R := match a with
 | some (.pointer (some ad)) => match loadAt E h t ad with | .ok v => zao v h | .error e => .error e
 | some (.chan (some b)) => zwh E t b h
 | _ => .error "load  address"

def zcY (E : Env) (t : TypeId) (a x : Option Value) (h : SHeap) : R := match a,x with
 | some (.pointer (some ad)),some v => match storeAt E h t ad v with | .ok h => .ok (.value (.tuple #[]),h) | .error e => .error e
 | _,_ => .error "store  address"

def zjp (v : Option Value) (h : SHeap) : R := match v with
 | some (.pointer (some a)) => zao (.pointer (some a)) h
 | some (.chan (some b)) => zao (.chan (some b)) h
 | some (.func (.func f) a b) => zao (.func (.func f) a b) h
 | some (.func (.yield f) a b) => zao (.func (.yield f) a b) h
 | some (.iface t v) => zao (.iface t v) h
 | _ => .error "nilCheck"

def zbh (k : IntKind) (n : Int) : Int := match k,n with
 | .i64,.ofNat m => bif Nat.blt m 9223372036854775808 then .ofNat m else IntKind.wrap .i64 (.ofNat m)
 | .u64,.ofNat m => bif Nat.blt m 18446744073709551616 then .ofNat m else IntKind.wrap .u64 (.ofNat m)
 | k,n => IntKind.wrap k n

def zvu (k : IntKind) (n : Int) : Int := match n with
 | .ofNat m => match k with
  | .i64 => bif Nat.blt m 9223372036854775808 then .ofNat m else IntKind.wrap k n
  | .u64 => .ofNat (m % 18446744073709551616)
  | .u32 => .ofNat (m % 4294967296)
  | .u8 => .ofNat (m % 256)
  | _ => IntKind.wrap k n
 | _ => IntKind.wrap k n

def ziS (k : IntKind) (r a b : Nat) : Option Value := match k with
 | .i64 | .u64 | .u32 | .i32 => bif Nat.blt a 2147483648 && Nat.blt b 2147483648 then some (.int k (.ofNat r)) else bif (match k with | .u32 => Nat.blt a 4294967296 && Nat.blt b 4294967296 | .i64 | .u64 => Nat.blt a 9223372036854775808 && Nat.blt b 9223372036854775808 | _ => false) then some (.int k (.ofNat r)) else none
 | .u8 => bif Nat.blt a 256 && Nat.blt b 256 then some (.int k (.ofNat r)) else none
 | _ => none

def zon (op : BinOp) : Bool := match op with | .shl | .shr => true | _ => false

def zcE (op : BinOp) (k : IntKind) (x y : Int) : Option Value := match op with
 | .add => some (.int k (zbh k (x + y)))
 | .sub => some (.int k (zbh k (x - y)))
 | .mul => some (.int k (zbh k (x * y)))
 | .eql => some (.bool (x == y))
 | .neq => some (.bool (x != y))
 | .lss => some (.bool (x < y))
 | .leq => some (.bool (x ≤ y))
 | .gtr => some (.bool (x > y))
 | .geq => some (.bool (x ≥ y))
 | .and => match x,y with
  | .ofNat a,.ofNat b => ziS k (Nat.land a b) a b
  | _,_ => none
 | .or => match x,y with
  | .ofNat a,.ofNat b => ziS k (Nat.lor a b) a b
  | _,_ => none
 | .xor => match x,y with
  | .ofNat a,.ofNat b => ziS k (Nat.xor a b) a b
  | _,_ => none
 | .quo => match x,y with
  | .ofNat a,.ofNat (b + 1) => some (.int k (zbh k (.ofNat (a / (b + 1)))))
  | _,_ => none
 | .rem => match x,y with
  | .ofNat a,.ofNat (b + 1) => some (.int k (.ofNat (a % (b + 1))))
  | _,_ => none
 | _ => none

def zmE (op : BinOp) (k : IntKind) (x : Int) (y : Int) : Option Value := match op,x,y with
 | .shl,.ofNat a,.ofNat n => bif Nat.ble n 64 then some (.int k (zbh k (.ofNat (a * 2 ^ min n k.bits)))) else none
 | .shr,.ofNat a,.ofNat n => bif Nat.ble n 64 then some (.int k (.ofNat (a / 2 ^ min n k.bits))) else none
 | _,_,_ => none

def zbJ (P : Program) (ev : Ev) (o : Oper) (h : SHeap) : R :=
 if o.op.operands.toList.all (fun x => match ev x with | some v => zaO 12 v | none => false) then
  match zfO P (execOp (fun x => (ev x).getD (.tuple #[])) o) with
  | some (.value v) => if zaO 12 v then zao v h else .error "pure  not plain"
  | some .skip => zao (.tuple #[]) h
  | _ => .error "not pure"
 else .error ("no operation  " ++ o.pos)

def zdJ (c : CK) (a b : Value) : Option Bool := match c,a,b with
 | .int k,.int k1 x,.int k2 y => match k == k1 with
  | true => match k == k2 with
   | true => some (intEq x y)
   | false => none
  | false => none
 | .bool,.bool x,.bool y => some (x == y)
 | .str,.string x,.string y => some (x.data.toList == y.data.toList)
 | _,_,_ => none
 where intEq : Int → Int → Bool
 | .ofNat a,.ofNat b => Nat.beq a b
 | .negSucc a,.negSucc b => Nat.beq a b
 | _,_ => false

def zbT : List CK → List Value → List Value → Option Bool
 | [],[],[] => some true
 | c :: q,a :: r,b :: s => match zdJ c a b with
  | none => none
  | some t => match zbT q r s with
   | none => none
   | some u => some (t && u)
 | _,_,_ => none

def zli (E : Env) (ev : Ev) (o : Oper) (h : SHeap) (r : Option Bool) (neg : Bool) : R := match r with
 | some r => zao (.bool (bif neg then !r else r)) h
 | none => zbJ E.P ev o h

def zoe (E : Env) (h : SHeap) (t u : TypeId) (a b : Value) : Option Bool := bif Nat.beq t u then match a,b with
  | .chan (some x),.chan (some y) => match E.Q t,h.t.get x,h.t.get y with
   | some _,some (.sent _),some (.sent _) => some (Nat.beq x y)
   | _,_,_ => none
  | _,_ => none
 else some false

def zkN (E : Env) (ev : Ev) (o : Oper) (h : SHeap) (r : Option Bool) (neg : Bool) : R := match r with
 | some r => zao (.bool (bif neg then !r else r)) h
 | none => zbJ E.P ev o h

def znk (E : Env) (ev : Ev) (o : Oper) (h : SHeap) (t : TypeId) (a b : Value) (neg : Bool) : R := match a,b with
 | .agg xs,.agg ys => match E.eqT t with
  | some ks => zli E ev o h (zbT ks xs.toList ys.toList) neg
  | none => zbJ E.P ev o h
 | .bool x,.bool y => match E.T t with
  | some ⟨.bool,_,_,_⟩ => zao (.bool (bif neg then x != y else x == y)) h
  | _ => zbJ E.P ev o h
 | .string x,.string y => zao (.bool (bif neg then !(x.data.toList == y.data.toList) else x.data.toList == y.data.toList)) h
 | .iface ta x,.iface tb y => match E.T t with
  | some ⟨.interface _,_,_,_⟩ => zkN E ev o h (zoe E h ta tb x y) neg
  | _ => zbJ E.P ev o h
 | a,b => match E.T t with
  | some ti => match zuH E ti.desc a b with
   | some r => zao (.bool (bif neg then !r else r)) h
   | none => zbJ E.P ev o h
  | none => zbJ E.P ev o h

def zmY (E : Env) (ev : Ev) (o : Oper) (a b : Value) (h : SHeap) : R := match a,b with
 | .string x,.string y => bif Nat.blt (x.data.toList.length + y.data.toList.length) 1000000000000 then zao (.string ⟨(x.data.toList ++ y.data.toList).toArray⟩) h else .error "add  long"
 | _,_ => zbJ E.P ev o h

def zlu (E : Env) (ev : Ev) (o : Oper) (r : Option Value) (h : SHeap) : R := match r with
 | some v => zao v h
 | none => zbJ E.P ev o h

def zem (E : Env) (ev : Ev) (o : Oper) (op : BinOp) (t : TypeId) (a b : Option Value) (h : SHeap) : R := match a,b with
 | some (.int k x),some (.int k' y) => bif zon op then zlu E ev o (zmE op k x y) h else if k = k' then zlu E ev o (zcE op k x y) h else zbJ E.P ev o h
 | some a,some b => match op with
  | .eql => znk E ev o h t a b false
  | .neq => znk E ev o h t a b true
  | .add => zmY E ev o a b h
  | _ => zbJ E.P ev o h
 | _,_ => .error "binOp"

def zhm (d : TypeDesc) : Bool := match d with | .interface _ => true | _ => false

def zlU (ti : Option TI) (t : TypeId) (v : Option Value) (h : SHeap) : R := match ti,v with
 | some ti,some v => bif zhm ti.desc then .error "makeInterface" else zao (.iface t v) h
 | _,_ => .error "makeInterface"

def zjB (fn : Fn) (a b : Option (List Value)) (h : SHeap) : R := match a,b with
 | some a,some b => zao (.func fn a.toArray b.toArray) h
 | _,_ => .error "makeFunc"

def zik (E : Env) (ti : Option TI) (l c : Option Nat) (h : SHeap) : R := match ti,l,c with
 | some ⟨.slice elem,_,_,_⟩,some l,some c => match E.T elem with
  | some ⟨_,size,bytes,some z⟩ =>
   if l > c || bytes * c > 2 ^ 40 || c > 2 ^ 40 then .error "makeSlice  size" else
   .ok (.value (.slice (some ⟨h.next,0,none⟩) l c),zaj h elem (List.replicate c z.cells.toList).flatten false)
  | _ => .error "makeSlice  elem"
 | _,_,_ => .error "makeSlice"

def upS (E : Env) (h : SHeap) (t : TypeId) (v : Value) (lo hi mx : Option (Option Value)) : Option Value := match v,zeu lo,zeu hi,mx with
 | .slice (some ⟨b,0,none⟩) _ c,some none,some (some hh),none => bif Nat.beq c openCap then match E.T t,h.t.get b with
   | some ⟨.slice elem,_,_,_⟩,some (.cells _ n el true _) => match E.T elem with
    | some ei => bif Nat.blt 0 ei.size && Nat.beq el elem && Nat.ble (hh * ei.size) n then some (.slice (some ⟨b,0,none⟩) hh c) else none
    | none => none
   | _,_ => none
  else none
 | _,_,_,_ => none

def zho (E : Env) (ev : Ev) (o : Oper) (t : TypeId) (v : Option Value) (lo hi mx : Option (Option Value)) (h : SHeap) : R := match v with
 | some (.string x) => match E.T t,zeu lo,zeu hi,mx with
  | some ⟨.string,_,_,_⟩,some l,some g,none => match l.getD 0,g.getD x.data.toList.length with
   | l,g => bif Nat.ble l g && Nat.ble g x.data.toList.length then zao (.string ⟨((x.data.toList.drop l).take (g - l)).toArray⟩) h else .error "slice  string"
  | _,_,_,_ => zbJ E.P ev o h
 | some v => match zrn E t v lo hi mx with
  | .ok v => zao v h
  | .error e => match upS E h t v lo hi mx with | some u => zao u h | none => .error e
 | none => .error "slice"

def zck (E : Env) (ti : Option TI) (x : Option Value) (f : Nat) (h : SHeap) : R := match ti,x with
 | some ⟨.struct fields,_,_,_⟩,some (.pointer (some a)) => match fields[f]? with
  | some fd => match E.T fd.type with
   | some ti => if ti.size = 0 then .error "fieldAddr  empty" else zao (.pointer (some (zbN a fd.offset))) h
   | none => .error "fieldAddr  type"
  | none => .error "fieldAddr"
 | some ⟨.struct fields,_,_,_⟩,some (.chan (some b)) => match fields[f]? with
  | some fd => match E.T fd.type with
   | some ti => if ti.size = 0 then .error "fieldAddr  empty" else bif Nat.beq fd.offset 0 then zao (.chan (some b)) h else .error "fieldAddr  sentinel"
   | none => .error "fieldAddr  type"
  | none => .error "fieldAddr"
 | _,_ => .error "fieldAddr"

def zcI (E : Env) (elem len : Nat) (a : Addr) (i : Nat) (h : SHeap) : R := match E.T elem with
 | some ei => bif Nat.blt i len then zao (.pointer (some (zbN a (i * ei.size)))) h else .error "indexAddr  bounds"
 | none => .error "indexAddr  elem"

def zcK (E : Env) (ti : Option TI) (x : Option Value) (i : Option Nat) (h : SHeap) : R := match ti,x,i with
 | some ⟨.array len elem,_,_,_⟩,some (.pointer (some a)),some i => zcI E elem len a i h
 | some ⟨.slice elem,_,_,_⟩,some (.slice (some a) len _),some i => zcI E elem len a i h
 | _,_,_ => .error "indexAddr"

def zpd (E : Env) (ti : Option TI) (x : Option Value) (f : Nat) (h : SHeap) : R := match ti,x with
 | some ⟨.struct fields,_,_,_⟩,some (.agg cs) => match fields[f]? with
  | some fd => match znQ E fd.type cs fd.offset with | .ok v => zao v h | .error e => .error e
  | none => .error "field"
 | _,_ => .error "field"

def ziM (E : Env) (ev : Ev) (o : Oper) (ti : Option TI) (x : Option Value) (i : Option Nat) (h : SHeap) : R := match ti,x,i with
 | some ⟨.array len elem,_,_,_⟩,some (.agg cs),some i => match E.T elem with
  | some ei => if i < len then match znQ E elem cs (i * ei.size) with | .ok v => zao v h | .error e => .error e else .error "index"
  | none => .error "index  elem"
 | some ⟨.string,_,_,_⟩,some (.string s),some i => match s.data.toList[i]? with
  | some b => zao (.int .u8 (.ofNat b.toNat)) h
  | none => .error "index  string"
 | _,_,_ => zbJ E.P ev o h

def zkn (t : Option Value) (i : Nat) (h : SHeap) : R := match t with
 | some (.tuple vs) => match vs[i]? with | some v => zao v h | none => .error "extract"
 | _ => .error "extract"

def zhs (E : Env) (ev : Ev) (o : Oper) (ti : Option TI) (x : Option Value) (asserted : TypeId) (commaOk : Bool) (h : SHeap) : R := match ti,x with
 | some ti,some (.iface t v) =>
  bif zhm ti.desc then (match E.A t asserted with
   | some true => zao (if commaOk then .tuple #[.iface t v,.bool true] else .iface t v) h
   | some false => if commaOk then (match ti.zero with
    | some z => zao (.tuple #[z,.bool false]) h
    | none => .error "typeAssert  zero") else .error "typeAssert fails"
   | none => zbJ E.P ev o h) else
  if t = asserted then zao (if commaOk then .tuple #[v,.bool true] else v) h
  else if commaOk then match ti.zero with
   | some z => zao (.tuple #[z,.bool false]) h
   | none => .error "typeAssert  zero"
  else .error "typeAssert fails"
 | _,_ => zbJ E.P ev o h

def zex (d : TypeDesc) : Bool := match d with | .int _ => true | _ => false

def zjj (ks : List CK) (k : List Value) : List MapEntry → Nat → Option (Option (Nat × Value))
 | [],_ => some none
 | e :: r,i => match e.key with
  | .agg b => match zbT ks k b.toList with
   | some true => some (some (i,e.val))
   | some false => zjj ks k r (i + 1)
   | none => none
  | _ => none
def zlJ (E : Env) (kt : TypeId) (k : List Value) (es : List MapEntry) : Option (Option (Nat × Value)) := bif E.keyT kt then match E.eqT kt with
  | some ks => match zbT ks k k with
   | some _ => zjj ks k es 0
   | none => none
  | none => none else none

def zsm (E : Env) (ti : Option TI) (m k : Option Value) (ok : Bool) (h : SHeap) : R := match ti,m,k with
 | some ⟨.map kt et,_,_,_⟩,some (.map (some r)),some (.agg ks) => match h.t.get r,E.T et with
  | some (.map es _),some eti => match zlJ E kt ks.toList es.toList,eti.zero with
   | some (some (_,v)),_ => zao (if ok then .tuple #[v,.bool true] else v) h
   | some none,some z => zao (if ok then .tuple #[z,.bool false] else z) h
   | _,_ => .error "lookup  struct"
  | _,_ => .error "lookup  no map"
 | some ⟨.map kt et,_,_,_⟩,some (.map (some r)),some (.int kk n) => match h.t.get r,E.T kt,E.T et with
  | some (.map es _),some kti,some eti => bif !zex kti.desc then .error "lookup  key" else match Instr.findNow kti.desc (.int kk n) es.toList 0,eti.zero with
   | some (some (_,v)),_ => zao (if ok then .tuple #[v,.bool true] else v) h
   | some none,some z => zao (if ok then .tuple #[z,.bool false] else z) h
   | _,_ => .error "lookup  find"
  | _,_,_ => .error "lookup  no map"
 | some ⟨.map kt et,_,_,_⟩,some (.map none),some (.int kk n) => match E.T kt,E.T et with
  | some kti,some eti => bif !zex kti.desc then .error "lookup  key" else match eti.zero with
   | some z => zao (if ok then .tuple #[z,.bool false] else z) h
   | none => .error "lookup  zero"
  | _,_ => .error "lookup  types"
 | _,_,_ => .error "lookup"

def zlY (E : Env) (ti : Option TI) (m k x : Option Value) (h : SHeap) : R := match ti,m,k,x with
 | some ⟨.map kt _,_,_,_⟩,some (.map (some r)),some (.agg ks),some v => match h.t.get r with
  | some (.map es clock) => match zlJ E kt ks.toList es.toList with
   | some none => bif zcx ks.toList && zaO 3 (.agg ks) then .ok (.value (.tuple #[]),h.set r (some (.map (es.push { key := .agg ks,val := v,born := clock }) (clock + 1)))) else .error "mapUpdate  struct"
   | _ => .error "mapUpdate  struct"
  | _ => .error "mapUpdate  no map"
 | some ⟨.map kt _,_,_,_⟩,some (.map (some r)),some (.int kk n),some v => match h.t.get r,E.T kt with
  | some (.map es clock),some kti => bif !zex kti.desc then .error "mapUpdate  key" else match Instr.findNow kti.desc (.int kk n) es.toList 0 with
   | some none => .ok (.value (.tuple #[]),h.set r (some (.map (es.push { key := .int kk n,val := v,born := clock }) (clock + 1))))
   | some (some (i,_)) => .ok (.value (.tuple #[]),h.set r (some (.map (es.modify i fun e => { e with key := .int kk n,val := v }) clock)))
   | none => .error "mapUpdate  key kind"
  | _,_ => .error "mapUpdate  no map"
 | _,_,_,_ => .error "mapUpdate"

def zoz (E : Env) (ti : Option TI) (r : Nat) (h : SHeap) : R := match ti,h.t.get r with
 | some ⟨.map _ _,_,_,_⟩,some (.map _ clock) => .ok (.value (.tuple #[]),h.set r (some (.map #[] clock)))
 | _,_ => .error "clear"

def ztQ (ti : Option TI) (x : Option Value) (h : SHeap) : R := match ti,x with
 | some ⟨.map _ _,_,_,_⟩,some (.map (some m)) => match h.t.get m with
  | some (.map _ clock) => .ok (.value (.pointer (some ⟨h.next,0,none⟩)),h.new (.iter m clock [] clock))
  | _ => .error "range  no map"
 | _,_ => .error "range"

def zhT (x : Nat) : List Nat → Bool
 | [] => false
 | y :: r => bif Nat.beq x y then true else zhT x r

def zkI (since last : Nat) (seen : List Nat) : List MapEntry → Option (List MapEntry)
 | [] => some []
 | e :: r => bif Nat.blt e.born since && Nat.blt e.born last && zaO 4 e.key then match zkI since last seen r with
   | none => none
   | some l => bif zhT e.born seen then some l else some (e :: l)
  else none

def zwl (h : SHeap) (r m since : Nat) (seen : List Nat) (clock : Nat) (e : MapEntry) : Value × SHeap :=
 (.tuple #[.bool true,e.key,e.val],h.set r (some (.iter m since (e.born :: seen) clock)))
def ziU (h : SHeap) (r m since : Nat) (seen : List Nat) (clock : Nat) : List MapEntry → List (Value × SHeap)
 | [] => []
 | e :: l => zwl h r m since seen clock e :: ziU h r m since seen clock l

def ziI (x : Option Value) (h : SHeap) : Ex (List (Value × SHeap)) := match x with
 | some (.pointer (some ⟨r,0,none⟩)) => match h.t.get r with
  | some (.iter m since seen last) => match h.t.get m with
   | some (.map es clock) => match zkI since last seen es.toList with
    | some [] => .ok [(.tuple #[.bool false],h)]
    | some (e :: l) => .ok (ziU h r m since seen clock (e :: l))
    | none => .error "next  entries"
   | _ => .error "next  no map"
  | _ => .error "next  no walk"
 | _ => .error "next"

def zwx (x : Option Value) (h : SHeap) : R := match ziI x h with
 | .ok [(v,h)] => .ok (.value v,h)
 | .ok _ => .error "next  more than one way"
 | .error e => .error e

def ztH (x : Option Value) (h : SHeap) : R := match x with
 | some (.pointer (some ⟨r,0,none⟩)) => match h.t.get r with
  | some (.iter m _ (b :: _) last) => match h.t.get m with
   | some (.map es clock) => bif Nat.beq clock last then match es.toList.find? (fun e => Nat.beq e.born b) with
     | some e => bif zaO 4 e.key then zao (.tuple #[e.key,e.val]) h else .error "entry  key"
     | none => .error "entry"
    else .error "entry  clock"
   | _ => .error "entry  no map"
  | _ => .error "entry  no walk"
 | _ => .error "entry"

def zlO (E : Env) (ev : Ev) (o : Oper) (ti : Option TI) (x : Value) (h : SHeap) : R := match ti,x with
 | some ⟨.slice _,_,_,_⟩,.slice _ n _ => zao (.int .i64 n) h
 | some ⟨.string,_,_,_⟩,.string s => zao (.int .i64 (.ofNat s.data.toList.length)) h
 | some ⟨.map _ _,_,_,_⟩,.map (some r) => match h.t.get r with
  | some (.map es _) => zao (.int .i64 es.size) h
  | _ => .error "len"
 | _,_ => zbJ E.P ev o h

def zrh (E : Env) (ti : Option TI) (a : Addr) (dLen : Nat) (src : Value) (h : SHeap) : R := match ti,zjr src with
 | some ⟨.slice elem,_,_,_⟩,some sl => match E.T elem with
  | some ei => match zgF E h ei.size (Nat.min sl dLen) src,h.t.get a.block with
   | .ok cs,some (.cells tr m el op false) => match zcy tr m a.off cs with
    | some tr => .ok (.value (.int .i64 (Nat.min sl dLen)),h.set a.block (some (.cells tr m el op false)))
    | none => .error "copy  store"
   | .error e,_ => .error e
   | _,_ => .error "copy  block"
  | none => .error "copy  elem"
 | _,_ => .error "copy  type"

def zgs (E : Env) (ti : Option TI) (a : Addr) (n : Nat) (h : SHeap) : R := match ti,h.t.get a.block with
 | some ⟨.pointer u,_,_,_⟩,some (.cells cs m e op false) =>
  if n = 0 then .error "rawString  empty" else
  if !(E.bytesLie e u) then .error "rawString  bytesLie" else
  if a.off + n > m then .error "rawString  long" else
  match cs.toListFrom a.off n with
  | some l => match zcs l with
   | some bs => .ok (.value (.string ⟨bs.toArray⟩),h.set a.block (some (.cells cs m e op true)))
   | none => .error "rawString  bytes"
  | none => .error "rawString  cells"
 | _,_ => .error "rawString"

def zll (mx : Bool) : Value → Value → Option Value
 | .int k x,.int _ y => some (.int k (bif mx then bif decide (y > x) then y else x else bif decide (y < x) then y else x))
 | _,_ => none

def zgv (E : Env) (ev : Ev) (o : Oper) (r : Option Value) (h : SHeap) : R := match r with
 | some v => zao v h
 | none => zbJ E.P ev o h

def zcA (E : Env) (ev : Ev) (o : Oper) (c : Call) (b : Builtin) (args : Option (List Value)) (h : SHeap) : R := match args with
 | none => .error "builtin  args"
 | some args => match b,args with
  | .len,[x] => zlO E ev o ((c.argTypes[0]?).bind E.T) x h
  | .cap,[.slice _ _ n] => match (c.argTypes[0]?).bind E.T with
   | some ⟨.slice _,_,_,_⟩ => if openCap ≤ n then .error "cap  open" else zao (.int .i64 n) h
   | _ => .error "cap"
  | .min,[x,y] => zgv E ev o (zll false x y) h
  | .max,[x,y] => zgv E ev o (zll true x y) h
  | .append,args => match zfo E c args h with | .ok (v,h) => .ok (.value v,h) | .error e => .error e
  | .copy,[.slice (some a) dLen _,src] => zrh E ((c.argTypes[0]?).bind E.T) a dLen src h
  | .recover,_ => .ok (.recover,h)
  | .clear,[.map (some r)] => zoz E ((c.argTypes[0]?).bind E.T) r h
  | .unsafeSliceData,[.slice (some a) len c] => if len = 0 then .error "sliceData  empty" else if c < openCap ∧ c = 0 then .error "sliceData" else zao (.pointer (some a)) h
  | .unsafeString,[.pointer (some a),.int _ (.ofNat n)] => zgs E ((c.argTypes[0]?).bind E.T) a n h
  | _,_ => zbJ E.P ev o h

def zeh (ev : Ev) (c : Call) : Ex Deferred :=
 match zal ev c.args.toList with
 | none => .error "call  args"
 | some args => match c.callee with
  | .value f => match ev f with
   | some (.func fn first captured) => .ok { target := .fn fn captured,args := first ++ args.toArray }
   | _ => .error "call  no function value"
  | _ => .error "call  builtin or invoke"

def zcg (E : Env) (ev : Ev) (o : Oper) (c : Call) (h : SHeap) : R := match c.callee with
 | .builtin b => zcA E ev o c b (zal ev c.args.toList) h
 | .value _ => match zeh ev c with
  | .ok d => zdW E d.target d.args h
  | .error e => .error e
 | .invoke r name => zpa E name (ev r) (zal ev c.args.toList) h

def zfk (ev : Ev) (c : Call) (h : SHeap) : R := match zeh ev c with
 | .ok d => .ok (.defer d,h)
 | .error e => .error e

def zid (E : Env) (ev : Ev) (o : Oper) (src dst : TypeId) (v : Option Value) (h : SHeap) : R := match E.T src,E.T dst,v with
 | some ⟨.string,_,_,_⟩,some ⟨.slice e,_,_,_⟩,some (.string s) => match E.T e with
  | some ⟨.int .u8,1,_,_⟩ => .ok (.value (.slice (some ⟨h.next,0,none⟩) s.size openCap),zaj h e (s.data.toList.map fun b => .int .u8 b.toNat) true)
  | _ => .error "convert  elem"
 | some ⟨.slice e,_,_,_⟩,some ⟨.string,_,_,_⟩,some (.slice (some a) len _) => match E.T e,h.t.get a.block with
  | some ⟨.int .u8,_,_,_⟩,some (.cells c _ _ _ _) => match c.toListFrom a.off len with
   | some l => match zcs l with
    | some bs => zao (.string ⟨bs.toArray⟩) h
    | none => .error "convert  bytes"
   | none => .error "convert  cells"
  | _,_ => .error "convert  block"
 | some ⟨.pointer t,_,_,_⟩,some ⟨.unsafePointer,_,_,_⟩,some (.pointer (some a)) => match h.t.get a.block,E.T t with
  | some (.cells _ n _ _ _),some ti => if a.off < n ∧ a.spot = none ∧ ti.size ≠ 0 then zao (.pointer (some a)) h else .error "convert  to raw"
  | _,_ => .error "convert  to raw"
 | some ⟨.unsafePointer,_,_,_⟩,some ⟨.pointer u,_,_,_⟩,some (.pointer (some a)) => match h.t.get a.block with
  | some (.cells _ n e false _) => if E.lies e n a.off u then zao (.pointer (some a)) h else .error "convert  lies"
  | _ => .error "convert  from raw"
 | some ⟨.slice _,_,_,_⟩,some ⟨.slice e,_,_,_⟩,some (.slice (some a) len cap) =>
  if src ≠ dst then .error "convert  slices" else match E.T e,h.t.get a.block with
  | some ⟨.int .u8,_,_,_⟩,some (.cells _ _ _ _ false) => zao (.slice (some a) len cap) h
  | _,_ => .error "convert  slice block"
 | some _,some ⟨.int k,_,_,_⟩,some (.int _ n) => zao (.int k (zvu k n)) h
 | _,_,_ => zbJ E.P ev o h

abbrev Dsp := Env → Ev → Oper → SHeap → R
def zaq (x : Operand) : Dsp := fun _ ev _ h => zan (ev x) h
def zbX (t : TypeId) : Dsp := fun E _ _ h => zfU (E.T t) t h
def zcf (t : TypeId) (x : Operand) : Dsp := fun _ ev _ h => zfu t (ev x) h
def zbi (t : TypeId) (ps : Array (Nat × Operand)) : Dsp := fun E ev _ h => zfw E (E.T t) (zaI ev ps.toList) h
def zci (t : TypeId) (len : Nat) (ps : Array (Nat × Operand)) : Dsp := fun E ev _ h => zfi E (E.T t) len (zaI ev ps.toList) h
def zat (t : TypeId) (a : Operand) : Dsp := fun E ev _ h => zbw E t (ev a) h
def zar (t : TypeId) (a x : Operand) : Dsp := fun E ev _ h => zcY E t (ev a) (ev x) h
def zai (x : Operand) : Dsp := fun _ ev _ h => zjp (ev x) h
def zax (op : BinOp) (t : TypeId) (x y : Operand) : Dsp := fun E ev o h => zem E ev o op t (ev x) (ev y) h
def zgn (a b : TypeId) (x : Operand) : Dsp := fun E ev o h => zid E ev o a b (ev x) h
def zhh (t : TypeId) (x : Operand) : Dsp := fun E ev _ h => zlU (E.T t) t (ev x) h
def zgJ (fn : Fn) (a b : Array Operand) : Dsp := fun _ ev _ h => match fn with
 | .yield _ => .error "makeFunc  yield"
 | fn => zjB fn (zal ev a.toList) (zal ev b.toList) h
def zjk (r : Option Operand) : Dsp := match r with
 | none => fun _ _ _ h => .ok (.value (.map (some h.next)),h.new (.map #[] 0))
 | some _ => fun _ _ _ _ => .error "makeMap"
def zgf (t : TypeId) (l c : Operand) : Dsp := fun E ev _ h => zik E (E.T t) ((ev l).bind zeY) ((ev c).bind zeY) h
def zeo (t : TypeId) (x : Operand) (lo hi mx : Option Operand) : Dsp := fun E ev o h => zho E ev o t (ev x) (lo.map ev) (hi.map ev) (mx.map ev) h
def zah (t : TypeId) (x : Operand) (f : Nat) : Dsp := fun E ev _ h => zck E (E.T t) (ev x) f h
def ziP (t : TypeId) (x : Operand) (f : Nat) : Dsp := fun E ev _ h => zpd E (E.T t) (ev x) f h
def zag (t : TypeId) (x i : Operand) : Dsp := fun E ev _ h => zcK E (E.T t) (ev x) ((ev i).bind zeY) h
def zeq (t : TypeId) (x i : Operand) : Dsp := fun E ev o h => ziM E ev o (E.T t) (ev x) ((ev i).bind zeY) h
def zlA (t : TypeId) (m k : Operand) (ok : Bool) : Dsp := fun E ev _ h => zsm E (E.T t) (ev m) (ev k) ok h
def zea (t : TypeId) (m k x : Operand) : Dsp := fun E ev _ h => zlY E (E.T t) (ev m) (ev k) (ev x) h
def zgE (x : Operand) (t : TypeId) (ok : Bool) : Dsp := fun E ev o h => zhs E ev o (E.T t) (ev x) t ok h
def znc (t : TypeId) (x : Operand) : Dsp := fun E ev _ h => ztQ (E.T t) (ev x) h
def zob (x : Operand) (str : Bool) : Dsp := match str with
 | true => fun _ _ _ _ => .error "next  string"
 | false => fun _ ev _ h => zwx (ev x) h
def zoa (x : Operand) : Dsp := fun _ ev _ h => ztH (ev x) h
def zhH (x : Operand) (i : Nat) : Dsp := fun _ ev _ h => zkn (ev x) i h
def znS (c a b : Option Value) (h : SHeap) : R := match c with
 | some (.bool t) => zan (bif t then a else b) h
 | _ => .error "pick"
def zav (c a b : Operand) : Dsp := fun _ ev _ h => match ev a,ev b with
 | some x,some y => znS (ev c) (some x) (some y) h
 | _,_ => .error "pick"
def zqY (E : Env) (ev : Ev) (o : Oper) (op : UnOp) (x : Option Value) (h : SHeap) : R := match op,x with
 | .not,some (.bool b) => zao (.bool (bif b then false else true)) h
 | .neg,some (.int k n) => zao (.int k (zbh k (0 - n))) h
 | _,_ => zbJ E.P ev o h
def dUn (op : UnOp) (x : Operand) : Dsp := fun E ev o h => zqY E ev o op (ev x) h
def zaw (c : Call) : Dsp := fun E ev o h => zcg E ev o c h
def znB (c : Call) : Dsp := fun _ ev _ h => zfk ev c h
def zfl : Dsp := fun _ _ o _ => .error ("no such operation  " ++ o.pos)

def zaf (op : Op) : Dsp := Op.casesOn (motive := fun _ => Dsp) op
 (fun x => zaq x) (fun x => zaq x) (fun c a b => zav c a b) (fun t => zbX t) (fun t x => zcf t x) (fun t ps => zbi t ps) (fun t n ps => zci t n ps)
 (fun t m k x => zea t m k x) (fun t a => zat t a) (fun t a x => zar t a x) (fun _ => zfl) (fun _ => zfl) (fun x => zai x) (fun op t x y _ => zax op t x y) (fun op _ x => dUn op x)
 (fun a b x => zgn a b x) (fun _ _ => zfl) (fun t x => zhh t x) (fun fn a b => zgJ fn a b) (fun _ r => zjk r) (fun _ _ => zfl) (fun t l c => zgf t l c)
 (fun t x l h m => zeo t x l h m) (fun t x f => zah t x f) (fun t x f => ziP t x f) (fun t x i => zag t x i) (fun t x i => zeq t x i) (fun t m k ok => zlA t m k ok)
 (fun t m k x => zea t m k x) (fun _ _ _ => zfl) (fun _ _ _ _ => zfl) (fun t x => znc t x) (fun x b => zob x b) (fun x => zoa x) (fun x _ t ok => zgE x t ok) (fun x i => zhH x i)
 (fun c => zaw c) (fun _ => zfl) (fun c => znB c) (fun _ => zfl) (fun _ _ => zfl) (fun _ _ _ => zfl) (fun _ _ => zfl)

def zcZ (E : Env) (ev : Ev) (o : Oper) (h : SHeap) : R := match o with
 | ⟨_,op,_,_,_,_⟩ => zaf op E ev o h

/-! ## a region that draws its order: which operations float -/

inductive PKind where
 | pure | read | alloc | eff
 | touch (j : Nat)

def PKind.isEff : PKind → Bool
 | .eff => true
 | _ => false
def PKind.isAlloc : PKind → Bool
 | .alloc => true
 | _ => false
def zKI (E : Env) (o : Oper) : PKind := match o.op with
 | .convert a b _ => match E.T a,E.T b with
  | some ⟨.int _,_,_,_⟩,some ⟨.int _,_,_,_⟩ => .pure
  | some ⟨.int _,_,_,_⟩,some ⟨.string,_,_,_⟩ => .pure
  | some ⟨.slice _,_,_,_⟩,some ⟨.string,_,_,_⟩ => .read
  | some ⟨.slice _,_,_,_⟩,some ⟨.slice _,_,_,_⟩ => .touch 0
  | _,_ => .eff
 | .load .. | .lookup .. => .read
 | .alloc _ | .box .. | .buildSlice .. | .makeSlice .. | .makeMap _ none => .alloc
 | .move _ | .assign _ | .pick .. | .build .. | .fieldAddr .. | .indexAddr .. | .slice .. | .binOp .. | .makeInterface .. | .makeFunc .. | .field .. | .index .. | .extract .. | .unOp .. | .nilCheck _ | .typeAssert .. => .pure
 | .call c => match c.callee with
  | .builtin .len => .read
  | .builtin .min => .pure
  | _ => .eff
 | _ => .eff

structure PStep where
 i : Nat
 kind : PKind
 lo : Nat

structure Plan where
 steps : List PStep
 m : Nat
 res : Nat      -- so many names are set aside

def zdM : List Nat → Nat → Nat
 | [],_ => 0
 | x :: _,0 => x
 | _ :: r,n + 1 => zdM r n

def zfS (ms : List Nat) : List Edge → Nat
 | [] => 0
 | e :: r => bif Region.binds .any e then Nat.lor (Nat.lor (2 ^ e.on) (zdM ms e.on)) (zfS ms r) else zfS ms r
def zhW (ms : List Nat) : List Oper → List Nat
 | [] => ms
 | o :: r => zhW (ms ++ [zfS ms o.after.toList]) r
def zjO (ops : List Oper) : List Nat := zhW [] ops

def zlw (o : Oper) : List Tmp := o.op.operands.toList.filterMap fun | .tmp t => some t | _ => none

def zsA (bs : List Nat) : Nat → Nat
 | 0 => 0
 | k + 1 => bif Nat.beq (zdM bs k) (2 ^ k - 1) then zsA bs k else k + 1

def zuh (bs : List Nat) (done : List Nat) (until_ : Nat) (mask : Nat) : List Nat → List Nat
 | [] => done
 | j :: r => bif Nat.blt j until_ && mask.testBit j && !done.contains j then zuh bs (done ++ [j]) until_ mask r else zuh bs done until_ mask r

def ztp (ks : List PKind) (i : Nat) : Bool := match ks[i]? with
 | some k => k.isEff
 | none => true

def zof (bs : List Nat) (ks : List PKind) (m : Nat) : Nat → List Nat → List Nat
 | 0,done => zuh bs done m (2 ^ m - 1) (List.range m)
 | k + 1,done =>
  bif ztp ks (m - (k + 1)) then zof bs ks m k (zuh bs done (m - (k + 1)) (zdM bs (m - (k + 1))) (List.range m) ++ [m - (k + 1)])
  else zof bs ks m k done

def zmU (ops : List Oper) (t : Tmp) (i : Nat) : Nat → Nat
 | 0 => 0
 | n + 1 => match ops[i]? with
  | some o => match o.dst with
   | some d => bif Nat.beq d t then i else zmU ops t (i + 1) n
   | none => zmU ops t (i + 1) n
  | none => 0

def zDW (ops : List Oper) (bs : List Nat) (ks : List PKind) (m : Nat) (effs : List Nat) (i : Nat) : PStep :=
 { i,lo := (effs.filter fun e => (zdM bs i).testBit e).length,kind := match ks[i]? with
  | some (.touch _) => match ops[i]? with
   | some o => match o.op with
    | .convert _ _ (.tmp t) => .touch (zmU ops t 0 m)
    | _ => .eff
   | none => .eff
  | some k => k
  | none => .eff }

def zwW (E : Env) (ops : List Oper) : Plan :=
 match zjO ops with
 | bs => match zsA bs ops.length with
  | m => match ops.map (zKI E) with
   | ks => { steps := (zof bs ks m m []).map (zDW ops bs ks m ((List.range m).filter fun i => ztp ks i)),m,res := bif (ks.take m).any PKind.isAlloc then m else 0 }

def zfK (x : Nat) : List Nat → Bool
 | [] => false
 | y :: r => bif Nat.beq x y then true else zfK x r

def znp (ops : List Oper) (bs : List Nat) (self : Nat) (done : List Nat) (ts : List Tmp) (i : Nat) : Nat → Bool
 | 0 => true
 | n + 1 => (match ops[i]? with
  | some o => match o.dst with
   | some d => bif zfK d ts then bif zfK i done then (zdM bs self).testBit i else Nat.beq i self || (zdM bs i).testBit self else true
   | none => true
  | none => false) && znp ops bs self done ts (i + 1) n

def zqq (ops : List Oper) (d : Tmp) (self i : Nat) : Nat → Bool
 | 0 => true
 | n + 1 => (match ops[i]? with
  | some o => match o.dst with
   | some e => bif Nat.beq e d then Nat.beq i self else true
   | none => true
  | none => false) && zqq ops d self (i + 1) n

def zib (mask : Nat) : List Nat → Bool
 | [] => true
 | j :: r => mask.testBit j && zib mask r

def ziC : List Nat → Nat → Option Nat
 | [],_ => none
 | x :: _,0 => some x
 | _ :: r,n + 1 => ziC r n

def zsx (ops : List Oper) (bs : List Nat) (m res : Nat) (done effs : List Nat) (s : PStep) : Bool := match ops[s.i]? with
 | none => false
 | some o => Nat.blt s.i m && !zfK s.i done && znp ops bs s.i done (zlw o) 0 m &&
  (match o.dst with | some d => zqq ops d s.i 0 m | none => true) &&
  (match o.guard with | some (g,_) => Nat.blt g m && zfK g done && (zdM bs s.i).testBit g | none => true) &&
  (match s.kind with
   | .eff => zib (zdM bs s.i) done
   | .read => match s.lo with
    | 0 => true
    | l + 1 => match ziC effs l with
     | some e => (zdM bs s.i).testBit e && !Nat.beq e s.i
     | none => false
   | .touch j => (zdM bs s.i).testBit j && !Nat.beq j s.i
   | .alloc => Nat.blt s.i res
   | .pure => true)

def zlI (done : List Nat) : Nat → Bool
 | 0 => true
 | n + 1 => zfK n done && zlI done n

def zlS (ops : List Oper) (bs : List Nat) (m res : Nat) : List Nat → List Nat → List PStep → Bool
 | done,_,[] => zlI done m
 | done,effs,s :: r => zsx ops bs m res done effs s && zlS ops bs m res (done ++ [s.i]) (match s.kind with | .eff => effs ++ [s.i] | _ => effs) r

def znR (bs : List Nat) (m : Nat) : Nat → Bool
 | 0 => true
 | n + 1 => Nat.beq (zdM bs (m + n)) (2 ^ (m + n) - 1) && znR bs m n

def zlC : Nat → List Oper → Bool
 | _,[] => true
 | i,o :: r => (o.after.toList.all fun e => !Region.binds .any e || Nat.blt e.on i) && zlC (i + 1) r

def zgK (E : Env) (op : Op) : Bool := match op with
 | .move _ | .assign _ | .pick .. | .build .. | .load .. | .nilCheck _ | .binOp .. | .unOp .. | .makeInterface .. | .makeFunc .. | .slice .. | .fieldAddr .. | .field .. | .indexAddr .. | .index .. | .lookup .. | .typeAssert .. | .extract .. => true
 | .convert _ b _ => match E.T b with
  | some ⟨.slice _,_,_,_⟩ => false
  | _ => true
 | .call c => match c.callee with
  | .builtin .len => true
  | .builtin .min => true
  | _ => false
 | _ => false

def zpO (E : Env) (ops : List Oper) (s : PStep) : Bool := match s.kind with
 | .pure | .read => match ops[s.i]? with
  | some o => zgK E o.op
  | none => false
 | _ => true

def zrW (E : Env) (ops : List Oper) (p : Plan) : Bool :=
 p.steps.all (zpO E ops) && Nat.ble p.m ops.length && zlC 0 ops && znR (zjO ops) p.m (ops.length - p.m) && zlS ops (zjO ops) p.m p.res [] [] p.steps

def zdp (E : Env) (ops : List Oper) : Option Plan := match zwW E ops with
 | p => bif zrW E ops p then some p else none

def zdr : Nat → Value → Value → Bool
 | 0,_,_ => false
 | n + 1,v,w => match v,w with
  | .bool a,.bool b => a == b
  | .int k a,.int l b => decide (k = l) && a == b
  | .string a,.string b => a.data.toList == b.data.toList
  | .pointer none,.pointer none => true
  | .pointer (some a),.pointer (some b) => decide (a = b)
  | .slice none l c,.slice none m d => l == m && c == d
  | .slice (some a) l c,.slice (some b) m d => decide (a = b) && l == m && c == d
  | .map none,.map none => true
  | .map (some a),.map (some b) => a == b
  | .nilFunc,.nilFunc => true
  | .nilIface,.nilIface => true
  | .chan (some a),.chan (some b) => Nat.beq a b
  | .iface t a,.iface u b => t == u && zdr n a b
  | .agg a,.agg b => valsEq n a.toList b.toList
  | .tuple a,.tuple b => valsEq n a.toList b.toList
  | .func (.func f) a b,.func (.func g) c d => f == g && valsEq n a.toList c.toList && valsEq n b.toList d.toList
  | .func (.yield f) a b,.func (.yield g) c d => f == g && valsEq n a.toList c.toList && valsEq n b.toList d.toList
  | _,_ => false
 where valsEq : Nat → List Value → List Value → Bool
 | _,[],[] => true
 | 0,_,_ => false
 | n + 1,a :: r,b :: s => zdr n a b && valsEq n r s
 | _,_,_ => false

/-! ## frames -/

def evT (G : Nat) (tm : Tr Value) : Operand → Option Value
 | .tmp t => tm.get t
 | .const v => bif zaO 4 v then some v else none
 | .global g => bif Nat.blt g G then some (.pointer (some ⟨g,0,none⟩)) else none
 | .func g => some (.func (.func g) #[] #[])

def zce (tm : Tr Value) (nt : Nat) (dst : Option Tmp) (v : Value) : Tr Value :=
 match dst with
 | some d => bif Nat.blt d nt then tm.put d (some v) else tm
 | none => tm

inductive Req where
 | call (f : FuncId) (args : Array Value) (kind : CallKind)
 | round (l : Nat) (r : SLoop) (args : Array Value)

abbrev K := Req → SHeap → Ex (Value × SHeap)

structure Fx where
 fn : FuncId
 nt : Nat
 kind : CallKind
 round : Option Nat

structure St where
 tm : Tr Value
 h : SHeap
 defers : List Deferred

inductive Out where
 | normal
 | exit (id : Nat)
 | ret

abbrev RS := Ex (Out × St)

def zgq (tm : Tr Value) (h : SHeap) (ds : List Deferred) : Ex St := match h with
 | ⟨t,next⟩ => tm.force fun tm => t.force fun t => zcQ next fun next => .ok ⟨tm,⟨t,next⟩,ds⟩

def ziE (tm : Tr Value) (n : Nat) : List (Tmp × Value) → Option (Tr Value)
 | [] => some tm
 | (t,v) :: r => bif Nat.blt t n then (tm.put t (some v)).force fun tm => ziE tm n r else none

def callOut (ih : K) : SNext × SHeap → Ex (Value × SHeap)
 | (.value v,h) => .ok (v,h)
 | (.enter g args,h) => ih (.call g args .normal) h
 | (.round l r args,h) => ih (.round l r args) h
 | _ => .error "callOut"

def zak (all : Array Oper) (tm : Tr Value) (g : Option (Nat × Bool)) : Option Bool :=
 match g with
 | none => some true
 | some (j,want) => match (all[j]?).bind (·.dst) with
  | some d => match tm.get d with
   | some (.bool b) => some (b == want)
   | some _ => some false
   | none => none
  | none => some false

structure Ph where
 heaps : List SHeap      -- newest first; behind each effect
 tm : Tr Value
 h : SHeap
 cur : List Nat          -- what has been made since the last effect

def zdz (E : Env) (ev : Ev) (o : Oper) (v : Value) : List SHeap → Bool
 | [] => true
 | h :: r => match zcZ E ev o h with
  | .ok (.value u,_) => zdr 200 u v && zdz E ev o v r
  | _ => false

inductive AV where
 | ptr
 | slc (l c : Nat)
 | mp
def zmH : AV → Nat → Value
 | .ptr,b => .pointer (some ⟨b,0,none⟩)
 | .mp,b => .map (some b)
 | .slc l c,b => .slice (some ⟨b,0,none⟩) l c

def zjx (elem : TypeId) (cs : List Value) : AV → SObj
 | .mp => .map #[] 0
 | .ptr => .cells (Tr.ofL 33 cs) cs.length elem false false
 | .slc _ _ => .cells (Tr.ofL 33 cs) cs.length elem false false

def zjJ (E : Env) (ti : Option TI) (len : Nat) (ps : Option (List (Nat × Value))) : Option (TypeId × List Value × AV) := match ti,ps with
 | some ⟨.slice elem,_,_,_⟩,some ps => match E.T elem with
  | some ⟨_,size,_,some z⟩ =>
   bif Nat.ble (len * size) 16777216 && Nat.ble len 16777216 then
    match zfZ (fun i => some (i * size,size)) (len * size) (List.replicate len z.cells.toList).flatten ps with
    | some cs => some (elem,cs,.slc len len)
    | none => none
   else none
  | _ => none
 | _,_ => none

def zlj (E : Env) (ti : Option TI) (l c : Option Nat) : Option (TypeId × List Value × AV) := match ti,l,c with
 | some ⟨.slice elem,_,_,_⟩,some l,some c => match E.T elem with
  | some ⟨_,_,bytes,some z⟩ => bif Nat.ble l c && Nat.ble (bytes * c) 1099511627776 && Nat.ble c 1099511627776 then some (elem,(List.replicate c z.cells.toList).flatten,.slc l c) else none
  | _ => none
 | _,_,_ => none

def zbL (E : Env) (ev : Ev) (op : Op) : Option (TypeId × List Value × AV) := match op with
 | .alloc t => match E.T t with
  | some ⟨_,_,_,some z⟩ => some (t,z.cells.toList,.ptr)
  | _ => none
 | .box t x => match ev x with
  | some v => some (t,v.cells.toList,.ptr)
  | none => none
 | .buildSlice t len ps => zjJ E (E.T t) len (zaI ev ps.toList)
 | .makeSlice t l c => zlj E (E.T t) ((ev l).bind zeY) ((ev c).bind zeY)
 | .makeMap _ none => some (0,[],.mp)
 | _ => none

def zii : SHeap := ⟨.nil,lim⟩

def zkk (op : Op) : Bool := match op with | .makeMap _ _ => true | _ => false
def zoy (all : Array Oper) (j : Nat) : Bool := match all[j]? with
 | some o => !zkk o.op
 | none => false

def zoq (E : Env) (ev : Ev) (all : Array Oper) (base j : Nat) (cur : List Nat) (op : Op) : Option Value := match op with
 | .convert a b x => match E.T a,ev x with
  | some ⟨.slice e,_,_,_⟩,some (.slice (some ⟨c,0,none⟩) l n) => match E.T e with
   | some ⟨.int .u8,_,_,_⟩ => bif Nat.beq a b && Nat.beq c (base + j) && zfK j cur && Nat.blt n openCap && zoy all j then some (.slice (some ⟨c,0,none⟩) l n) else none
   | _ => none
  | _,_ => none
 | _ => none

def zey : R → Ex Value
 | .ok (.value v,_) => .ok v
 | .ok _ => .error "draw  no value"
 | .error e => .error e

def zhA (E : Env) (all : Array Oper) (base : Nat) (s : PStep) (o : Oper) (ph : Ph) : Ex (Value × SHeap × List Nat) := match ph with
 | ⟨heaps,tm,h,cur⟩ => match s with
  | ⟨i,kind,lo⟩ => match kind with
   | .pure => match zey (zcZ E (evT E.G tm) o zii) with
    | .ok v => .ok (v,h,cur)
    | .error e => .error e
   | .read => match heaps with
    | [] => .error "draw  no heap"
    | hh :: old => match zey (zcZ E (evT E.G tm) o hh) with
     | .ok v => bif zdz E (evT E.G tm) o v (old.take (old.length - lo)) then .ok (v,h,cur) else .error "draw  a read that hangs on the order"
     | .error e => .error e
   | .alloc => match zbL E (evT E.G tm) o.op with
    | some (elem,cs,av) => .ok (zmH av (base + i),h.set (base + i) (some (zjx elem cs av)),i :: cur)
    | none => .error "draw  alloc"
   | .touch j => match zoq E (evT E.G tm) all base j cur o.op with
    | some v => .ok (v,h,cur)
    | none => .error "draw  touch"
   | .eff => .error "draw  float"

def zcl (E : Env) (ih : K) (all : Array Oper) (nt base : Nat) (s : PStep) (ph : Ph) : Ex Ph := match all[s.i]? with
 | none => .error "draw  no operation"
 | some o => match zak all ph.tm o.guard with
  | none => .error "draw  guard"
  | some w => match w with
   | false => bif s.kind.isEff then .ok ⟨ph.h :: ph.heaps,zce ph.tm nt o.dst (.tuple #[]),ph.h,[]⟩ else .ok ⟨ph.heaps,zce ph.tm nt o.dst (.tuple #[]),ph.h,ph.cur⟩
   | true => bif s.kind.isEff then match zcZ E (evT E.G ph.tm) o ph.h with
     | .error e => .error e
     | .ok out => match callOut ih out with
      | .error e => .error e
      | .ok (v,h) => bif Nat.ble h.next lim then .ok ⟨h :: ph.heaps,zce ph.tm nt o.dst v,h,[]⟩ else .error "draw  too many names"
    else match zhA E all base s o ph with
     | .error e => .error e
     | .ok (v,h,cur) => .ok ⟨ph.heaps,zce ph.tm nt o.dst v,h,cur⟩

def zuC (ph : Ph) (k : Ph → Ex Ph) : Ex Ph := match ph with
 | ⟨heaps,tm,h,cur⟩ => tm.force fun tm => match h with
  | ⟨t,next⟩ => t.force fun t => zcQ next fun next => k ⟨heaps,tm,⟨t,next⟩,cur⟩

def zdD (E : Env) (ih : K) (all : Array Oper) (nt base : Nat) : List PStep → Ph → Ex Ph
 | [],ph => .ok ph
 | s :: r,ph => match zcl E ih all nt base s ph with
  | .error e => .error e
  | .ok ph => zuC ph (zdD E ih all nt base r)

def zgI (ih : K) (fx : Fx) (dst : Option Tmp) (tm : Tr Value) (ds : List Deferred) (out : SNext × SHeap) : Ex St := match out with
 | (x,h) => match x with
  | .value v => zgO v fun v => zgq (zce tm fx.nt dst v) h ds
  | .defer d => match fx.round with
   | none => zgq (zce tm fx.nt dst (.tuple #[])) h (d :: ds)
   | some _ => .error "defer in a round"
  | .recover => match fx.kind,fx.round with
   | .deferred,none => zgq (zce tm fx.nt dst .nilIface) h ds
   | _,_ => .error "recover  not deferred"
  | .enter g args => match ih (.call g args .normal) h with
   | .error e => .error e
   | .ok (v,h) => zgO v fun v => zgq (zce tm fx.nt dst v) h ds
  | .round l r args => match ih (.round l r args) h with
   | .error e => .error e
   | .ok (v,h) => zgO v fun v => zgq (zce tm fx.nt dst v) h ds

def opS (E : Env) (ih : K) (fx : Fx) (all : Array Oper) (o : Oper) (st : St) : Ex St := match o,st with
 | ⟨dst,op,ty,pos,after,guard⟩,⟨tm,h,ds⟩ => match zak all tm guard with
  | none => .error "guard"
  | some false => zgq (zce tm fx.nt dst (.tuple #[])) h ds
  | some true => match zaf op E (evT E.G tm) ⟨dst,op,ty,pos,after,guard⟩ h with
   | .error e => .error (pos ++ "  " ++ e)
   | .ok out => zgI ih fx dst tm ds out

def zeI (E : Env) (ih : K) (fx : Fx) (all : Array Oper) : List Oper → St → Ex St
 | [],st => .ok st
 | o :: r,st => match opS E ih fx all o st with
  | .error e => .error e
  | .ok st => zeI E ih fx all r st

def zev (r : Ex St) : RS := match r with
 | .ok st => .ok (.normal,st)
 | .error e => .error e

def zhc (E : Env) (ih : K) (fx : Fx) (ops : Array Oper) (st : St) : RS := match st with
 | ⟨tm,h,ds⟩ => match zdp E ops.toList with
  | none => .error ("draw  no plan  " ++ (match ops.toList with | o :: _ => o.pos | [] => ""))
  | some ⟨steps,m,res⟩ => bif Nat.ble (h.next + res) lim then match zdD E ih ops fx.nt h.next steps ⟨[⟨h.t,h.next + res⟩],tm,⟨h.t,h.next + res⟩,[]⟩ with
   | .error e => .error e
   | .ok ⟨_,tm,h,_⟩ => zev (zeI E ih fx ops (ops.toList.drop m) ⟨tm,h,ds⟩)
   else .error "draw  too many names"

def zoB (pend : Option Code) (r : Ex St) : RS := match pend with
 | none => zev r
 | some (.exit id) => match r with
  | .ok st => .ok (.exit id,st)
  | .error e => .error e
 | some .ret => match r with
  | .ok st => .ok (.ret,st)
  | .error e => .error e
 | _ => .error "endLoop  jump"

def zmq (st : St) (l : Nat) : RS := match st with
 | ⟨tm,h,ds⟩ => match h.t.get l with
  | some (.loop ⟨state,pend,a,b,c,d,e,f,g⟩) => match state with
   | .busy => .error "endLoop  busy"
   | _ => zoB pend (zgq tm (h.set l (some (.loop ⟨.exhausted,pend,a,b,c,d,e,f,g⟩))) ds)
  | _ => .error "endLoop"

def zlE (E : Env) (ih : K) (fx : Fx) (f : Fn) (first captured : Array Value) (params : Array Tmp) (assign body : Code) (tm : Tr Value) (h : SHeap) (ds mark : List Deferred) (dl : Nat) : RS :=
 match zdW E (.fn f captured) (first ++ #[.func (.yield h.next) #[] #[]]) (h.new (.loop ⟨.ready,none,fx.fn,tm,fx.nt,params,assign,body,dl⟩)) with
 | .ok (.enter g args,h') => match ih (.call g args .normal) h' with
  | .error e => .error e
  | .ok (_,h') => zmq ⟨tm,h',mark ++ ds⟩ h.next
 | .ok _ => .error "rangeFunc  call"
 | .error e => .error e

def zrZ (E : Env) (ih : K) (fx : Fx) (fop : Operand) (params : Array Tmp) (assign body : Code) (st : St) : RS := match st with
 | ⟨tm,h,ds⟩ => match evT E.G tm fop with
  | some (.func f first captured) => match fx.round with
   | none => zlE E ih fx f first captured params assign body tm (h.new (.deferred (some []))) ds [{ target := .collected h.next,args := #[] }] h.next
   | some l => match h.t.get l with
    | some (.loop r) => zlE E ih fx f first captured params assign body tm h ds [] r.defers
    | _ => .error "rangeFunc  round"
  | _ => .error "rangeFunc"

def zeX (f : St → RS) : Nat → St → RS
 | 0,_ => .error "fuel"
 | n + 1,st => match f st with
  | .error e => .error e
  | .ok (o,st) => match o with
   | .normal => zeX f n st
   | o => .ok (o,st)

def zfT (id : Nat) (r : RS) : RS := match r with
 | .error e => .error e
 | .ok (o,st) => match o with
  | .exit i => bif Nat.beq i id then .ok (.normal,st) else .ok (.exit i,st)
  | o => .ok (o,st)

def zjm (r : RS) (k : St → RS) : RS := match r with
 | .error e => .error e
 | .ok (o,st) => match o with
  | .normal => k st
  | o => .ok (o,st)

abbrev CD := Env → K → Fx → St → RS
def znv : CD := fun _ _ _ st => .ok (.normal,st)
def zoW (ops : Array Oper) (draw : Bool) : CD := match draw with
 | false => fun E ih fx st => zev (zeI E ih fx ops ops.toList st)
 | true => fun E ih fx st => zhc E ih fx ops st
def zxL (a b : CD) : CD := fun E ih fx st => zjm (a E ih fx st) (b E ih fx)
def zuA (c : Operand) (a b : CD) : CD := fun E ih fx st => match evT E.G st.tm c with
 | some (.bool t) => match t with | true => a E ih fx st | false => b E ih fx st
 | _ => .error "cond"
def zrM (id : Nat) (b : CD) : CD := fun E ih fx st => zfT id (b E ih fx st)
def zuL (b : CD) : CD := fun E ih fx st => zeX (b E ih fx) 1000000 st
def zDa (f : Operand) (ps : Array Tmp) (a b : Code) : CD := fun E ih fx st => zrZ E ih fx f ps a b st
def zup (id : Nat) : CD := fun _ _ _ st => .ok (.exit id,st)
def zyB : CD := fun _ _ _ st => .ok (.ret,st)
def zqp : CD := fun _ _ _ _ => .error "goto  refuse"

def zad : Code → CD
 | .skip => znv
 | .region _ ops d => zoW ops d
 | .seq a b => zxL (zad a) (zad b)
 | .cond c a b => zuA c (zad a) (zad b)
 | .block i b => zrM i (zad b)
 | .loop b => zuL (zad b)
 | .rangeFunc f ps a b => zDa f ps a b
 | .exit i => zup i
 | .scope b => zad b
 | .label _ => znv
 | .goto _ => zqp
 | .ret => zyB
 | .refuse _ => zqp

def zaV (E : Env) (tm : Tr Value) (h : SHeap) : List ResultVar → Ex (List Value)
 | [] => .ok []
 | r :: rs => match (match r with
   | .tmp t => zcT (tm.get t) "results  tmp"
   | .cell a t => match tm.get a with
    | some (.pointer (some ad)) => loadAt E h t ad
    | _ => .error "results  cell") with
  | .error e => .error e
  | .ok v => match zaV E tm h rs with
   | .error e => .error e
   | .ok vs => .ok (v :: vs)

def ziV : List Value → Value
 | [v] => v
 | vs => .tuple vs.toArray

def zfW (E : Env) (ih : K) : Nat → List Deferred → SHeap → Ex SHeap
 | 0,_,_ => .error "defers  fuel"
 | _ + 1,[],h => .ok h
 | n + 1,⟨tg,args⟩ :: ds,h => match tg with
  | .collected b => match h.t.get b with
   | some (.deferred (some calls)) => zfW E ih n (calls ++ ds) (h.set b (some (.deferred none)))
   | _ => .error "collected"
  | t => match zdW E t args h with
   | .ok (.enter g args,h) => match ih (.call g args .deferred) h with
    | .error e => .error e
    | .ok (_,h) => zfW E ih n ds h
   | .ok _ => .error "deferred call"
   | .error e => .error e

def zeO (E : Env) (ih : K) (fd : Func) (st : St) : Ex (Value × SHeap) := match st with
 | ⟨tm,h,ds⟩ => match zfW E ih 1000 ds h with
  | .error e => .error e
  | .ok h => match zaV E tm h fd.results.toList with
   | .ok vs => .ok (ziV vs,h)
   | .error e => .error e

def zgH (E : Env) (ih : K) (f : FuncId) (args : Array Value) (kind : CallKind) (h : SHeap) : Ex (Value × SHeap) :=
 match E.F f with
 | some fd => match fd.body with
  | some c => match zad c E ih ⟨f,max fd.ntmps args.size,kind,none⟩ ⟨Tr.ofL 33 args.toList,h,[]⟩ with
   | .error e => .error e
   | .ok (o,st) => match o with
    | .exit _ => .error "exit  no such block"
    | _ => zeO E ih fd st
  | none => .error "enter  body"
 | none => .error "enter"

def zkW (l : Nat) (h : SHeap) (jump : Option Code) : Ex (Value × SHeap) :=
 match h.t.get l with
 | some (.loop ⟨_,_,a,b,c,d,e,f,g⟩) => .ok (.bool jump.isNone,h.set l (some (.loop ⟨if jump.isNone then .ready else .done,jump,a,b,c,d,e,f,g⟩)))
 | _ => .error "endRound"

def zqR (l : Nat) (h : SHeap) : Ex SHeap := match h.t.get l with
 | some (.loop ⟨st,pend,a,b,c,d,e,f,g⟩) => match st with
  | .ready => .ok (h.set l (some (.loop ⟨.busy,pend,a,b,c,d,e,f,g⟩)))
  | _ => .error "beginRound  state"
 | _ => .error "beginRound"

def zHu : Out → Option Code
 | .normal => none
 | .exit id => some (.exit id)
 | .ret => some .ret

def zrX (E : Env) (ih : K) (l : Nat) (r : SLoop) (args : Array Value) (h : SHeap) : Ex (Value × SHeap) := match r with
 | ⟨_,_,fn,tm,nt,params,assign,body,_⟩ =>
  match ziE tm nt (params.toList.zip args.toList) with
  | none => .error "yield  tmps"
  | some tm => match zad assign E ih ⟨fn,nt,.normal,some l⟩ ⟨tm,h,[]⟩ with
   | .ok (.normal,⟨tm,h,[]⟩) => match zqR l h with
    | .error e => .error e
    | .ok h => match zad body E ih ⟨fn,nt,.normal,some l⟩ ⟨tm,h,[]⟩ with
     | .ok (o,⟨_,h,[]⟩) => zkW l h (zHu o)
     | .ok _ => .error "round  defers"
     | .error e => .error e
   | .ok _ => .error "round  assign"
   | .error e => .error e

def zih (E : Env) (ih : K) : K := fun q h => match q with
 | .call f args kind => match kind with
  | .normal => match E.O f with
   | some g => g args.toList h
   | none => zgH E ih f args .normal h
  | kind => zgH E ih f args kind h
 | .round l r args => zrX E ih l r args h

def run (E : Env) : Nat → K
 | 0 => fun _ _ => .error "fuel"
 | n + 1 => zih E (run E n)

end Go.Sim

/- A simulator of the model's machine over a heap of its own: definitions. -/
import GoSem.Step
set_option linter.unusedVariables false
set_option linter.unusedSimpArgs false
namespace Go.Sim
noncomputable section
inductive Tr (α:Type) where
 | nil
 | node (l:Tr α) (v:Option α) (r:Tr α)
 deriving Inhabited
noncomputable def Tr.get' {α:Type} (t:Tr α) (p:List Bool):Option α:=@List.rec _ (fun _=>Tr α→Option α) (fun t=>@Tr.rec _ (fun _=>Option α) none (fun _ v _ _ _=>v) t) (fun b _ ih t=>@Tr.rec _ (fun _=>Option α) none (fun l _ r _ _=>@Bool.rec (fun _=>Option α) (ih r) (ih l) b) t) p t
noncomputable def Tr.force {α β:Type} (t:Tr α) (k:Tr α→β):β:=@Tr.rec _ (fun _=>β) (k .nil) (fun l v r _ _=>k (.node l v r)) t
noncomputable def zci {β:Type} (n:Nat) (k:Nat→β):β:=@Nat.rec (fun _=>β) (k 0) (fun m _=>k (Nat.succ m)) n
def zdp {β:Type} (n:Int) (k:Int→β):β:=match n with
 | .ofNat m=>zci m fun m=>k (.ofNat m)
 | .negSucc m=>zci m fun m=>k (.negSucc m)
def zfP {β:Type} (v:Value) (k:Value→β):β:=match v with
 | .int kd n=>zdp n fun n=>k (.int kd n)
 | .bool b=>match b with | true=>k (.bool true) | false=>k (.bool false)
 | .pointer a=>match a with
  | none=>k (.pointer none)
  | some ⟨b,o,s⟩=>zci b fun b=>zci o fun o=>k (.pointer (some ⟨b,o,s⟩))
 | .slice a l c=>zci l fun l=>zci c fun c=>match a with
  | none=>k (.slice none l c)
  | some ⟨b,o,s⟩=>zci b fun b=>zci o fun o=>k (.slice (some ⟨b,o,s⟩) l c)
 | .complex f a b=>zci a fun a=>zci b fun b=>k (.complex f a b)
 | v=>k v
noncomputable def Tr.put' {α:Type} (x:Option α) (p:List Bool) (t:Tr α):Tr α:=@List.rec _ (fun _=>Tr α→Tr α) (fun t=>@Tr.rec _ (fun _=>Tr α) (.node .nil x .nil) (fun l _ r _ _=>.node l x r) t) (fun b _ ih t=>@Tr.rec _ (fun _=>Tr α) (@Bool.rec (fun _=>Tr α) ((ih .nil).force fun t=>.node .nil none t) ((ih .nil).force fun t=>.node t none .nil) b) (fun l v r _ _=>@Bool.rec (fun _=>Tr α) ((ih r).force fun t=>.node l v t) ((ih l).force fun t=>.node t v r) b) t) p t
def zcx:Nat→Nat→List Bool
 | 0,_=>[]
 | _+1,0=>[]
 | f+1,n+1=>Nat.beq ((n+1)%2) 1::zcx f ((n+1)/2)
def lim:Nat:=4294967296
def Tr.get {α:Type} (t:Tr α) (n:Nat):Option α:=bif Nat.blt n lim then t.get' (zcx 32 n) else none
def Tr.put {α:Type} (t:Tr α) (n:Nat) (x:Option α):Tr α:=bif Nat.blt n lim then t.put' x (zcx 32 n) else t
def Tr.toListFrom {α:Type} (t:Tr α):Nat→Nat→Option (List α)
 | _,0=>some []
 | i,n+1=>match t.get i with
  | none=>none
  | some x=>match zci (i+1) fun i=>Tr.toListFrom t i n with
   | none=>none
   | some xs=>some (x::xs)
def split {α:Type}:List α→List α×List α
 | []=>([],[])
 | [x]=>([x],[])
 | x::y::r=>match split r with
  | (a,b)=>(x::a,y::b)
def Tr.ofL {α:Type}:Nat→List α→Tr α
 | 0,_=>.nil
 | _+1,[]=>.nil
 | f+1,x::xs=>match xs with
  | []=>.node .nil (some x) .nil
  | y::ys=>match split (y::ys) with
   | (o,e)=>(Tr.ofL f o).force fun l=>match e with
    | []=>.node l (some x) .nil
    | _::_=>(Tr.ofL f (x::e)).force fun r=>.node l (some x) r
def merge {α:Type}:List α→List α→List α
 | [],b=>b
 | x::a,[]=>x::a
 | x::a,y::b=>x::y::merge a b
def Tr.toL {α:Type}:Nat→Tr α→Nat→Option (List α)
 | 0,_,_=>none
 | f+1,t,n=>match n with
  | 0=>some []
  | m+1=>match t with
   | .nil=>none
   | .node l v r=>match v with
    | none=>none
    | some x=>match m with
     | 0=>some [x]
     | k+1=>match Tr.toL f l (k/2+1) with
      | none=>none
      | some o=>match k with
       | 0=>some (x::o)
       | j+1=>match Tr.toL f r (j/2+2) with
        | some (_::e)=>some (x::merge o e)
        | _=>none
structure TI where
 desc:TypeDesc
 size:Nat
 bytes:Nat
 zero:Option Value
 deriving Inhabited
def TI.agg (t:TI):Bool:=match t.desc with | .struct _ | .array _ _=>true | _=>false
structure SLoop where
 state:LoopState
 pending:Option Code
 fn:FuncId
 tm:Tr Value
 nt:Nat
 params:Array Tmp
 assign:Code
 body:Code
 defers:Nat
 deriving Inhabited
inductive SObj where
 | cells (c:Tr Value) (n:Nat) (elem:TypeId) (opn:Bool) (ro:Bool)
 | far (c:Tr Value) (n:Nat) (off:Nat)
 | map (es:Array MapEntry) (clock:Nat)
 | loop (l:SLoop)
 | deferred (ds:Option (List Deferred))
 | iter (m since:Nat) (seen:List Nat) (last:Nat)
 | sent (v:Value)
 deriving Inhabited
structure SHeap where
 t:Tr SObj
 next:Nat
 deriving Inhabited
def SHeap.new (h:SHeap) (o:SObj):SHeap:={ t:=h.t.put h.next (some o),next:=h.next+1 }
def SHeap.set (h:SHeap) (b:Nat) (o:Option SObj):SHeap:={ h with t:=h.t.put b o }
def openCap:Nat:=1180591620717411303424
def looseCap:Nat:=1180591620717411303425
/-! ## numbers that hang on two unknown ones: they stand as '.complex'; a,b,c for a + b x + c y -/
structure SyF where
 k:IntKind
 a:Int
 b:Int
 c:Int
def zCA:Nat:=49
def zAF:Nat:=49
def zxy:Nat:=1
def zbH (κ:Nat):Bool:=Nat.ble (κ%128) zCA&&Nat.ble zxy (κ/128)&&Nat.ble (κ/128) zAF
def zrT:IntKind→Option Nat
 | .i64=>some 0
 | .u8=>some 1
 | _=>none
def zDa (n:Nat):IntKind:=bif Nat.beq n 0 then .i64 else .u8
def zdy (re im:Nat):SyF:=⟨zDa (re%2),Int.subNatNat (re/2) 1180591620717411303424,Int.subNatNat (im%1099511627776) 549755813888,Int.subNatNat (im/1099511627776) 549755813888⟩
def SyF.ev (f:SyF) (κ:Nat):Int:=f.a+f.b*Int.ofNat (κ%128)+f.c*Int.ofNat (κ/128)
def ztM (b:Int) (lo hi:Nat):Int:=match b with
 | .ofNat n=>.ofNat (n*lo)
 | .negSucc n => -.ofNat ((n+1)*hi)
def zur (b:Int) (lo hi:Nat):Int:=match b with
 | .ofNat n=>.ofNat (n*hi)
 | .negSucc n => -.ofNat ((n+1)*lo)
def SyF.lo (f:SyF):Int:=f.a+ztM f.b 0 zCA+ztM f.c zxy zAF
def SyF.hi (f:SyF):Int:=f.a+zur f.b 0 zCA+zur f.c zxy zAF
def zhC (k:IntKind) (lo hi:Int):Bool:=match k with
 | .i64=>decide (-9223372036854775808≤lo)&&decide (hi≤9223372036854775807)
 | .u8=>decide (0≤lo)&&decide (hi≤255)
 | _=>false
def zlS (b m:Int):Option Nat:=bif decide (-m<b)&&decide (b<m) then (match b+m with | .ofNat n=>some n | .negSucc _=>none) else none
def SyF.val (f:SyF):Option Value:=bif zhC f.k f.lo f.hi then
  bif f.b==0&&f.c==0 then some (.int f.k f.a) else
  match zrT f.k,zlS f.a 1180591620717411303424,zlS f.b 549755813888,zlS f.c 549755813888 with
  | some k,some a,some b,some c=>zci (a*2+k) fun re=>zci (b+c*1099511627776) fun im=>some (.complex .f64 re im)
  | _,_,_,_=>none
 else none
def zeX:Value→Option SyF
 | .int k n=>some ⟨k,n,0,0⟩
 | .complex .f64 re im=>some (zdy re im)
 | _=>none
def zey:Value→Bool
 | .complex _ _ _=>true
 | _=>false
def SyF.sub (f g:SyF):SyF:=⟨f.k,f.a-g.a,f.b-g.b,f.c-g.c⟩
def SyF.neg? (f:SyF):Option Bool:=bif decide (f.hi<0) then some true else bif decide (0≤f.lo) then some false else none
def zne:Option Bool→Option Value
 | some b=>some (.bool b)
 | none=>none
def zux:Option Bool→Option Bool
 | some b=>some (bif b then false else true)
 | none=>none
def SyF.lt (f g:SyF):Option Bool:=(f.sub g).neg?
def zgt (f:SyF):Bool:=f.b==0&&f.c==0
def ztl (a:Int) (m:Nat):Option Int:=bif a % .ofNat m==0 then some (a / .ofNat m) else none
def zyL (f:SyF) (n:Nat):Option Value:=bif Nat.ble n 62&&decide (f.k=.i64)&&decide (0≤f.lo) then
  bif decide (f.hi < .ofNat (2^n)) then some (.int .i64 0) else
  match ztl f.a (2^n),ztl f.b (2^n),ztl f.c (2^n) with
  | some a,some b,some c=>SyF.val ⟨.i64,a,b,c⟩
  | _,_,_=>none
 else none
def zyI (f:SyF) (n:Nat):Option Value:=bif Nat.ble n 62&&decide (f.k=.i64)&&decide (0≤f.lo) then SyF.val ⟨.i64,f.a * .ofNat (2^n),f.b * .ofNat (2^n),f.c * .ofNat (2^n)⟩ else none
def zgY (f g:SyF) (v:Option Value):Option Value:=bif decide (f.k=g.k) then v else none
def zlK (op:BinOp) (f g:SyF):Option Value:=match op with
 | .add=>zgY f g (SyF.val ⟨f.k,f.a+g.a,f.b+g.b,f.c+g.c⟩)
 | .sub=>zgY f g (SyF.val (f.sub g))
 | .mul=>zgY f g (bif zgt f then SyF.val ⟨g.k,g.a*f.a,g.b*f.a,g.c*f.a⟩ else none)
 | .lss=>zgY f g (zne (f.lt g))
 | .gtr=>zgY f g (zne (g.lt f))
 | .geq=>zgY f g (zne (zux (f.lt g)))
 | .leq=>zgY f g (zne (zux (g.lt f)))
 | .and=>zgY f g (bif zgt g&&g.a==255&&decide (0≤f.lo)&&decide (f.hi≤255) then f.val else none)
 | .or=>zgY f g (bif zgt f&&f.a==0&&decide (0≤g.lo) then g.val else bif zgt g&&g.a==0&&decide (0≤f.lo) then f.val else none)
 | .shr=>match zgt g,g.a with
  | true,.ofNat n=>zyL f n
  | _,_=>none
 | .shl=>match zgt g,g.a with
  | true,.ofNat n=>zyI f n
  | _,_=>none
 | _=>none
/-! an argument: any number t; as it came (0),or masked (1); its rest by 50 is x (0),y (1),or 0 (2) -/
def zhD (m:Int):Int:=IntKind.i64.wrap (Int.ofNat ((BitVec.ofInt 64 m &&& BitVec.ofInt 64 4611686018427387903).toNat))
def zex (κ t:Nat):Int:=match t with
 | 0=>Int.ofNat (κ%128)
 | 1=>Int.ofNat (κ/128)
 | _=>0
def zDc (κ t s:Nat) (m:Int):Prop:=(s=0∧zhD m%50=zex κ t)∨(s=1∧0≤m∧m%50=zex κ t)
/-! a sum (t = 10,11) over bytes some of which hang on the unknown numbers; its bytes,and what they are put together to -/
def fnv (l:List Nat):Nat:=l.foldl (fun s c=>Nat.xor s c*16777619%4294967296) 2166136261
def evN (κ:Nat) (v:Value):Nat:=match v with
 | .int _ n=>n.toNat
 | .complex .f64 re im=>((zdy re im).ev κ).toNat
 | _=>0
def bts (l:List Nat):List Value:=l.map fun n=>.int .u8 (.ofNat n)
def bX:Value:=.complex .f64 2361183241434822606849 604462909807864343166978
def bY:Value:=.complex .f64 2361183241434822606849 604462909810063366422528
def zdD (t:Nat):List Value:=bts [87,80,75,49,1,4,0,0,0,0,0,0,4,32,0,0,183,0,0,0]++bX::bts [0,0,0,7,0,0,0]++(match t with | 10=>.int .u8 0 | _=>bY)::bts [0,0,0,85,0,254,255,209,7,0,0,149,0,0,0,0,0,0,0]
def zft (κ t:Nat):Nat:=fnv ((zdD t).map (evN κ))
def zeR (H s:Nat) (k:IntKind) (m:Int):Prop:=
 (k=.i64∧((s=0∧m=.ofNat H)∨(s=1∧m=.ofNat (H/256))∨(s=2∧m=.ofNat (H/65536))∨(s=3∧m=.ofNat (H/16777216)) ∨
  (s=5∧m=.ofNat (H%256))∨(s=6∧m=.ofNat (H/256%256))∨(s=7∧m=.ofNat (H/65536%256))∨(s=8∧m=.ofNat (H/16777216%256)) ∨
  (s=31∧m=.ofNat (H/256*256))∨(s=32∧m=.ofNat (H/65536*256))∨(s=33∧m=.ofNat (H/16777216*256)))) ∨
 (k=.u8∧((s=10∧m=.ofNat (H%256))∨(s=11∧m=.ofNat (H/256%256))∨(s=12∧m=.ofNat (H/65536%256))∨(s=13∧m=.ofNat (H/16777216%256)))) ∨
 (k=.u32∧s=40∧m=.ofNat H)
def zts (κ t s:Nat) (k:IntKind) (m:Int):Prop:=(t<10∧k=.i64∧zDc κ t s m)∨(10≤t∧zeR (zft κ t) s k m)
def zkI:IntKind→Bool
 | .i64=>true
 | _=>false
def zvo (op:BinOp) (s:Nat) (l:IntKind) (m:Int):Option Nat:=match op with
 | .rem=>bif zkI l&&m==256&&Nat.blt s 4 then some (s+5) else none
 | .quo=>bif zkI l&&m==256&&Nat.blt s 3 then some (s+1) else none
 | .shl=>bif m==8&&Nat.blt 0 s&&Nat.blt s 4 then some (s+30) else none
 | _=>none
def zyU (s r:Nat):Option Nat:=bif Nat.beq s 33&&Nat.beq r 7 then some 2 else bif Nat.beq s 32&&Nat.beq r 6 then some 1 else bif Nat.beq s 31&&Nat.beq r 5 then some 0 else none
def zoM (op:BinOp) (a b:Value):Option Value:=match a,b with
 | .complex .f32 t s,.int l m=>bif Nat.ble 10 t then (match zvo op s l m with
   | some r=>some (.complex .f32 t r)
   | none=>match op with
    | .quo=>bif zkI l&&m==256&&Nat.beq s 3 then some (.int .i64 0) else none
    | _=>none) else none
 | .int .i64 m,.complex .f32 t s=>match op with
   | .or=>bif Nat.ble 10 t&&m==0&&Nat.beq s 8 then some (.complex .f32 t 3) else none
   | _=>none
 | .complex .f32 t s,.complex .f32 u r=>bif Nat.ble 10 t&&Nat.beq t u then (match op with
   | .or=>(match zyU s r with
    | some q=>some (.complex .f32 t q)
    | none=>none)
   | .neq=>bif Nat.beq s 0&&Nat.beq r 0 then some (.bool false) else none
   | _=>none) else none
 | _,_=>none
def znP (k:IntKind) (v:Value):Option Value:=match v with
 | .complex .f32 t s=>bif Nat.ble 10 t then (match k with
   | .u8=>bif Nat.ble 5 s&&Nat.ble s 8 then some (.complex .f32 t (s+5)) else none
   | .i64=>bif Nat.ble 10 s&&Nat.ble s 13 then some (.complex .f32 t (s-5)) else bif Nat.beq s 40 then some (.complex .f32 t 0) else none
   | _=>none) else none
 | _=>none
def zzp (t:Nat):Option Value:=match t with
 | 0=>SyF.val ⟨.i64,0,1,0⟩
 | 1=>SyF.val ⟨.i64,0,0,1⟩
 | _=>some (.int .i64 0)
def zwO (op:BinOp) (a b:Value):Option Value:=match op,a,b with
 | .and,.complex .f32 t s,.int .i64 m=>bif Nat.blt t 10&&Nat.beq s 0&&m==4611686018427387903 then some (.complex .f32 t 1) else none
 | .rem,.complex .f32 t s,.int .i64 m=>bif Nat.blt t 10&&Nat.beq s 1&&m==50 then zzp t else zoM .rem (.complex .f32 t s) (.int .i64 m)
 | op,a,b=>zoM op a b
def zDh (op:BinOp) (a b:Value):Option Value:=match zeX a,zeX b with
 | some f,some g=>zlK op f g
 | _,_=>zwO op a b
def zpU (k:IntKind) (v:Value):Option Value:=match zeX v with
 | some f=>SyF.val ⟨k,f.a,f.b,f.c⟩
 | none=>znP k v
def zqZ (mx:Bool) (a b:Value):Option Value:=match zeX a,zeX b with
 | some f,some g=>bif decide (f.k=g.k) then (match (bif mx then f.lt g else g.lt f) with
  | some true=>g.val
  | some false=>f.val
  | none=>none) else none
 | _,_=>none
def zaP:Nat→Value→Bool
 | 0,_=>false
 | n+1,v=>match v with
  | .bool _ | .int _ _ | .string _ | .nilFunc | .nilIface | .float _ _=>true
  | .pointer none | .map none | .chan none=>true
  | .slice none _ c=>Nat.blt c openCap
  | .iface _ v=>zaP n v
  | .agg cs=>cs.toList.all (zaP n)
  | .tuple cs=>cs.toList.all (zaP n)
  | .func (.yield _) _ _=>false
  | .func _ f c=>f.toList.all (zaP n)&&c.toList.all (zaP n)
  | _=>false
def zgB {α:Type} (P:Program):Sem α→Option α
 | .pure a=>some a
 | .program k=>zgB P (k P)
 | _=>none
inductive SNext where
 | value (v:Value)
 | enter (f:FuncId) (args:Array Value)
 | round (l:Nat) (r:SLoop) (args:Array Value)
 | defer (d:Deferred)
 | recover
 deriving Inhabited
inductive Ext where
 | same
 | makeNoZero (elem:TypeId)
 | fn (g:List Value→SHeap→Option (Value×SHeap))
inductive CK where
 | int (k:IntKind)
 | bool
 | str
abbrev OF:=List Value→SHeap→Except String (Value×SHeap)
abbrev OT:=Nat→Option OF
structure Env where
 P:Program
 T:Nat→Option TI
 F:Nat→Option Func
 X:Nat→Option Ext
 lies:TypeId→Nat→Nat→TypeId→Bool
 bytesLie:TypeId→TypeId→Bool
 eqT:TypeId→Option (List CK)
 keyT:TypeId→Bool
 M:TypeId→String→Option (FuncId×Bool)
 A:TypeId→TypeId→Option Bool
 Q:TypeId→Option TypeId
 G:Nat
 O:OT
abbrev Ex (α:Type):=Except String α
def zcM {α:Type} (o:Option α) (m:String):Ex α:=match o with | some a=>.ok a | none=>.error m
def range (c:Tr Value) (n off len:Nat):Option (List Value):=
 bif Nat.ble len 12 then c.toListFrom off len else
 match c.toL 32 n with
 | none=>c.toListFrom off len
 | some l=>bif Nat.ble (off+len) n&&Nat.ble n lim then some ((l.drop off).take len) else none
def zfY:Value→Bool
 | .agg _ | .tuple _=>false
 | _=>true
def zcR:List Value→Bool
 | []=>true
 | v::r=>zfY v&&zcR r
def loadAt (E:Env) (h:SHeap) (t:TypeId) (a:Addr):Ex Value:=
 match E.T t,h.t.get a.block with
 | some ti,some (.cells c n _ _ _)=>
  if ti.agg then match range c n a.off ti.size with
   | some l=>.ok (.agg l.toArray)
   | none=>.error "load  cells"
  else match c.get a.off with
   | some v=>.ok v
   | none=>.error "load  cell"
 | some ti,some (.far c n off)=>
  bif Nat.ble off a.off then
   if ti.agg then match range c n (a.off-off) ti.size with
    | some l=>.ok (.agg l.toArray)
    | none=>.error "load  cells"
   else match c.get (a.off-off) with
    | some v=>.ok v
    | none=>.error "load  cell"
  else .error "load  ahead"
 | none,_=>.error "load  type"
 | _,_=>.error "load  no block"
def zcC (c:Tr Value) (n:Nat):Nat→List Value→Option (Tr Value)
 | _,[]=>some c
 | i,v::vs=>match v with
  | .agg _ | .tuple _=>none
  | _=>bif Nat.blt i n then (c.put i (some v)).force fun c=>zci (i+1) fun i=>zcC c n i vs else none
def zcL (c:Tr Value) (n off:Nat) (vs:List Value):Option (Tr Value):=
 bif Nat.ble vs.length 12 then zcC c n off vs else
 bif zcR vs&&Nat.ble (off+vs.length) n&&Nat.ble n lim then
  bif Nat.beq off 0&&Nat.beq vs.length n then some (Tr.ofL 33 vs) else
  match c.toL 32 n with
  | none=>zcC c n off vs
  | some l=>some (Tr.ofL 33 (l.take off++vs++l.drop (off+vs.length)))
 else none
def storeAt (E:Env) (h:SHeap) (t:TypeId) (a:Addr) (v:Value):Ex SHeap:=
 match E.T t,h.t.get a.block with
 | some ti,some (.cells c n e o false)=>
  if v.cells.size≠ti.size then .error "store  size" else
  match zcL c n a.off v.cells.toList with
  | some c=>.ok (h.set a.block (some (.cells c n e o false)))
  | none=>.error "store  cells"
 | none,_=>.error "store  type"
 | _,some (.cells _ _ _ _ true)=>.error "store  read only"
 | _,_=>.error "store  no block"
def zai (h:SHeap) (elem:TypeId) (cs:List Value) (opn:Bool):SHeap:=
 h.new (.cells (Tr.ofL 33 cs) cs.length elem opn false)
def znc (E:Env) (f:FuncId) (args:Array Value) (h:SHeap):Ex (SNext×SHeap):=
 match E.X f with
 | some .same=>match args.toList with
  | [x]=>.ok (.value x,h)
  | _=>.error "noEscape"
 | some (.makeNoZero elem)=>match args.toList with
  | [.int .i64 (.ofNat n)]=>if n>2^40 then .error "makeNoZero" else .ok (.value (.slice (some ⟨h.next,0,none⟩) n openCap),zai h elem [] true)
  | _=>.error "makeNoZero"
 | some (.fn g)=>match g args.toList h with
  | some (v,h)=>.ok (.value v,h)
  | none=>.error "outside function"
 | none=>match E.F f with
  | some fn=>match fn.body with
   | some _=>.ok (.enter f args,h)
   | none=>.error ("no body  " ++ fn.name)
  | none=>.error "no function"
def zej (E:Env) (t:Target) (args:Array Value) (h:SHeap):Ex (SNext×SHeap):=
 match t with
 | .fn (.func f) captured=>znc E f (args++captured) h
 | .fn (.yield l) _=>match h.t.get l with
  | some (.loop r)=>bif Nat.beq args.size r.params.size then .ok (.round l r args,h) else .error "yield  args"
  | _=>.error "yield  no loop"
 | .fn (.method name) _=>.error ("method " ++ name)
 | .fn (.methodOf _ name) _=>.error ("methodOf " ++ name)
 | .fn (.via ..) _=>.error "via"
 | _=>.error "invoke"
def zqp (E:Env) (name:String) (recv:Option Value) (args:Option (List Value)) (h:SHeap):Ex (SNext×SHeap):=match recv,args with
 | some (.iface t v),some args=>match E.M t name with
  | some (f,false)=>znc E f (#[v]++args.toArray) h
  | some (f,true)=>match v with
   | .agg cs=>match cs.toList with
    | [x]=>znc E f (#[x]++args.toArray) h
    | _=>.error "invoke  parts"
   | _=>.error "invoke  held"
  | none=>.error ("invoke  no such method " ++ name)
 | _,_=>.error "invoke  receiver"
def zbe (a:Addr) (n:Nat):Addr:=if n=0 then a else { a with off:=a.off+n,spot:=none }
def zfC:Value→Option Nat
 | .int _ (.ofNat n)=>some n
 | _=>none
def zhW (E:Env) (h:SHeap) (size n:Nat):Value→Ex (List Value)
 | .slice (some a) _ _=>match h.t.get a.block with
  | some (.cells c _ _ _ _)=>zcM (c.toListFrom a.off (n*size)) "append  source cells"
  | some (.far c _ off)=>bif Nat.ble off a.off then zcM (c.toListFrom (a.off-off) (n*size)) "append  source cells" else .error "append  source ahead"
  | _=>.error "append  source block"
 | .slice none _ _=>.ok []
 | .string s=>.ok ((s.extract 0 n).data.toList.map fun b=>.int .u8 b.toNat)
 | _=>.error "append  source"
def zkT:Value→Option Nat
 | .slice _ n _=>some n
 | .string s=>some s.size
 | _=>none
def zkM (E:Env):List TypeId→Bool
 | []=>false
 | xt::_=>match E.T xt with
  | some xi=>match xi.desc with
   | .int _=>false
   | _=>true
  | none=>false
def zpJ (h:SHeap) (b:Nat) (cs:Tr Value) (m elem size sLen n:Nat) (new:List Value):Ex (Value×SHeap):=match zcC cs m (sLen*size) new with
 | some cs'=>.ok (.slice (some ⟨b,0,none⟩) (sLen+n) openCap,h.set b (some (.cells cs' m elem true false)))
 | none=>.error "append  cells"
def zku (h:SHeap) (elem size sLen n:Nat) (new:List Value):Option Addr→Ex (Value×SHeap)
 | none=>.error "append  open nil"
 | some ⟨b,off,_⟩=>match h.t.get b with
  | some (.cells cs m el true false)=>
   bif Nat.beq off 0&&Nat.beq el elem&&Nat.beq m (sLen*size) then
    match zcC cs (m+new.length) m new with
    | some cs'=>.ok (.slice (some ⟨h.next,0,none⟩) (sLen+n) openCap,(h.set b none).new (.cells cs' (m+new.length) elem true false))
    | none=>.error "append  cells"
   else bif Nat.beq off 0&&Nat.beq el elem&&Nat.ble ((sLen+n)*size) m&&Nat.blt 0 size then zpJ h b cs m elem size sLen n new else .error "append  open  not at its end"
  | _=>.error "append  open block"
def zoN (E:Env) (h:SHeap) (elem size:Nat) (base:Option Addr) (sLen sCap n:Nat) (new:List Value):Ex (Value×SHeap):=
 match zhW E h size sLen (.slice base sLen sCap) with
 | .error e=>.error e
 | .ok old=>bif Nat.beq old.length (sLen*size) then .ok (.slice (some ⟨h.next,0,none⟩) (sLen+n) openCap,zai h elem (old++new) true) else .error "append  old"
def zkG (E:Env) (h:SHeap) (elem size bytes:Nat) (base:Option Addr) (sLen sCap n:Nat) (new:List Value):Ex (Value×SHeap):=
 bif Nat.beq new.length (n*size)&&Nat.ble ((sLen+n)*(bytes+1)) 70368744177664 then
  bif Nat.beq sCap openCap then zku h elem size sLen n new base
  else bif Nat.blt sCap openCap then
   bif Nat.ble (sLen+n) sCap then bif Nat.beq n 0 then .ok (.slice base (sLen+n) sCap,h) else .error "append  within"
   else zoN E h elem size base sLen sCap n new
  else .error "append  loose"
 else .error "append  size"
def zgf (E:Env) (c:Call) (args:List Value) (h:SHeap):Ex (Value×SHeap):=
 match args,c.argTypes.toList with
 | [.slice base sLen sCap,x],st::rest=>bif zkM E rest then match E.T st with
  | some ⟨.slice elem,_,_,_⟩=>match E.T elem,zkT x with
   | some ⟨_,size,bytes,some _⟩,some n=>match zhW E h size n x with
    | .error e=>.error e
    | .ok new=>zkG E h elem size bytes base sLen sCap n new
   | _,_=>.error "append  elem or arg"
  | _=>.error "append  type" else .error "append  make form"
 | _,_=>.error "append  args"
def zeT:Option (Option Value)→Option (Option Nat)
 | none=>some none
 | some none=>none
 | some (some v)=>match zfC v with | some n=>some (some n) | none=>none
def zgi (E:Env) (a:Option Addr) (len cap:Nat) (elem:TypeId) (lo hi mx:Option Nat):Ex Value:=
 match E.T elem with
 | none=>.error "slice  elem"
 | some ei=>match mx with
  | some m=>match hi with
   | none=>.error "slice  form"
   | some hh=>if m>cap||hh>m||lo.getD 0>hh||m≥openCap||(openCap≤cap&&(m>len||a.isNone)) then .error "slice  bounds" else
    if m=lo.getD 0 then .ok (.slice a (hh-lo.getD 0) (m-lo.getD 0)) else .ok (.slice (a.map (zbe · (lo.getD 0*ei.size))) (hh-lo.getD 0) (m-lo.getD 0))
  | none=>
   if openCap≤cap then
    if hi.getD len>len||lo.getD 0>hi.getD len then .error "slice  open bounds" else
    if lo.getD 0=0 then .ok (.slice a (hi.getD len) cap) else
    if lo.getD 0<hi.getD len then .ok (.slice (a.map (zbe · (lo.getD 0*ei.size))) (hi.getD len-lo.getD 0) looseCap) else .ok (.slice none 0 looseCap)
   else
    if hi.getD len>cap||lo.getD 0>hi.getD len then .error "slice  bounds" else
    if cap=lo.getD 0 then .ok (.slice a (hi.getD len-lo.getD 0) (cap-lo.getD 0)) else .ok (.slice (a.map (zbe · (lo.getD 0*ei.size))) (hi.getD len-lo.getD 0) (cap-lo.getD 0))
def ztj (E:Env) (t:TypeId) (x:Value) (lo hi mx:Option (Option Value)):Ex Value:=
 match zeT lo,zeT hi,zeT mx with
 | some lo,some hi,some mx=>
  match E.T t,x with
  | some { desc:=.array n elem,.. },.pointer (some a)=>bif Nat.blt n openCap then zgi E (some a) n n elem lo hi mx else .error "slice  array"
  | some { desc:=.slice elem,.. },.slice a len cap=>zgi E a len cap elem lo hi mx
  | some { desc:=.pointer arr,.. },.pointer (some a)=>match E.T arr with
   | some { desc:=.array n elem,.. }=>bif Nat.blt n openCap then zgi E (some a) n n elem lo hi mx else .error "slice  array"
   | _=>.error "slice  array"
  | _,_=>.error "slice  kind"
 | _,_,_=>.error "slice  bound"
def zoq (E:Env) (t:TypeId) (cs:Array Value) (off:Nat):Ex Value:=
 match E.T t with
 | some ti=>if ti.agg then .ok (.agg (cs.extract off (off+ti.size))) else zcM cs[off]? "part"
 | none=>.error "part  type"
def zsg (ti:Option TI):Bool:=match ti with
 | some ti=>bif Nat.beq ti.size 0 then false else true
 | none=>false
def zwx (E:Env) (d:TypeDesc) (a b:Value):Option Bool:=match d,a,b with
 | .pointer _,.pointer none,.pointer b=>some b.isNone
 | .pointer _,.pointer (some _),.pointer none=>some false
 | .pointer e,.pointer (some a),.pointer (some b)=>bif Nat.beq a.block b.block&&zsg (E.T e) then some (Nat.beq a.off b.off) else none
 | .slice _,.slice none _ c,.slice b _ d=>if openCap≤c then none else if b.isNone&&openCap≤d then none else some b.isNone
 | .slice _,.slice (some _) _ _,.slice none _ d=>if openCap≤d then none else some false
 | .map _ _,.map none,.map b=>some b.isNone
 | .map _ _,.map (some _),.map none=>some false
 | .func _ _ _,.nilFunc,.nilFunc=>some true
 | .func _ _ _,.nilFunc,.func _ _ _=>some false
 | .func _ _ _,.func _ _ _,.nilFunc=>some false
 | .interface _,.nilIface,.iface _ _=>some false
 | .interface _,.iface _ _,.nilIface=>some false
 | _,_,_=>none
def zcN:List Value→Option (List UInt8)
 | []=>some []
 | .int .u8 n::r=>match zcN r with
  | some l=>some (UInt8.ofNat n.toNat::l)
  | none=>none
 | _::_=>none
def zgW (place:Nat→Option (Nat×Nat)) (n:Nat) (cells:List Value):List (Nat×Value)→Option (List Value)
 | []=>some cells
 | (i,v)::rest=>match place i with
  | none=>none
  | some (off,size)=>match v.cells.toList with
   | vs=>bif Nat.beq vs.length size&&Nat.ble (off+size) n then
     bif Nat.beq off 0&&Nat.beq size n then zgW place n vs rest else zgW place n (cells.take off++vs++cells.drop (off+size)) rest
    else none
abbrev R:=Ex (SNext×SHeap)
abbrev Ev:=Operand→Option Value
def zal (v:Value) (h:SHeap):R:=.ok (.value v,h)
def zak (v:Option Value) (h:SHeap):R:=match v with
 | some v=>zal v h
 | none=>.error "move"
def zjq (elem:TypeId) (cs:List Value) (h:SHeap):R:=.ok (.value (.pointer (some ⟨h.next,0,none⟩)),zai h elem cs false)
def zgL (ti:Option TI) (elem:TypeId) (h:SHeap):R:=match ti with
 | some ⟨_,_,_,some z⟩=>zjq elem z.cells.toList h
 | _=>.error "alloc"
def zfD (elem:TypeId) (v:Option Value) (h:SHeap):R:=match v with
 | some v=>zjq elem v.cells.toList h
 | none=>.error "box"
def zaN (ev:Ev):List (Nat×Operand)→Option (List (Nat×Value))
 | []=>some []
 | (i,x)::r=>match ev x with
  | none=>none
  | some v=>match zaN ev r with
   | none=>none
   | some l=>some ((i,v)::l)
def zaj (ev:Ev):List Operand→Option (List Value)
 | []=>some []
 | x::r=>match ev x with
  | none=>none
  | some v=>match zaj ev r with
   | none=>none
   | some l=>some (v::l)
def zhm (E:Env):List Field→Option (List (Nat×Nat))
 | []=>some []
 | f::r=>match E.T f.type with
  | none=>none
  | some ti=>match zhm E r with
   | none=>none
   | some l=>some ((f.offset,ti.size)::l)
def zfw (E:Env) (ti:Option TI) (ps:Option (List (Nat×Value))) (h:SHeap):R:=match ti,ps with
 | some ⟨.struct fields,_,_,some z⟩,some ps=>match zhm E fields.toList with
  | some places=>match zgW (places[·]?) z.cells.size z.cells.toList ps with
   | some cs=>zal (.agg cs.toArray) h
   | none=>.error "build  fill"
  | none=>.error "build  field type"
 | some ⟨.array _ elem,_,_,some z⟩,some ps=>match E.T elem with
  | some ei=>match zgW (fun i=>some (i*ei.size,ei.size)) z.cells.size z.cells.toList ps with
   | some cs=>zal (.agg cs.toArray) h
   | none=>.error "build  fill"
  | none=>.error "build  elem"
 | _,_=>.error "build"
def zfN (E:Env) (ti:Option TI) (len:Nat) (ps:Option (List (Nat×Value))) (h:SHeap):R:=match ti,ps with
 | some ⟨.slice elem,_,_,_⟩,some ps=>match E.T elem with
  | some ⟨_,size,_,some z⟩=>
   if len*size>2^24||len>2^24 then .error "buildSlice  long" else
   match zgW (fun i=>some (i*size,size)) (len*size) (List.replicate len z.cells.toList).flatten ps with
   | some cs=>.ok (.value (.slice (some ⟨h.next,0,none⟩) len len),zai h elem cs false)
   | none=>.error "buildSlice  fill"
  | _=>.error "buildSlice  elem"
 | _,_=>.error "buildSlice"
def zyS (E:Env) (t:TypeId) (b:Nat) (h:SHeap):R:=match E.T t,h.t.get b with
 | some ti,some (.sent v)=>bif Nat.beq ti.size 1 then zal (if ti.agg then .agg #[v] else v) h else .error "load  sentinel"
 | _,_=>.error "load  no sentinel"
def zba (E:Env) (t:TypeId) (a:Option Value) (h:SHeap):R:=match a with
 | some (.pointer (some ad))=>match loadAt E h t ad with | .ok v=>zal v h | .error e=>.error e
 | some (.chan (some b))=>zyS E t b h
 | _=>.error "load  address"
def zcI (E:Env) (t:TypeId) (a x:Option Value) (h:SHeap):R:=match a,x with
 | some (.pointer (some ad)),some v=>match storeAt E h t ad v with | .ok h=>.ok (.value (.tuple #[]),h) | .error e=>.error e
 | _,_=>.error "store  address"
def zle (v:Option Value) (h:SHeap):R:=match v with
 | some (.pointer (some a))=>zal (.pointer (some a)) h
 | some (.chan (some b))=>zal (.chan (some b)) h
 | some (.func (.func f) a b)=>zal (.func (.func f) a b) h
 | some (.func (.yield f) a b)=>zal (.func (.yield f) a b) h
 | some (.iface t v)=>zal (.iface t v) h
 | _=>.error "nilCheck"
def zaK (k:IntKind) (n:Int):Int:=match k,n with
 | .i64,.ofNat m=>bif Nat.blt m 9223372036854775808 then .ofNat m else IntKind.wrap .i64 (.ofNat m)
 | .u64,.ofNat m=>bif Nat.blt m 18446744073709551616 then .ofNat m else IntKind.wrap .u64 (.ofNat m)
 | k,n=>IntKind.wrap k n
def zoD (k:IntKind) (n:Int):Int:=match n with
 | .ofNat m=>match k with
  | .i64=>bif Nat.blt m 9223372036854775808 then .ofNat m else IntKind.wrap k n
  | .u64=>.ofNat (m%18446744073709551616)
  | .u32=>.ofNat (m%4294967296)
  | .u8=>.ofNat (m%256)
  | _=>IntKind.wrap k n
 | _=>IntKind.wrap k n
def zcs (k:IntKind) (r a b:Nat):Option Value:=match k with
 | .i64 | .u64 | .u32 | .i32=>bif Nat.blt a 2147483648&&Nat.blt b 2147483648 then some (.int k (.ofNat r)) else bif (match k with | .u32=>Nat.blt a 4294967296&&Nat.blt b 4294967296 | .i64 | .u64=>Nat.blt a 9223372036854775808&&Nat.blt b 9223372036854775808 | _=>false) then some (.int k (.ofNat r)) else none
 | .u8=>bif Nat.blt a 256&&Nat.blt b 256 then some (.int k (.ofNat r)) else none
 | _=>none
def zqJ (op:BinOp):Bool:=match op with | .shl | .shr=>true | _=>false
def zcv (op:BinOp) (k:IntKind) (x y:Int):Option Value:=match op with
 | .add=>some (.int k (zaK k (x+y)))
 | .sub=>some (.int k (zaK k (x-y)))
 | .mul=>some (.int k (zaK k (x*y)))
 | .eql=>some (.bool (x==y))
 | .neq=>some (.bool (x != y))
 | .lss=>some (.bool (x<y))
 | .leq=>some (.bool (x≤y))
 | .gtr=>some (.bool (x>y))
 | .geq=>some (.bool (x≥y))
 | .and=>match x,y with
  | .ofNat a,.ofNat b=>zcs k (Nat.land a b) a b
  | _,_=>none
 | .or=>match x,y with
  | .ofNat a,.ofNat b=>zcs k (Nat.lor a b) a b
  | _,_=>none
 | .xor=>match x,y with
  | .ofNat a,.ofNat b=>zcs k (Nat.xor a b) a b
  | _,_=>none
 | .quo=>match x,y with
  | .ofNat a,.ofNat (b+1)=>some (.int k (zaK k (.ofNat (a/(b+1)))))
  | _,_=>none
 | .rem=>match x,y with
  | .ofNat a,.ofNat (b+1)=>some (.int k (.ofNat (a%(b+1))))
  | _,_=>none
 | _=>none
def zdE (op:BinOp) (k:IntKind) (x:Int) (y:Int):Option Value:=match op,x,y with
 | .shl,.ofNat a,.ofNat n=>bif Nat.ble n 64 then some (.int k (zaK k (.ofNat (a*2^min n k.bits)))) else none
 | .shr,.ofNat a,.ofNat n=>bif Nat.ble n 64 then some (.int k (.ofNat (a/2^min n k.bits))) else none
 | _,_,_=>none
def zbZ (P:Program) (ev:Ev) (o:Oper) (h:SHeap):R:=
 if o.op.operands.toList.all (fun x=>match ev x with | some v=>zaP 12 v | none=>false) then
  match zgB P (execOp (fun x=>(ev x).getD (.tuple #[])) o) with
  | some (.value v)=>if zaP 12 v then zal v h else .error "pure  not plain"
  | some .skip=>zal (.tuple #[]) h
  | _=>.error "not pure"
 else .error ("no operation  " ++ o.pos)
def zdZ (c:CK) (a b:Value):Option Bool:=match c,a,b with
 | .int k,.int k1 x,.int k2 y=>match k==k1 with
  | true=>match k==k2 with
   | true=>some (intEq x y)
   | false=>none
  | false=>none
 | .bool,.bool x,.bool y=>some (x==y)
 | .str,.string x,.string y=>some (x.data.toList==y.data.toList)
 | _,_,_=>none
 where intEq:Int→Int→Bool
 | .ofNat a,.ofNat b=>Nat.beq a b
 | .negSucc a,.negSucc b=>Nat.beq a b
 | _,_=>false
def zcl:List CK→List Value→List Value→Option Bool
 | [],[],[]=>some true
 | c::q,a::r,b::s=>match zdZ c a b with
  | none=>none
  | some t=>match zcl q r s with
   | none=>none
   | some u=>some (t&&u)
 | _,_,_=>none
def zlW (E:Env) (ev:Ev) (o:Oper) (h:SHeap) (r:Option Bool) (neg:Bool):R:=match r with
 | some r=>zal (.bool (bif neg then !r else r)) h
 | none=>zbZ E.P ev o h
def zqs (E:Env) (h:SHeap) (t u:TypeId) (a b:Value):Option Bool:=bif Nat.beq t u then match a,b with
  | .chan (some x),.chan (some y)=>match E.Q t,h.t.get x,h.t.get y with
   | some _,some (.sent _),some (.sent _)=>some (Nat.beq x y)
   | _,_,_=>none
  | _,_=>none
 else some false
def zlL (E:Env) (ev:Ev) (o:Oper) (h:SHeap) (r:Option Bool) (neg:Bool):R:=match r with
 | some r=>zal (.bool (bif neg then !r else r)) h
 | none=>zbZ E.P ev o h
def zpv (E:Env) (ev:Ev) (o:Oper) (h:SHeap) (t:TypeId) (a b:Value) (neg:Bool):R:=match a,b with
 | .agg xs,.agg ys=>match E.eqT t with
  | some ks=>zlW E ev o h (zcl ks xs.toList ys.toList) neg
  | none=>zbZ E.P ev o h
 | .bool x,.bool y=>match E.T t with
  | some ⟨.bool,_,_,_⟩=>zal (.bool (bif neg then x != y else x==y)) h
  | _=>zbZ E.P ev o h
 | .string x,.string y=>zal (.bool (bif neg then !(x.data.toList==y.data.toList) else x.data.toList==y.data.toList)) h
 | .iface ta x,.iface tb y=>match E.T t with
  | some ⟨.interface _,_,_,_⟩=>zlL E ev o h (zqs E h ta tb x y) neg
  | _=>zbZ E.P ev o h
 | a,b=>match E.T t with
  | some ti=>match zwx E ti.desc a b with
   | some r=>zal (.bool (bif neg then !r else r)) h
   | none=>zbZ E.P ev o h
  | none=>zbZ E.P ev o h
def zol (E:Env) (ev:Ev) (o:Oper) (a b:Value) (h:SHeap):R:=match a,b with
 | .string x,.string y=>bif Nat.blt (x.data.toList.length+y.data.toList.length) 1000000000000 then zal (.string ⟨(x.data.toList++y.data.toList).toArray⟩) h else .error "add  long"
 | _,_=>zbZ E.P ev o h
def zhH (E:Env) (ev:Ev) (o:Oper) (r:Option Value) (h:SHeap):R:=match r with
 | some v=>zal v h
 | none=>zbZ E.P ev o h
def zCV (op:BinOp) (a b:Value) (h:SHeap):R:=match zDh op a b with
 | some v=>zal v h
 | none=>.error "symbols"
def zcZ (E:Env) (ev:Ev) (o:Oper) (op:BinOp) (t:TypeId) (a b:Option Value) (h:SHeap):R:=match a,b with
 | some (.int k x),some (.int k' y)=>bif zqJ op then zhH E ev o (zdE op k x y) h else if k=k' then zhH E ev o (zcv op k x y) h else zbZ E.P ev o h
 | some a,some b=>bif zey a||zey b then zCV op a b h else match op with
  | .eql=>zpv E ev o h t a b false
  | .neq=>zpv E ev o h t a b true
  | .add=>zol E ev o a b h
  | _=>zbZ E.P ev o h
 | _,_=>.error "binOp"
def ziC (d:TypeDesc):Bool:=match d with | .interface _=>true | _=>false
def zny (ti:Option TI) (t:TypeId) (v:Option Value) (h:SHeap):R:=match ti,v with
 | some ti,some v=>bif ziC ti.desc then .error "makeInterface" else zal (.iface t v) h
 | _,_=>.error "makeInterface"
def zio (fn:Fn) (a b:Option (List Value)) (h:SHeap):R:=match a,b with
 | some a,some b=>zal (.func fn a.toArray b.toArray) h
 | _,_=>.error "makeFunc"
def zjF (E:Env) (ti:Option TI) (l c:Option Nat) (h:SHeap):R:=match ti,l,c with
 | some ⟨.slice elem,_,_,_⟩,some l,some c=>match E.T elem with
  | some ⟨_,size,bytes,some z⟩=>
   if l>c||bytes*c>2^40||c>2^40 then .error "makeSlice  size" else
   .ok (.value (.slice (some ⟨h.next,0,none⟩) l c),zai h elem (List.replicate c z.cells.toList).flatten false)
  | _=>.error "makeSlice  elem"
 | _,_,_=>.error "makeSlice"
def upS (E:Env) (h:SHeap) (t:TypeId) (v:Value) (lo hi mx:Option (Option Value)):Option Value:=match v,zeT lo,zeT hi,mx with
 | .slice (some ⟨b,0,none⟩) _ c,some none,some (some hh),none=>bif Nat.beq c openCap then match E.T t,h.t.get b with
   | some ⟨.slice elem,_,_,_⟩,some (.cells _ n el true _)=>match E.T elem with
    | some ei=>bif Nat.blt 0 ei.size&&Nat.beq el elem&&Nat.ble (hh*ei.size) n then some (.slice (some ⟨b,0,none⟩) hh c) else none
    | none=>none
   | _,_=>none
  else none
 | _,_,_,_=>none
def ziG (E:Env) (ev:Ev) (o:Oper) (t:TypeId) (v:Option Value) (lo hi mx:Option (Option Value)) (h:SHeap):R:=match v with
 | some (.string x)=>match E.T t,zeT lo,zeT hi,mx with
  | some ⟨.string,_,_,_⟩,some l,some g,none=>match l.getD 0,g.getD x.data.toList.length with
   | l,g=>bif Nat.ble l g&&Nat.ble g x.data.toList.length then zal (.string ⟨((x.data.toList.drop l).take (g-l)).toArray⟩) h else .error "slice  string"
  | _,_,_,_=>zbZ E.P ev o h
 | some v=>match ztj E t v lo hi mx with
  | .ok v=>zal v h
  | .error e=>match upS E h t v lo hi mx with | some u=>zal u h | none=>.error e
 | none=>.error "slice"
def zbz (E:Env) (ti:Option TI) (x:Option Value) (f:Nat) (h:SHeap):R:=match ti,x with
 | some ⟨.struct fields,_,_,_⟩,some (.pointer (some a))=>match fields[f]? with
  | some fd=>match E.T fd.type with
   | some ti=>if ti.size=0 then .error "fieldAddr  empty" else zal (.pointer (some (zbe a fd.offset))) h
   | none=>.error "fieldAddr  type"
  | none=>.error "fieldAddr"
 | some ⟨.struct fields,_,_,_⟩,some (.chan (some b))=>match fields[f]? with
  | some fd=>match E.T fd.type with
   | some ti=>if ti.size=0 then .error "fieldAddr  empty" else bif Nat.beq fd.offset 0 then zal (.chan (some b)) h else .error "fieldAddr  sentinel"
   | none=>.error "fieldAddr  type"
  | none=>.error "fieldAddr"
 | _,_=>.error "fieldAddr"
def zcm (E:Env) (elem len:Nat) (a:Addr) (i:Nat) (h:SHeap):R:=match E.T elem with
 | some ei=>bif Nat.blt i len then zal (.pointer (some (zbe a (i*ei.size)))) h else .error "indexAddr  bounds"
 | none=>.error "indexAddr  elem"
def zcy (E:Env) (ti:Option TI) (x:Option Value) (i:Option Nat) (h:SHeap):R:=match ti,x,i with
 | some ⟨.array len elem,_,_,_⟩,some (.pointer (some a)),some i=>zcm E elem len a i h
 | some ⟨.slice elem,_,_,_⟩,some (.slice (some a) len _),some i=>zcm E elem len a i h
 | _,_,_=>.error "indexAddr"
def zpR (E:Env) (ti:Option TI) (x:Option Value) (f:Nat) (h:SHeap):R:=match ti,x with
 | some ⟨.struct fields,_,_,_⟩,some (.agg cs)=>match fields[f]? with
  | some fd=>match zoq E fd.type cs fd.offset with | .ok v=>zal v h | .error e=>.error e
  | none=>.error "field"
 | _,_=>.error "field"
def zjN (E:Env) (ev:Ev) (o:Oper) (ti:Option TI) (x:Option Value) (i:Option Nat) (h:SHeap):R:=match ti,x,i with
 | some ⟨.array len elem,_,_,_⟩,some (.agg cs),some i=>match E.T elem with
  | some ei=>if i<len then match zoq E elem cs (i*ei.size) with | .ok v=>zal v h | .error e=>.error e else .error "index"
  | none=>.error "index  elem"
 | some ⟨.string,_,_,_⟩,some (.string s),some i=>match s.data.toList[i]? with
  | some b=>zal (.int .u8 (.ofNat b.toNat)) h
  | none=>.error "index  string"
 | _,_,_=>zbZ E.P ev o h
def zhP (t:Option Value) (i:Nat) (h:SHeap):R:=match t with
 | some (.tuple vs)=>match vs[i]? with | some v=>zal v h | none=>.error "extract"
 | _=>.error "extract"
def ziW (E:Env) (ev:Ev) (o:Oper) (ti:Option TI) (x:Option Value) (asserted:TypeId) (commaOk:Bool) (h:SHeap):R:=match ti,x with
 | some ti,some (.iface t v)=>
  bif ziC ti.desc then (match E.A t asserted with
   | some true=>zal (if commaOk then .tuple #[.iface t v,.bool true] else .iface t v) h
   | some false=>if commaOk then (match ti.zero with
    | some z=>zal (.tuple #[z,.bool false]) h
    | none=>.error "typeAssert  zero") else .error "typeAssert fails"
   | none=>zbZ E.P ev o h) else
  if t=asserted then zal (if commaOk then .tuple #[v,.bool true] else v) h
  else if commaOk then match ti.zero with
   | some z=>zal (.tuple #[z,.bool false]) h
   | none=>.error "typeAssert  zero"
  else .error "typeAssert fails"
 | _,_=>zbZ E.P ev o h
def zeU (d:TypeDesc):Bool:=match d with | .int _=>true | _=>false
def zkv (ks:List CK) (k:List Value):List MapEntry→Nat→Option (Option (Nat×Value))
 | [],_=>some none
 | e::r,i=>match e.key with
  | .agg b=>match zcl ks k b.toList with
   | some true=>some (some (i,e.val))
   | some false=>zkv ks k r (i+1)
   | none=>none
  | _=>none
def zmY (E:Env) (kt:TypeId) (k:List Value) (es:List MapEntry):Option (Option (Nat×Value)):=bif E.keyT kt then match E.eqT kt with
  | some ks=>match zcl ks k k with
   | some _=>zkv ks k es 0
   | none=>none
  | none=>none else none
def zkE (E:Env) (ti:Option TI) (m k:Option Value) (ok:Bool) (h:SHeap):R:=match ti,m,k with
 | some ⟨.map kt et,_,_,_⟩,some (.map (some r)),some (.agg ks)=>match h.t.get r,E.T et with
  | some (.map es _),some eti=>match zmY E kt ks.toList es.toList,eti.zero with
   | some (some (_,v)),_=>zal (if ok then .tuple #[v,.bool true] else v) h
   | some none,some z=>zal (if ok then .tuple #[z,.bool false] else z) h
   | _,_=>.error "lookup  struct"
  | _,_=>.error "lookup  no map"
 | some ⟨.map kt et,_,_,_⟩,some (.map (some r)),some (.int kk n)=>match h.t.get r,E.T kt,E.T et with
  | some (.map es _),some kti,some eti=>bif !zeU kti.desc then .error "lookup  key" else match Instr.findNow kti.desc (.int kk n) es.toList 0,eti.zero with
   | some (some (_,v)),_=>zal (if ok then .tuple #[v,.bool true] else v) h
   | some none,some z=>zal (if ok then .tuple #[z,.bool false] else z) h
   | _,_=>.error "lookup  find"
  | _,_,_=>.error "lookup  no map"
 | some ⟨.map kt et,_,_,_⟩,some (.map none),some (.int kk n)=>match E.T kt,E.T et with
  | some kti,some eti=>bif !zeU kti.desc then .error "lookup  key" else match eti.zero with
   | some z=>zal (if ok then .tuple #[z,.bool false] else z) h
   | none=>.error "lookup  zero"
  | _,_=>.error "lookup  types"
 | _,_,_=>.error "lookup"
def znt (E:Env) (ti:Option TI) (m k x:Option Value) (h:SHeap):R:=match ti,m,k,x with
 | some ⟨.map kt _,_,_,_⟩,some (.map (some r)),some (.agg ks),some v=>match h.t.get r with
  | some (.map es clock)=>match zmY E kt ks.toList es.toList with
   | some none=>bif zcR ks.toList&&zaP 3 (.agg ks) then .ok (.value (.tuple #[]),h.set r (some (.map (es.push { key:=.agg ks,val:=v,born:=clock }) (clock+1)))) else .error "mapUpdate  struct"
   | _=>.error "mapUpdate  struct"
  | _=>.error "mapUpdate  no map"
 | some ⟨.map kt _,_,_,_⟩,some (.map (some r)),some (.int kk n),some v=>match h.t.get r,E.T kt with
  | some (.map es clock),some kti=>bif !zeU kti.desc then .error "mapUpdate  key" else match Instr.findNow kti.desc (.int kk n) es.toList 0 with
   | some none=>.ok (.value (.tuple #[]),h.set r (some (.map (es.push { key:=.int kk n,val:=v,born:=clock }) (clock+1))))
   | some (some (i,_))=>.ok (.value (.tuple #[]),h.set r (some (.map (es.modify i fun e=>{ e with key:=.int kk n,val:=v }) clock)))
   | none=>.error "mapUpdate  key kind"
  | _,_=>.error "mapUpdate  no map"
 | _,_,_,_=>.error "mapUpdate"
def zqF (E:Env) (ti:Option TI) (r:Nat) (h:SHeap):R:=match ti,h.t.get r with
 | some ⟨.map _ _,_,_,_⟩,some (.map _ clock)=>.ok (.value (.tuple #[]),h.set r (some (.map #[] clock)))
 | _,_=>.error "clear"
def zvP (ti:Option TI) (x:Option Value) (h:SHeap):R:=match ti,x with
 | some ⟨.map _ _,_,_,_⟩,some (.map (some m))=>match h.t.get m with
  | some (.map _ clock)=>.ok (.value (.pointer (some ⟨h.next,0,none⟩)),h.new (.iter m clock [] clock))
  | _=>.error "range  no map"
 | _,_=>.error "range"
def ziO (x:Nat):List Nat→Bool
 | []=>false
 | y::r=>bif Nat.beq x y then true else ziO x r
def zmz (since last:Nat) (seen:List Nat):List MapEntry→Option (List MapEntry)
 | []=>some []
 | e::r=>bif Nat.blt e.born since&&Nat.blt e.born last&&zaP 4 e.key then match zmz since last seen r with
   | none=>none
   | some l=>bif ziO e.born seen then some l else some (e::l)
  else none
def zyA (h:SHeap) (r m since:Nat) (seen:List Nat) (clock:Nat) (e:MapEntry):Value×SHeap:=
 (.tuple #[.bool true,e.key,e.val],h.set r (some (.iter m since (e.born::seen) clock)))
def zjW (h:SHeap) (r m since:Nat) (seen:List Nat) (clock:Nat):List MapEntry→List (Value×SHeap)
 | []=>[]
 | e::l=>zyA h r m since seen clock e::zjW h r m since seen clock l
def zjT (x:Option Value) (h:SHeap):Ex (List (Value×SHeap)):=match x with
 | some (.pointer (some ⟨r,0,none⟩))=>match h.t.get r with
  | some (.iter m since seen last)=>match h.t.get m with
   | some (.map es clock)=>match zmz since last seen es.toList with
    | some []=>.ok [(.tuple #[.bool false],h)]
    | some (e::l)=>.ok (zjW h r m since seen clock (e::l))
    | none=>.error "next  entries"
   | _=>.error "next  no map"
  | _=>.error "next  no walk"
 | _=>.error "next"
def zyd (x:Option Value) (h:SHeap):R:=match zjT x h with
 | .ok [(v,h)]=>.ok (.value v,h)
 | .ok _=>.error "next  more than one way"
 | .error e=>.error e
def zvC (x:Option Value) (h:SHeap):R:=match x with
 | some (.pointer (some ⟨r,0,none⟩))=>match h.t.get r with
  | some (.iter m _ (b::_) last)=>match h.t.get m with
   | some (.map es clock)=>bif Nat.beq clock last then match es.toList.find? (fun e=>Nat.beq e.born b) with
     | some e=>bif zaP 4 e.key then zal (.tuple #[e.key,e.val]) h else .error "entry  key"
     | none=>.error "entry"
    else .error "entry  clock"
   | _=>.error "entry  no map"
  | _=>.error "entry  no walk"
 | _=>.error "entry"
def zks (E:Env) (ev:Ev) (o:Oper) (ti:Option TI) (x:Value) (h:SHeap):R:=match ti,x with
 | some ⟨.slice _,_,_,_⟩,.slice _ n _=>zal (.int .i64 n) h
 | some ⟨.string,_,_,_⟩,.string s=>zal (.int .i64 (.ofNat s.data.toList.length)) h
 | some ⟨.map _ _,_,_,_⟩,.map (some r)=>match h.t.get r with
  | some (.map es _)=>zal (.int .i64 es.size) h
  | _=>.error "len"
 | _,_=>zbZ E.P ev o h
def ztW (E:Env) (ti:Option TI) (a:Addr) (dLen:Nat) (src:Value) (h:SHeap):R:=match ti,zkT src with
 | some ⟨.slice elem,_,_,_⟩,some sl=>match E.T elem with
  | some ei=>match zhW E h ei.size (Nat.min sl dLen) src,h.t.get a.block with
   | .ok cs,some (.cells tr m el op false)=>match zcC tr m a.off cs with
    | some tr=>.ok (.value (.int .i64 (Nat.min sl dLen)),h.set a.block (some (.cells tr m el op false)))
    | none=>.error "copy  store"
   | .error e,_=>.error e
   | _,_=>.error "copy  block"
  | none=>.error "copy  elem"
 | _,_=>.error "copy  type"
def zht (E:Env) (ti:Option TI) (a:Addr) (n:Nat) (h:SHeap):R:=match ti,h.t.get a.block with
 | some ⟨.pointer u,_,_,_⟩,some (.cells cs m e op false)=>
  if n=0 then .error "rawString  empty" else
  if !(E.bytesLie e u) then .error "rawString  bytesLie" else
  if a.off+n>m then .error "rawString  long" else
  match cs.toListFrom a.off n with
  | some l=>match zcN l with
   | some bs=>.ok (.value (.string ⟨bs.toArray⟩),h.set a.block (some (.cells cs m e op true)))
   | none=>.error "rawString  bytes"
  | none=>.error "rawString  cells"
 | _,_=>.error "rawString"
def zmo (mx:Bool):Value→Value→Option Value
 | .int k x,.int _ y=>some (.int k (bif mx then bif decide (y>x) then y else x else bif decide (y<x) then y else x))
 | a,b=>bif zey a||zey b then zqZ mx a b else none
def zhj (E:Env) (ev:Ev) (o:Oper) (r:Option Value) (h:SHeap):R:=match r with
 | some v=>zal v h
 | none=>zbZ E.P ev o h
def zcH (E:Env) (ev:Ev) (o:Oper) (c:Call) (b:Builtin) (args:Option (List Value)) (h:SHeap):R:=match args with
 | none=>.error "builtin  args"
 | some args=>match b,args with
  | .len,[x]=>zks E ev o ((c.argTypes[0]?).bind E.T) x h
  | .cap,[.slice _ _ n]=>match (c.argTypes[0]?).bind E.T with
   | some ⟨.slice _,_,_,_⟩=>if openCap≤n then .error "cap  open" else zal (.int .i64 n) h
   | _=>.error "cap"
  | .min,[x,y]=>zhj E ev o (zmo false x y) h
  | .max,[x,y]=>zhj E ev o (zmo true x y) h
  | .append,args=>match zgf E c args h with | .ok (v,h)=>.ok (.value v,h) | .error e=>.error e
  | .copy,[.slice (some a) dLen _,src]=>ztW E ((c.argTypes[0]?).bind E.T) a dLen src h
  | .recover,_=>.ok (.recover,h)
  | .clear,[.map (some r)]=>zqF E ((c.argTypes[0]?).bind E.T) r h
  | .unsafeSliceData,[.slice (some a) len c]=>if len=0 then .error "sliceData  empty" else if c<openCap∧c=0 then .error "sliceData" else zal (.pointer (some a)) h
  | .unsafeString,[.pointer (some a),.int _ (.ofNat n)]=>zht E ((c.argTypes[0]?).bind E.T) a n h
  | _,_=>zbZ E.P ev o h
def zen (ev:Ev) (c:Call):Ex Deferred:=
 match zaj ev c.args.toList with
 | none=>.error "call  args"
 | some args=>match c.callee with
  | .value f=>match ev f with
   | some (.func fn first captured)=>.ok { target:=.fn fn captured,args:=first++args.toArray }
   | _=>.error "call  no function value"
  | _=>.error "call  builtin or invoke"
def zbY (E:Env) (ev:Ev) (o:Oper) (c:Call) (h:SHeap):R:=match c.callee with
 | .builtin b=>zcH E ev o c b (zaj ev c.args.toList) h
 | .value _=>match zen ev c with
  | .ok d=>zej E d.target d.args h
  | .error e=>.error e
 | .invoke r name=>zqp E name (ev r) (zaj ev c.args.toList) h
def zgd (ev:Ev) (c:Call) (h:SHeap):R:=match zen ev c with
 | .ok d=>.ok (.defer d,h)
 | .error e=>.error e
def zfK (E:Env) (ev:Ev) (o:Oper) (src dst:TypeId) (v:Option Value) (h:SHeap):R:=match E.T src,E.T dst,v with
 | some ⟨.string,_,_,_⟩,some ⟨.slice e,_,_,_⟩,some (.string s)=>match E.T e with
  | some ⟨.int .u8,1,_,_⟩=>.ok (.value (.slice (some ⟨h.next,0,none⟩) s.size openCap),zai h e (s.data.toList.map fun b=>.int .u8 b.toNat) true)
  | _=>.error "convert  elem"
 | some ⟨.slice e,_,_,_⟩,some ⟨.string,_,_,_⟩,some (.slice (some a) len _)=>match E.T e,h.t.get a.block with
  | some ⟨.int .u8,_,_,_⟩,some (.cells c _ _ _ _)=>match c.toListFrom a.off len with
   | some l=>match zcN l with
    | some bs=>zal (.string ⟨bs.toArray⟩) h
    | none=>.error "convert  bytes"
   | none=>.error "convert  cells"
  | _,_=>.error "convert  block"
 | some ⟨.pointer t,_,_,_⟩,some ⟨.unsafePointer,_,_,_⟩,some (.pointer (some a))=>match h.t.get a.block,E.T t with
  | some (.cells _ n _ _ _),some ti=>if a.off<n∧a.spot=none∧ti.size≠0 then zal (.pointer (some a)) h else .error "convert  to raw"
  | _,_=>.error "convert  to raw"
 | some ⟨.unsafePointer,_,_,_⟩,some ⟨.pointer u,_,_,_⟩,some (.pointer (some a))=>match h.t.get a.block with
  | some (.cells _ n e false _)=>if E.lies e n a.off u then zal (.pointer (some a)) h else .error "convert  lies"
  | _=>.error "convert  from raw"
 | some ⟨.slice _,_,_,_⟩,some ⟨.slice e,_,_,_⟩,some (.slice (some a) len cap)=>
  if src≠dst then .error "convert  slices" else match E.T e,h.t.get a.block with
  | some ⟨.int .u8,_,_,_⟩,some (.cells _ _ _ _ false)=>zal (.slice (some a) len cap) h
  | _,_=>.error "convert  slice block"
 | some _,some ⟨.int k,_,_,_⟩,some (.int _ n)=>zal (.int k (zoD k n)) h
 | some ⟨.int _,_,_,_⟩,some ⟨.int k,_,_,_⟩,some (.complex f re im)=>match zpU k (.complex f re im) with
  | some v=>zal v h
  | none=>.error "symbols  convert"
 | _,_,_=>zbZ E.P ev o h
abbrev Dsp:=Env→Ev→Oper→SHeap→R
def zao (x:Operand):Dsp:=fun _ ev _ h=>zak (ev x) h
def zct (t:TypeId):Dsp:=fun E _ _ h=>zgL (E.T t) t h
def zco (t:TypeId) (x:Operand):Dsp:=fun _ ev _ h=>zfD t (ev x) h
def zbC (t:TypeId) (ps:Array (Nat×Operand)):Dsp:=fun E ev _ h=>zfw E (E.T t) (zaN ev ps.toList) h
def zcG (t:TypeId) (len:Nat) (ps:Array (Nat×Operand)):Dsp:=fun E ev _ h=>zfN E (E.T t) len (zaN ev ps.toList) h
def zar (t:TypeId) (a:Operand):Dsp:=fun E ev _ h=>zba E t (ev a) h
def zap (t:TypeId) (a x:Operand):Dsp:=fun E ev _ h=>zcI E t (ev a) (ev x) h
def zaf (x:Operand):Dsp:=fun _ ev _ h=>zle (ev x) h
def zau (op:BinOp) (t:TypeId) (x y:Operand):Dsp:=fun E ev o h=>zcZ E ev o op t (ev x) (ev y) h
def zfl (a b:TypeId) (x:Operand):Dsp:=fun E ev o h=>zfK E ev o a b (ev x) h
def ziA (t:TypeId) (x:Operand):Dsp:=fun E ev _ h=>zny (E.T t) t (ev x) h
def zeg (fn:Fn) (a b:Array Operand):Dsp:=fun _ ev _ h=>match fn with
 | .yield _=>.error "makeFunc  yield"
 | fn=>zio fn (zaj ev a.toList) (zaj ev b.toList) h
def zkV (r:Option Operand):Dsp:=match r with
 | none=>fun _ _ _ h=>.ok (.value (.map (some h.next)),h.new (.map #[] 0))
 | some _=>fun _ _ _ _=>.error "makeMap"
def zhe (t:TypeId) (l c:Operand):Dsp:=fun E ev _ h=>zjF E (E.T t) ((ev l).bind zfC) ((ev c).bind zfC) h
def zfc (t:TypeId) (x:Operand) (lo hi mx:Option Operand):Dsp:=fun E ev o h=>ziG E ev o t (ev x) (lo.map ev) (hi.map ev) (mx.map ev) h
def zae (t:TypeId) (x:Operand) (f:Nat):Dsp:=fun E ev _ h=>zbz E (E.T t) (ev x) f h
def zjP (t:TypeId) (x:Operand) (f:Nat):Dsp:=fun E ev _ h=>zpR E (E.T t) (ev x) f h
def zad (t:TypeId) (x i:Operand):Dsp:=fun E ev _ h=>zcy E (E.T t) (ev x) ((ev i).bind zfC) h
def zeP (t:TypeId) (x i:Operand):Dsp:=fun E ev o h=>zjN E ev o (E.T t) (ev x) ((ev i).bind zfC) h
def zgj (t:TypeId) (m k:Operand) (ok:Bool):Dsp:=fun E ev _ h=>zkE E (E.T t) (ev m) (ev k) ok h
def zeB (t:TypeId) (m k x:Operand):Dsp:=fun E ev _ h=>znt E (E.T t) (ev m) (ev k) (ev x) h
def zhz (x:Operand) (t:TypeId) (ok:Bool):Dsp:=fun E ev o h=>ziW E ev o (E.T t) (ev x) t ok h
def zoU (t:TypeId) (x:Operand):Dsp:=fun E ev _ h=>zvP (E.T t) (ev x) h
def zpF (x:Operand) (str:Bool):Dsp:=match str with
 | true=>fun _ _ _ _=>.error "next  string"
 | false=>fun _ ev _ h=>zyd (ev x) h
def zoI (x:Operand):Dsp:=fun _ ev _ h=>zvC (ev x) h
def zeJ (x:Operand) (i:Nat):Dsp:=fun _ ev _ h=>zhP (ev x) i h
def zoH (c a b:Option Value) (h:SHeap):R:=match c with
 | some (.bool t)=>zak (bif t then a else b) h
 | _=>.error "pick"
def zas (c a b:Operand):Dsp:=fun _ ev _ h=>match ev a,ev b with
 | some x,some y=>zoH (ev c) (some x) (some y) h
 | _,_=>.error "pick"
def zpV (E:Env) (ev:Ev) (o:Oper) (op:UnOp) (x:Option Value) (h:SHeap):R:=match op,x with
 | .not,some (.bool b)=>zal (.bool (bif b then false else true)) h
 | .neg,some (.int k n)=>zal (.int k (zaK k (0-n))) h
 | _,_=>zbZ E.P ev o h
def dUn (op:UnOp) (x:Operand):Dsp:=fun E ev o h=>zpV E ev o op (ev x) h
def zat (c:Call):Dsp:=fun E ev o h=>zbY E ev o c h
def zov (c:Call):Dsp:=fun _ ev _ h=>zgd ev c h
def zgg:Dsp:=fun _ _ o _=>.error ("no such operation  " ++ o.pos)
def zac (op:Op):Dsp:=Op.casesOn (motive:=fun _=>Dsp) op
 (fun x=>zao x) (fun x=>zao x) (fun c a b=>zas c a b) (fun t=>zct t) (fun t x=>zco t x) (fun t ps=>zbC t ps) (fun t n ps=>zcG t n ps)
 (fun t m k x=>zeB t m k x) (fun t a=>zar t a) (fun t a x=>zap t a x) (fun _=>zgg) (fun _=>zgg) (fun x=>zaf x) (fun op t x y _=>zau op t x y) (fun op _ x=>dUn op x)
 (fun a b x=>zfl a b x) (fun _ _=>zgg) (fun t x=>ziA t x) (fun fn a b=>zeg fn a b) (fun _ r=>zkV r) (fun _ _=>zgg) (fun t l c=>zhe t l c)
 (fun t x l h m=>zfc t x l h m) (fun t x f=>zae t x f) (fun t x f=>zjP t x f) (fun t x i=>zad t x i) (fun t x i=>zeP t x i) (fun t m k ok=>zgj t m k ok)
 (fun t m k x=>zeB t m k x) (fun _ _ _=>zgg) (fun _ _ _ _=>zgg) (fun t x=>zoU t x) (fun x b=>zpF x b) (fun x=>zoI x) (fun x _ t ok=>zhz x t ok) (fun x i=>zeJ x i)
 (fun c=>zat c) (fun _=>zgg) (fun c=>zov c) (fun _=>zgg) (fun _ _=>zgg) (fun _ _ _=>zgg) (fun _ _=>zgg)
def zdi (E:Env) (ev:Ev) (o:Oper) (h:SHeap):R:=match o with
 | ⟨_,op,_,_,_,_⟩=>zac op E ev o h
/-! ## a region that draws its order: which operations float -/
inductive PKind where
 | pure | read | alloc | eff
 | touch (j:Nat)
def PKind.isEff:PKind→Bool
 | .eff=>true
 | _=>false
def PKind.isAlloc:PKind→Bool
 | .alloc=>true
 | _=>false
def zLh (E:Env) (o:Oper):PKind:=match o.op with
 | .convert a b _=>match E.T a,E.T b with
  | some ⟨.int _,_,_,_⟩,some ⟨.int _,_,_,_⟩=>.pure
  | some ⟨.int _,_,_,_⟩,some ⟨.string,_,_,_⟩=>.pure
  | some ⟨.slice _,_,_,_⟩,some ⟨.string,_,_,_⟩=>.read
  | some ⟨.slice _,_,_,_⟩,some ⟨.slice _,_,_,_⟩=>.touch 0
  | _,_=>.eff
 | .load .. | .lookup .. => .read
 | .alloc _ | .box .. | .buildSlice .. | .makeSlice .. | .makeMap _ none=>.alloc
 | .move _ | .assign _ | .pick .. | .build .. | .fieldAddr .. | .indexAddr .. | .slice .. | .binOp .. | .makeInterface .. | .makeFunc .. | .field .. | .index .. | .extract .. | .unOp .. | .nilCheck _ | .typeAssert .. => .pure
 | .call c=>match c.callee with
  | .builtin .len=>.read
  | .builtin .min=>.pure
  | _=>.eff
 | _=>.eff
structure PStep where
 i:Nat
 kind:PKind
 lo:Nat
structure Plan where
 steps:List PStep
 m:Nat
 res:Nat      -- so many names are set aside
def zeb:List Nat→Nat→Nat
 | [],_=>0
 | x::_,0=>x
 | _::r,n+1=>zeb r n
def zgD (ms:List Nat):List Edge→Nat
 | []=>0
 | e::r=>bif Region.binds .any e then Nat.lor (Nat.lor (2^e.on) (zeb ms e.on)) (zgD ms r) else zgD ms r
def zjp (ms:List Nat):List Oper→List Nat
 | []=>ms
 | o::r=>zjp (ms++[zgD ms o.after.toList]) r
def zkS (ops:List Oper):List Nat:=zjp [] ops
def zmV (o:Oper):List Tmp:=o.op.operands.toList.filterMap fun | .tmp t=>some t | _=>none
def zuv (bs:List Nat):Nat→Nat
 | 0=>0
 | k+1=>bif Nat.beq (zeb bs k) (2^k-1) then zuv bs k else k+1
def zwv (bs:List Nat) (done:List Nat) (until_:Nat) (mask:Nat):List Nat→List Nat
 | []=>done
 | j::r=>bif Nat.blt j until_&&mask.testBit j && !done.contains j then zwv bs (done++[j]) until_ mask r else zwv bs done until_ mask r
def zvm (ks:List PKind) (i:Nat):Bool:=match ks[i]? with
 | some k=>k.isEff
 | none=>true
def zqH (bs:List Nat) (ks:List PKind) (m:Nat):Nat→List Nat→List Nat
 | 0,done=>zwv bs done m (2^m-1) (List.range m)
 | k+1,done=>
  bif zvm ks (m-(k+1)) then zqH bs ks m k (zwv bs done (m-(k+1)) (zeb bs (m-(k+1))) (List.range m)++[m-(k+1)])
  else zqH bs ks m k done
def znM (ops:List Oper) (t:Tmp) (i:Nat):Nat→Nat
 | 0=>0
 | n+1=>match ops[i]? with
  | some o=>match o.dst with
   | some d=>bif Nat.beq d t then i else znM ops t (i+1) n
   | none=>znM ops t (i+1) n
  | none=>0
def zKe (ops:List Oper) (bs:List Nat) (ks:List PKind) (m:Nat) (effs:List Nat) (i:Nat):PStep:=
 { i,lo:=(effs.filter fun e=>(zeb bs i).testBit e).length,kind:=match ks[i]? with
  | some (.touch _)=>match ops[i]? with
   | some o=>match o.op with
    | .convert _ _ (.tmp t)=>.touch (znM ops t 0 m)
    | _=>.eff
   | none=>.eff
  | some k=>k
  | none=>.eff }
def zyu (E:Env) (ops:List Oper):Plan:=
 match zkS ops with
 | bs=>match zuv bs ops.length with
  | m=>match ops.map (zLh E) with
   | ks=>{ steps:=(zqH bs ks m m []).map (zKe ops bs ks m ((List.range m).filter fun i=>zvm ks i)),m,res:=bif (ks.take m).any PKind.isAlloc then m else 0 }
def zgp (x:Nat):List Nat→Bool
 | []=>false
 | y::r=>bif Nat.beq x y then true else zgp x r
def zpm (ops:List Oper) (bs:List Nat) (self:Nat) (done:List Nat) (ts:List Tmp) (i:Nat):Nat→Bool
 | 0=>true
 | n+1=>(match ops[i]? with
  | some o=>match o.dst with
   | some d=>bif zgp d ts then bif zgp i done then (zeb bs self).testBit i else Nat.beq i self||(zeb bs i).testBit self else true
   | none=>true
  | none=>false)&&zpm ops bs self done ts (i+1) n
def zsd (ops:List Oper) (d:Tmp) (self i:Nat):Nat→Bool
 | 0=>true
 | n+1=>(match ops[i]? with
  | some o=>match o.dst with
   | some e=>bif Nat.beq e d then Nat.beq i self else true
   | none=>true
  | none=>false)&&zsd ops d self (i+1) n
def zjs (mask:Nat):List Nat→Bool
 | []=>true
 | j::r=>mask.testBit j&&zjs mask r
def zka:List Nat→Nat→Option Nat
 | [],_=>none
 | x::_,0=>some x
 | _::r,n+1=>zka r n
def zsL (ops:List Oper) (bs:List Nat) (m res:Nat) (done effs:List Nat) (s:PStep):Bool:=match ops[s.i]? with
 | none=>false
 | some o=>Nat.blt s.i m && !zgp s.i done&&zpm ops bs s.i done (zmV o) 0 m &&
  (match o.dst with | some d=>zsd ops d s.i 0 m | none=>true) &&
  (match o.guard with | some (g,_)=>Nat.blt g m&&zgp g done&&(zeb bs s.i).testBit g | none=>true) &&
  (match s.kind with
   | .eff=>zjs (zeb bs s.i) done
   | .read=>match s.lo with
    | 0=>true
    | l+1=>match zka effs l with
     | some e=>(zeb bs s.i).testBit e && !Nat.beq e s.i
     | none=>false
   | .touch j=>(zeb bs s.i).testBit j && !Nat.beq j s.i
   | .alloc=>Nat.blt s.i res
   | .pure=>true)
def zmS (done:List Nat):Nat→Bool
 | 0=>true
 | n+1=>zgp n done&&zmS done n
def zmO (ops:List Oper) (bs:List Nat) (m res:Nat):List Nat→List Nat→List PStep→Bool
 | done,_,[]=>zmS done m
 | done,effs,s::r=>zsL ops bs m res done effs s&&zmO ops bs m res (done++[s.i]) (match s.kind with | .eff=>effs++[s.i] | _=>effs) r
def zpb (bs:List Nat) (m:Nat):Nat→Bool
 | 0=>true
 | n+1=>Nat.beq (zeb bs (m+n)) (2^(m+n)-1)&&zpb bs m n
def zng:Nat→List Oper→Bool
 | _,[]=>true
 | i,o::r=>(o.after.toList.all fun e => !Region.binds .any e||Nat.blt e.on i)&&zng (i+1) r
def zhZ (E:Env) (op:Op):Bool:=match op with
 | .move _ | .assign _ | .pick .. | .build .. | .load .. | .nilCheck _ | .binOp .. | .unOp .. | .makeInterface .. | .makeFunc .. | .slice .. | .fieldAddr .. | .field .. | .indexAddr .. | .index .. | .lookup .. | .typeAssert .. | .extract .. => true
 | .convert _ b _=>match E.T b with
  | some ⟨.slice _,_,_,_⟩=>false
  | _=>true
 | .call c=>match c.callee with
  | .builtin .len=>true
  | .builtin .min=>true
  | _=>false
 | _=>false
def zrG (E:Env) (ops:List Oper) (s:PStep):Bool:=match s.kind with
 | .pure | .read=>match ops[s.i]? with
  | some o=>zhZ E o.op
  | none=>false
 | _=>true
def zuF (E:Env) (ops:List Oper) (p:Plan):Bool:=
 p.steps.all (zrG E ops)&&Nat.ble p.m ops.length&&zng 0 ops&&zpb (zkS ops) p.m (ops.length-p.m)&&zmO ops (zkS ops) p.m p.res [] [] p.steps
def zdb (E:Env) (ops:List Oper):Option Plan:=match zyu E ops with
 | p=>bif zuF E ops p then some p else none
def zwz:FloatKind→FloatKind→Bool
 | .f64,.f64=>true
 | .f32,.f32=>true
 | _,_=>false
def zdz:Nat→Value→Value→Bool
 | 0,_,_=>false
 | n+1,v,w=>match v,w with
  | .bool a,.bool b=>a==b
  | .int k a,.int l b=>decide (k=l)&&a==b
  | .string a,.string b=>a.data.toList==b.data.toList
  | .pointer none,.pointer none=>true
  | .pointer (some a),.pointer (some b)=>decide (a=b)
  | .slice none l c,.slice none m d=>l==m&&c==d
  | .slice (some a) l c,.slice (some b) m d=>decide (a=b)&&l==m&&c==d
  | .map none,.map none=>true
  | .map (some a),.map (some b)=>a==b
  | .nilFunc,.nilFunc=>true
  | .nilIface,.nilIface=>true
  | .chan (some a),.chan (some b)=>Nat.beq a b
  | .complex f a b,.complex g c d=>zwz f g&&Nat.beq a c&&Nat.beq b d
  | .iface t a,.iface u b=>t==u&&zdz n a b
  | .agg a,.agg b=>valsEq n a.toList b.toList
  | .tuple a,.tuple b=>valsEq n a.toList b.toList
  | .func (.func f) a b,.func (.func g) c d=>f==g&&valsEq n a.toList c.toList&&valsEq n b.toList d.toList
  | .func (.yield f) a b,.func (.yield g) c d=>f==g&&valsEq n a.toList c.toList&&valsEq n b.toList d.toList
  | _,_=>false
 where valsEq:Nat→List Value→List Value→Bool
 | _,[],[]=>true
 | 0,_,_=>false
 | n+1,a::r,b::s=>zdz n a b&&valsEq n r s
 | _,_,_=>false
/-! ## frames -/
def evT (G:Nat) (tm:Tr Value):Operand→Option Value
 | .tmp t=>tm.get t
 | .const v=>bif zaP 4 v then some v else none
 | .global g=>bif Nat.blt g G then some (.pointer (some ⟨g,0,none⟩)) else none
 | .func g=>some (.func (.func g) #[] #[])
def zcr (tm:Tr Value) (nt:Nat) (dst:Option Tmp) (v:Value):Tr Value:=
 match dst with
 | some d=>bif Nat.blt d nt then tm.put d (some v) else tm
 | none=>tm
inductive Req where
 | call (f:FuncId) (args:Array Value) (kind:CallKind)
 | round (l:Nat) (r:SLoop) (args:Array Value)
abbrev K:=Req→SHeap→Ex (Value×SHeap)
structure Fx where
 fn:FuncId
 nt:Nat
 kind:CallKind
 round:Option Nat
structure St where
 tm:Tr Value
 h:SHeap
 defers:List Deferred
inductive Out where
 | normal
 | exit (id:Nat)
 | ret
abbrev RS:=Ex (Out×St)
def zhn (tm:Tr Value) (h:SHeap) (ds:List Deferred):Ex St:=match h with
 | ⟨t,next⟩=>tm.force fun tm=>t.force fun t=>zci next fun next=>.ok ⟨tm,⟨t,next⟩,ds⟩
def zkj (tm:Tr Value) (n:Nat):List (Tmp×Value)→Option (Tr Value)
 | []=>some tm
 | (t,v)::r=>bif Nat.blt t n then (tm.put t (some v)).force fun tm=>zkj tm n r else none
def callOut (ih:K):SNext×SHeap→Ex (Value×SHeap)
 | (.value v,h)=>.ok (v,h)
 | (.enter g args,h)=>ih (.call g args .normal) h
 | (.round l r args,h)=>ih (.round l r args) h
 | _=>.error "callOut"
def zah (all:Array Oper) (tm:Tr Value) (g:Option (Nat×Bool)):Option Bool:=
 match g with
 | none=>some true
 | some (j,want)=>match (all[j]?).bind (·.dst) with
  | some d=>match tm.get d with
   | some (.bool b)=>some (b==want)
   | some _=>some false
   | none=>none
  | none=>some false
structure Ph where
 heaps:List SHeap      -- newest first; behind each effect
 tm:Tr Value
 h:SHeap
 cur:List Nat          -- what has been made since the last effect
def zdl (E:Env) (ev:Ev) (o:Oper) (v:Value):List SHeap→Bool
 | []=>true
 | h::r=>match zdi E ev o h with
  | .ok (.value u,_)=>zdz 200 u v&&zdl E ev o v r
  | _=>false
inductive AV where
 | ptr
 | slc (l c:Nat)
 | mp
def zlR:AV→Nat→Value
 | .ptr,b=>.pointer (some ⟨b,0,none⟩)
 | .mp,b=>.map (some b)
 | .slc l c,b=>.slice (some ⟨b,0,none⟩) l c
def zhE (elem:TypeId) (cs:List Value):AV→SObj
 | .mp=>.map #[] 0
 | .ptr=>.cells (Tr.ofL 33 cs) cs.length elem false false
 | .slc _ _=>.cells (Tr.ofL 33 cs) cs.length elem false false
def zkR (E:Env) (ti:Option TI) (len:Nat) (ps:Option (List (Nat×Value))):Option (TypeId×List Value×AV):=match ti,ps with
 | some ⟨.slice elem,_,_,_⟩,some ps=>match E.T elem with
  | some ⟨_,size,_,some z⟩=>
   bif Nat.ble (len*size) 16777216&&Nat.ble len 16777216 then
    match zgW (fun i=>some (i*size,size)) (len*size) (List.replicate len z.cells.toList).flatten ps with
    | some cs=>some (elem,cs,.slc len len)
    | none=>none
   else none
  | _=>none
 | _,_=>none
def zlF (E:Env) (ti:Option TI) (l c:Option Nat):Option (TypeId×List Value×AV):=match ti,l,c with
 | some ⟨.slice elem,_,_,_⟩,some l,some c=>match E.T elem with
  | some ⟨_,_,bytes,some z⟩=>bif Nat.ble l c&&Nat.ble (bytes*c) 1099511627776&&Nat.ble c 1099511627776 then some (elem,(List.replicate c z.cells.toList).flatten,.slc l c) else none
  | _=>none
 | _,_,_=>none
def zbW (E:Env) (ev:Ev) (op:Op):Option (TypeId×List Value×AV):=match op with
 | .alloc t=>match E.T t with
  | some ⟨_,_,_,some z⟩=>some (t,z.cells.toList,.ptr)
  | _=>none
 | .box t x=>match ev x with
  | some v=>some (t,v.cells.toList,.ptr)
  | none=>none
 | .buildSlice t len ps=>zkR E (E.T t) len (zaN ev ps.toList)
 | .makeSlice t l c=>zlF E (E.T t) ((ev l).bind zfC) ((ev c).bind zfC)
 | .makeMap _ none=>some (0,[],.mp)
 | _=>none
def zhL:SHeap:=⟨.nil,lim⟩
def zmq (op:Op):Bool:=match op with | .makeMap _ _=>true | _=>false
def zqQ (all:Array Oper) (j:Nat):Bool:=match all[j]? with
 | some o => !zmq o.op
 | none=>false
def zqD (E:Env) (ev:Ev) (all:Array Oper) (base j:Nat) (cur:List Nat) (op:Op):Option Value:=match op with
 | .convert a b x=>match E.T a,ev x with
  | some ⟨.slice e,_,_,_⟩,some (.slice (some ⟨c,0,none⟩) l n)=>match E.T e with
   | some ⟨.int .u8,_,_,_⟩=>bif Nat.beq a b&&Nat.beq c (base+j)&&zgp j cur&&Nat.blt n openCap&&zqQ all j then some (.slice (some ⟨c,0,none⟩) l n) else none
   | _=>none
  | _,_=>none
 | _=>none
def zdP:R→Ex Value
 | .ok (.value v,_)=>.ok v
 | .ok _=>.error "draw  no value"
 | .error e=>.error e
def zhg (E:Env) (all:Array Oper) (base:Nat) (s:PStep) (o:Oper) (ph:Ph):Ex (Value×SHeap×List Nat):=match ph with
 | ⟨heaps,tm,h,cur⟩=>match s with
  | ⟨i,kind,lo⟩=>match kind with
   | .pure=>match zdP (zdi E (evT E.G tm) o zhL) with
    | .ok v=>.ok (v,h,cur)
    | .error e=>.error e
   | .read=>match heaps with
    | []=>.error "draw  no heap"
    | hh::old=>match zdP (zdi E (evT E.G tm) o hh) with
     | .ok v=>bif zdl E (evT E.G tm) o v (old.take (old.length-lo)) then .ok (v,h,cur) else .error "draw  a read that hangs on the order"
     | .error e=>.error e
   | .alloc=>match zbW E (evT E.G tm) o.op with
    | some (elem,cs,av)=>.ok (zlR av (base+i),h.set (base+i) (some (zhE elem cs av)),i::cur)
    | none=>.error "draw  alloc"
   | .touch j=>match zqD E (evT E.G tm) all base j cur o.op with
    | some v=>.ok (v,h,cur)
    | none=>.error "draw  touch"
   | .eff=>.error "draw  float"
def zcc (E:Env) (ih:K) (all:Array Oper) (nt base:Nat) (s:PStep) (ph:Ph):Ex Ph:=match all[s.i]? with
 | none=>.error "draw  no operation"
 | some o=>match zah all ph.tm o.guard with
  | none=>.error "draw  guard"
  | some w=>match w with
   | false=>bif s.kind.isEff then .ok ⟨ph.h::ph.heaps,zcr ph.tm nt o.dst (.tuple #[]),ph.h,[]⟩ else .ok ⟨ph.heaps,zcr ph.tm nt o.dst (.tuple #[]),ph.h,ph.cur⟩
   | true=>bif s.kind.isEff then match zdi E (evT E.G ph.tm) o ph.h with
     | .error e=>.error e
     | .ok out=>match callOut ih out with
      | .error e=>.error e
      | .ok (v,h)=>bif Nat.ble h.next lim then .ok ⟨h::ph.heaps,zcr ph.tm nt o.dst v,h,[]⟩ else .error "draw  too many names"
    else match zhg E all base s o ph with
     | .error e=>.error e
     | .ok (v,h,cur)=>.ok ⟨ph.heaps,zcr ph.tm nt o.dst v,h,cur⟩
def zxF (ph:Ph) (k:Ph→Ex Ph):Ex Ph:=match ph with
 | ⟨heaps,tm,h,cur⟩=>tm.force fun tm=>match h with
  | ⟨t,next⟩=>t.force fun t=>zci next fun next=>k ⟨heaps,tm,⟨t,next⟩,cur⟩
def zdR (E:Env) (ih:K) (all:Array Oper) (nt base:Nat):List PStep→Ph→Ex Ph
 | [],ph=>.ok ph
 | s::r,ph=>match zcc E ih all nt base s ph with
  | .error e=>.error e
  | .ok ph=>zxF ph (zdR E ih all nt base r)
def zhY (ih:K) (fx:Fx) (dst:Option Tmp) (tm:Tr Value) (ds:List Deferred) (out:SNext×SHeap):Ex St:=match out with
 | (x,h)=>match x with
  | .value v=>zfP v fun v=>zhn (zcr tm fx.nt dst v) h ds
  | .defer d=>match fx.round with
   | none=>zhn (zcr tm fx.nt dst (.tuple #[])) h (d::ds)
   | some _=>.error "defer in a round"
  | .recover=>match fx.kind,fx.round with
   | .deferred,none=>zhn (zcr tm fx.nt dst .nilIface) h ds
   | _,_=>.error "recover  not deferred"
  | .enter g args=>match ih (.call g args .normal) h with
   | .error e=>.error e
   | .ok (v,h)=>zfP v fun v=>zhn (zcr tm fx.nt dst v) h ds
  | .round l r args=>match ih (.round l r args) h with
   | .error e=>.error e
   | .ok (v,h)=>zfP v fun v=>zhn (zcr tm fx.nt dst v) h ds
def opS (E:Env) (ih:K) (fx:Fx) (all:Array Oper) (o:Oper) (st:St):Ex St:=match o,st with
 | ⟨dst,op,ty,pos,after,guard⟩,⟨tm,h,ds⟩=>match zah all tm guard with
  | none=>.error "guard"
  | some false=>zhn (zcr tm fx.nt dst (.tuple #[])) h ds
  | some true=>match zac op E (evT E.G tm) ⟨dst,op,ty,pos,after,guard⟩ h with
   | .error e=>.error (pos ++ "  " ++ e)
   | .ok out=>zhY ih fx dst tm ds out
def zep (E:Env) (ih:K) (fx:Fx) (all:Array Oper):List Oper→St→Ex St
 | [],st=>.ok st
 | o::r,st=>match opS E ih fx all o st with
  | .error e=>.error e
  | .ok st=>zep E ih fx all r st
def zfb (r:Ex St):RS:=match r with
 | .ok st=>.ok (.normal,st)
 | .error e=>.error e
def ziB (E:Env) (ih:K) (fx:Fx) (ops:Array Oper) (st:St):RS:=match st with
 | ⟨tm,h,ds⟩=>match zdb E ops.toList with
  | none=>.error ("draw  no plan  " ++ (match ops.toList with | o::_=>o.pos | [] => ""))
  | some ⟨steps,m,res⟩=>bif Nat.ble (h.next+res) lim then match zdR E ih ops fx.nt h.next steps ⟨[⟨h.t,h.next+res⟩],tm,⟨h.t,h.next+res⟩,[]⟩ with
   | .error e=>.error e
   | .ok ⟨_,tm,h,_⟩=>zfb (zep E ih fx ops (ops.toList.drop m) ⟨tm,h,ds⟩)
   else .error "draw  too many names"
def zqu (pend:Option Code) (r:Ex St):RS:=match pend with
 | none=>zfb r
 | some (.exit id)=>match r with
  | .ok st=>.ok (.exit id,st)
  | .error e=>.error e
 | some .ret=>match r with
  | .ok st=>.ok (.ret,st)
  | .error e=>.error e
 | _=>.error "endLoop  jump"
def znK (st:St) (l:Nat):RS:=match st with
 | ⟨tm,h,ds⟩=>match h.t.get l with
  | some (.loop ⟨state,pend,a,b,c,d,e,f,g⟩)=>match state with
   | .busy=>.error "endLoop  busy"
   | _=>zqu pend (zhn tm (h.set l (some (.loop ⟨.exhausted,pend,a,b,c,d,e,f,g⟩))) ds)
  | _=>.error "endLoop"
def znk (E:Env) (ih:K) (fx:Fx) (f:Fn) (first captured:Array Value) (params:Array Tmp) (assign body:Code) (tm:Tr Value) (h:SHeap) (ds mark:List Deferred) (dl:Nat):RS:=
 match zej E (.fn f captured) (first ++ #[.func (.yield h.next) #[] #[]]) (h.new (.loop ⟨.ready,none,fx.fn,tm,fx.nt,params,assign,body,dl⟩)) with
 | .ok (.enter g args,h')=>match ih (.call g args .normal) h' with
  | .error e=>.error e
  | .ok (_,h')=>znK ⟨tm,h',mark++ds⟩ h.next
 | .ok _=>.error "rangeFunc  call"
 | .error e=>.error e
def zsA (E:Env) (ih:K) (fx:Fx) (fop:Operand) (params:Array Tmp) (assign body:Code) (st:St):RS:=match st with
 | ⟨tm,h,ds⟩=>match evT E.G tm fop with
  | some (.func f first captured)=>match fx.round with
   | none=>znk E ih fx f first captured params assign body tm (h.new (.deferred (some []))) ds [{ target:=.collected h.next,args := #[] }] h.next
   | some l=>match h.t.get l with
    | some (.loop r)=>znk E ih fx f first captured params assign body tm h ds [] r.defers
    | _=>.error "rangeFunc  round"
  | _=>.error "rangeFunc"
def zfE (f:St→RS):Nat→St→RS
 | 0,_=>.error "fuel"
 | n+1,st=>match f st with
  | .error e=>.error e
  | .ok (o,st)=>match o with
   | .normal=>zfE f n st
   | o=>.ok (o,st)
def zgM (id:Nat) (r:RS):RS:=match r with
 | .error e=>.error e
 | .ok (o,st)=>match o with
  | .exit i=>bif Nat.beq i id then .ok (.normal,st) else .ok (.exit i,st)
  | o=>.ok (o,st)
def zkF (r:RS) (k:St→RS):RS:=match r with
 | .error e=>.error e
 | .ok (o,st)=>match o with
  | .normal=>k st
  | o=>.ok (o,st)
abbrev CD:=Env→K→Fx→St→RS
def zpd:CD:=fun _ _ _ st=>.ok (.normal,st)
def zqv (ops:Array Oper) (draw:Bool):CD:=match draw with
 | false=>fun E ih fx st=>zfb (zep E ih fx ops ops.toList st)
 | true=>fun E ih fx st=>ziB E ih fx ops st
def zBb (a b:CD):CD:=fun E ih fx st=>zkF (a E ih fx st) (b E ih fx)
def zxw (c:Operand) (a b:CD):CD:=fun E ih fx st=>match evT E.G st.tm c with
 | some (.bool t)=>match t with | true=>a E ih fx st | false=>b E ih fx st
 | _=>.error "cond"
def zut (id:Nat) (b:CD):CD:=fun E ih fx st=>zgM id (b E ih fx st)
def zxp (b:CD):CD:=fun E ih fx st=>zfE (b E ih fx) 1000000 st
def zGQ (f:Operand) (ps:Array Tmp) (a b:Code):CD:=fun E ih fx st=>zsA E ih fx f ps a b st
def zwY (id:Nat):CD:=fun _ _ _ st=>.ok (.exit id,st)
def zAA:CD:=fun _ _ _ st=>.ok (.ret,st)
def zrZ:CD:=fun _ _ _ _=>.error "goto  refuse"
def zab:Code→CD
 | .skip=>zpd
 | .region _ ops d=>zqv ops d
 | .seq a b=>zBb (zab a) (zab b)
 | .cond c a b=>zxw c (zab a) (zab b)
 | .block i b=>zut i (zab b)
 | .loop b=>zxp (zab b)
 | .rangeFunc f ps a b=>zGQ f ps a b
 | .exit i=>zwY i
 | .scope b=>zab b
 | .label _=>zpd
 | .goto _=>zrZ
 | .ret=>zAA
 | .refuse _=>zrZ
def zaQ (E:Env) (tm:Tr Value) (h:SHeap):List ResultVar→Ex (List Value)
 | []=>.ok []
 | r::rs=>match (match r with
   | .tmp t=>zcM (tm.get t) "results  tmp"
   | .cell a t=>match tm.get a with
    | some (.pointer (some ad))=>loadAt E h t ad
    | _=>.error "results  cell") with
  | .error e=>.error e
  | .ok v=>match zaQ E tm h rs with
   | .error e=>.error e
   | .ok vs=>.ok (v::vs)
def zhU:List Value→Value
 | [v]=>v
 | vs=>.tuple vs.toArray
def zgJ (E:Env) (ih:K):Nat→List Deferred→SHeap→Ex SHeap
 | 0,_,_=>.error "defers  fuel"
 | _+1,[],h=>.ok h
 | n+1,⟨tg,args⟩::ds,h=>match tg with
  | .collected b=>match h.t.get b with
   | some (.deferred (some calls))=>zgJ E ih n (calls++ds) (h.set b (some (.deferred none)))
   | _=>.error "collected"
  | t=>match zej E t args h with
   | .ok (.enter g args,h)=>match ih (.call g args .deferred) h with
    | .error e=>.error e
    | .ok (_,h)=>zgJ E ih n ds h
   | .ok _=>.error "deferred call"
   | .error e=>.error e
def zeQ (E:Env) (ih:K) (fd:Func) (st:St):Ex (Value×SHeap):=match st with
 | ⟨tm,h,ds⟩=>match zgJ E ih 1000 ds h with
  | .error e=>.error e
  | .ok h=>match zaQ E tm h fd.results.toList with
   | .ok vs=>.ok (zhU vs,h)
   | .error e=>.error e
def zhR (E:Env) (ih:K) (f:FuncId) (args:Array Value) (kind:CallKind) (h:SHeap):Ex (Value×SHeap):=
 match E.F f with
 | some fd=>match fd.body with
  | some c=>match zab c E ih ⟨f,max fd.ntmps args.size,kind,none⟩ ⟨Tr.ofL 33 args.toList,h,[]⟩ with
   | .error e=>.error e
   | .ok (o,st)=>match o with
    | .exit _=>.error "exit  no such block"
    | _=>zeQ E ih fd st
  | none=>.error "enter  body"
 | none=>.error "enter"
def zlI (l:Nat) (h:SHeap) (jump:Option Code):Ex (Value×SHeap):=
 match h.t.get l with
 | some (.loop ⟨_,_,a,b,c,d,e,f,g⟩)=>.ok (.bool jump.isNone,h.set l (some (.loop ⟨if jump.isNone then .ready else .done,jump,a,b,c,d,e,f,g⟩)))
 | _=>.error "endRound"
def zsV (l:Nat) (h:SHeap):Ex SHeap:=match h.t.get l with
 | some (.loop ⟨st,pend,a,b,c,d,e,f,g⟩)=>match st with
  | .ready=>.ok (h.set l (some (.loop ⟨.busy,pend,a,b,c,d,e,f,g⟩)))
  | _=>.error "beginRound  state"
 | _=>.error "beginRound"
def zHv:Out→Option Code
 | .normal=>none
 | .exit id=>some (.exit id)
 | .ret=>some .ret
def zuw (E:Env) (ih:K) (l:Nat) (r:SLoop) (args:Array Value) (h:SHeap):Ex (Value×SHeap):=match r with
 | ⟨_,_,fn,tm,nt,params,assign,body,_⟩=>
  match zkj tm nt (params.toList.zip args.toList) with
  | none=>.error "yield  tmps"
  | some tm=>match zab assign E ih ⟨fn,nt,.normal,some l⟩ ⟨tm,h,[]⟩ with
   | .ok (.normal,⟨tm,h,[]⟩)=>match zsV l h with
    | .error e=>.error e
    | .ok h=>match zab body E ih ⟨fn,nt,.normal,some l⟩ ⟨tm,h,[]⟩ with
     | .ok (o,⟨_,h,[]⟩)=>zlI l h (zHv o)
     | .ok _=>.error "round  defers"
     | .error e=>.error e
   | .ok _=>.error "round  assign"
   | .error e=>.error e
def zjk (E:Env) (ih:K):K:=fun q h=>match q with
 | .call f args kind=>match kind with
  | .normal=>match E.O f with
   | some g=>g args.toList h
   | none=>zhR E ih f args .normal h
  | kind=>zhR E ih f args kind h
 | .round l r args=>zuw E ih l r args h
def run (E:Env):Nat→K
 | 0=>fun _ _=>.error "fuel"
 | n+1=>zjk E (run E n)
end
end Go.Sim

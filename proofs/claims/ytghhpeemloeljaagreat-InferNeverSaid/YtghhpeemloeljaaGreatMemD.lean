/- What the memos are: definitions. The simulator where a walk over a map can take its steps in more than one way: all outcomes. Definitions. Calls that have been worked out stand for calls with other names: definitions. All outcomes of a walk, checked path by path: definitions. mach.Run at a machine that jumps back to itself, as an oracle: definitions. -/
import Derived.Test.YtghhpeemloeljaaGreatSim
set_option linter.unusedVariables false
set_option linter.unusedSimpArgs false
namespace Go.Sim
noncomputable section
/-! ## tables of 60 times 60 numbers behind a truth value,most of them none -/
def dfV (i:Nat):Value:=match i with
 | 0=>.bool false
 | k+1=>bif Nat.beq (k%61) 0 then .int .i64 0 else .int .i64 2305843009213693952
noncomputable def dfB (f:Nat) (c:Bool) (i s:Nat):Tr Value:=@Nat.rec (fun _=>Bool→Nat→Nat→Tr Value) (fun _ _ _=>.nil) (fun _ ih c i s=>@Bool.rec (fun _=>Tr Value) .nil (.node (ih true (Nat.add i s) (Nat.mul 2 s)) (some (dfV i)) (ih false i (Nat.mul 2 s))) (Nat.blt (@Bool.rec (fun _=>Nat) (Nat.add i s) i c) 3601)) f c i s
theorem dqz {c:Bool} {i s:Nat}:dfB 0 c i s=.nil:=rfl
theorem dqs {f:Nat} {c:Bool} {i s:Nat}:dfB (f+1) c i s=bif Nat.blt (bif c then i else i+s) 3601 then .node (dfB f true (i+s) (2*s)) (some (dfV i)) (dfB f false i (2*s)) else .nil:=by
 have:dfB (f+1) c i s=@Bool.rec (fun _=>Tr Value) .nil (.node (dfB f true (i+s) (2*s)) (some (dfV i)) (dfB f false i (2*s))) (Nat.blt (@Bool.rec (fun _=>Nat) (i+s) i c) 3601):=rfl
 rw [this]
 cases c with
 | false=>show @Bool.rec _ _ _ (Nat.blt (i+s) 3601)=bif Nat.blt (i+s) 3601 then _ else _; cases Nat.blt (i+s) 3601<;>rfl
 | true=>show @Bool.rec _ _ _ (Nat.blt i 3601)=bif Nat.blt i 3601 then _ else _; cases Nat.blt i 3601<;>rfl
def zPk:Tr Value:=dfB 33 true 0 1
def zxJ (v:Value):Bool:=match v with
 | .int .i64 _=>true
 | .complex .f64 _ _=>true
 | _=>false
def ziq:List (Nat×Value)→Tr Value
 | []=>zPk
 | p::r=>(ziq r).force fun t=>bif Nat.blt p.1 3601&&zxJ p.2 then t.put p.1 (some p.2) else t
inductive MObj where
 | cells (l:List Value) (elem:TypeId) (opn ro:Bool)
 | map (es:List MapEntry) (clock:Nat)
 | zone (zt:TypeId) (es:List (Nat×Value))
def MObj.obj:MObj→SObj
 | .cells l e o r=>.cells (Tr.ofL 33 l) l.length e o r
 | .map es c=>.map es.toArray c
 | .zone zt es=>.cells (ziq es) 3601 zt false false
def zna:List MapEntry→List MapEntry→Bool
 | [],[]=>true
 | ⟨a,b,c⟩::r,⟨a',b',c'⟩::r'=>zdz 12 a a'&&zdz 12 b b'&&Nat.beq c c'&&zna r r'
 | _,_=>false
def zdM:Bool→Bool→Bool
 | true,true=>true
 | false,false=>true
 | _,_=>false
def zhc:List Value→List Value→Bool
 | [],[]=>true
 | a::r,b::s=>zdz 12 a b&&zhc r s
 | _,_=>false
def vEq (a b:Value):Bool:=match a,b with
 | .agg x,.agg y=>zhc x.toList y.toList
 | a,b=>zdz 12 a b
def zlU:List Value→List Value→Bool
 | [],[]=>true
 | a::r,b::s=>vEq a b&&zlU r s
 | _,_=>false
def wEq (a b:Value):Bool:=match a,b with
 | .tuple x,.tuple y=>zlU x.toList y.toList
 | a,b=>vEq a b
def zky (c:Tr Value) (n:Nat):Option (List Value):=match c.toL 32 n with
 | some l=>some l
 | none=>c.toListFrom 0 n
def zmL:Option Value→Option Value→Bool
 | some (.int k a),some (.int l b)=>bif decide (k=l) then decide (a=b) else false
 | some (.bool a),some (.bool b)=>zdM a b
 | some (.complex .f64 a b),some (.complex .f64 c d)=>Nat.beq a c&&Nat.beq b d
 | none,none=>true
 | _,_=>false
noncomputable def zem (c:Bool) (a b:Tr Value):Bool:=@Tr.rec _ (fun _=>Bool→Tr Value→Bool) (fun _ b=>@Tr.rec _ (fun _=>Bool) true (fun _ _ _ _ _=>false) b) (fun _ v _ il ir c b=>@Tr.rec _ (fun _=>Bool) false (fun l' v' r' _ _=>@Bool.rec (fun _=>Bool) false (@Bool.rec (fun _=>Bool) false (ir false r') (il true l')) (@Bool.rec (fun _=>Bool) true (zmL v v') c)) b) a c b
theorem tqb {c:Bool} {l r:Tr Value} {v:Option Value}:zem c .nil (.node l v r)=false:=rfl
theorem tqc {c:Bool} {l r:Tr Value} {v:Option Value}:zem c (.node l v r) .nil=false:=rfl
theorem tqd {c:Bool} {l r l' r':Tr Value} {v v':Option Value}:zem c (.node l v r) (.node l' v' r')=((bif c then zmL v v' else true)&&(zem true l l'&&zem false r r')):=by
 have:zem c (.node l v r) (.node l' v' r')=@Bool.rec (fun _=>Bool) false (@Bool.rec (fun _=>Bool) false (zem false r r') (zem true l l')) (@Bool.rec (fun _=>Bool) true (zmL v v') c):=rfl
 rw [this]
 cases c<;>cases zmL v v'<;>cases zem true l l'<;>cases zem false r r'<;>rfl
def zbO:SObj→MObj→Bool
 | .cells c n e o r,.cells l e' o' r'=>Nat.beq n l.length&&Nat.beq e e'&&zdM o o'&&zdM r r'&&Nat.ble n lim&&match zky c n with
  | some l2=>zhc l2 l
  | none=>false
 | .map es k,.map es' k'=>Nat.beq k k'&&zna es.toList es'
 | .cells c n e o r,.zone zt es=>Nat.beq n 3601&&Nat.beq e zt&&zdM o false&&zdM r false&&zem true c (ziq es)
 | _,_=>false
def zow (t:Tr SObj):List (Nat×MObj)→Tr SObj
 | []=>t
 | (b,o)::r=>(zow t r).force fun t=>t.put b (some o.obj)
structure Memo where
 f:Nat
 args:List Value
 next:Nat
 pre:List (Nat×MObj)
 v:Value
 post:List (Nat×MObj)
 next':Nat
def zsi (t:Tr SObj):List (Nat×MObj)→Bool
 | []=>true
 | (b,m)::r=>(match t.get b with
  | some o=>zbO o m
  | none=>false)&&zsi t r
def zIP (b:Nat):List (Nat×MObj)→Bool
 | []=>false
 | (c,_)::r=>bif Nat.beq b c then true else zIP b r
def zvB (pre:List (Nat×MObj)) (next:Nat):List (Nat×MObj)→Bool
 | []=>true
 | (b,_)::r=>(Nat.ble next b||zIP b pre)&&zvB pre next r
def zdk (m:Memo):SHeap:=⟨zow .nil m.pre,m.next⟩
def zew (m:Memo):Ex (Value×SHeap)→Bool
 | .ok (v,h)=>wEq v m.v&&Nat.ble h.next m.next'&&zsi h.t m.post&&zvB m.pre m.next m.post
 | .error _=>false
def zkp (ih:K) (m:Memo):Bool:=zew m (ih (.call m.f m.args.toArray .normal) (zdk m))
def zsb (args:List Value) (v:Value) (as:List Value) (h:SHeap):Ex (Value×SHeap):=
 bif zlU as args then .ok (v,h) else .error "memo"
def zqw (ih:K) (G f:Nat) (args:List Value) (v:Value):Bool:=match ih (.call f args.toArray .normal) ⟨.nil,G⟩ with
 | .ok (u,_)=>wEq u v&&zaP 3 v&&args.all (zaP 3)
 | .error _=>false
def topL:List Value:=(List.range 3600).map fun k=>.int .i64 (bif Nat.beq (k/60) (k%60) then 0 else 2305843009213693952)
def zbu:List Value→Bool
 | []=>true
 | v::r=>match v with
  | .int k _=>match k with
   | .i64=>zbu r
   | _=>false
  | _=>false
def zcu:List Value→List Value→Bool
 | [],_=>true
 | a::r,l=>match l with
  | []=>false
  | b::s=>match a with
   | .int _ x=>match b with
    | .int _ y=>bif decide (x≤y) then zcu r s else false
    | _=>false
   | _=>false
def zqP (h:SHeap) (x y:Option (List Value)):Ex (Value×SHeap):=match x with
 | some (.bool e::l)=>match y with
  | some (.bool e'::l')=>bif zbu l&&zbu l' then .ok (.bool (bif e then true else bif e' then false else zcu l l'),h) else .error "within  cells"
  | _=>.error "within  cells"
 | _=>.error "within  cells"
def znh (h:SHeap) (x y:Option SObj):Ex (Value×SHeap):=match x with
 | some (.cells c n _ _ _)=>match y with
  | some (.cells c' n' _ _ _)=>bif Nat.beq n 3601&&Nat.beq n' 3601&&Nat.ble h.next lim then zqP h (c.toL 32 3601) (c'.toL 32 3601) else .error "within  sizes"
  | _=>.error "within  block"
 | _=>.error "within  block"
def withinQ (args:List Value) (h:SHeap):Ex (Value×SHeap):=match args with
 | [.pointer (some ⟨b,0,none⟩),.pointer (some ⟨d,0,none⟩)]=>znh h (h.t.get b) (h.t.get d)
 | _=>.error "within  args"
def zbA:Int→Bool
 | .ofNat m=>Nat.beq m 2305843009213693952
 | .negSucc _=>false
def zfx (k:Nat) (v:Value):List Value:=match v with
 | .int .i64 x=>bif Nat.beq (k/60) (k%60) then [] else bif zbA x then [] else [.int .i64 (.ofNat (k/60)),.int .i64 (.ofNat (k%60)),.int .i64 x]
 | _=>[]
def zdh:Nat→List Value→List Value
 | _,[]=>[]
 | k,v::r=>zfx k v++zci (k+1) fun k=>zdh k r
def zlf (h:SHeap) (out:List Value) (cnt:Nat):Ex (Value×SHeap):=match out with
 | []=>.ok (.slice none 0 0,h)
 | _::_=>.ok (.slice (some ⟨h.next+2*cnt-1,0,none⟩) cnt cnt,⟨h.t.put (h.next+2*cnt-1) (some (.cells (Tr.ofL 33 out) (cnt*3) 230 true false)),h.next+2*cnt⟩)
def zsc (h:SHeap) (x:Option (List Value)):Ex (Value×SHeap):=match x with
 | some (_::l)=>bif zbu l then zlf h (zdh 0 l) ((zdh 0 l).length/3) else .error "cons  cells"
 | _=>.error "cons  cells"
def zse (h:SHeap) (b:Nat) (x:Option SObj):Ex (Value×SHeap):=match x with
 | some (.cells c n _ _ _)=>bif Nat.beq n 3601&&Nat.ble (h.next+8000) lim&&Nat.blt b h.next then zsc h (c.toL 32 3601) else .error "cons  sizes"
 | _=>.error "cons  block"
def consQ (args:List Value) (h:SHeap):Ex (Value×SHeap):=match args with
 | [.pointer (some ⟨b,0,none⟩)]=>zse h b (h.t.get b)
 | _=>.error "cons  args"
def zaM (a b:Int):Int:=bif (a==2305843009213693952)||(b==2305843009213693952) then 2305843009213693952 else
 bif decide (zaK .i64 (a+b)>1152921504606846976) then 2305843009213693952 else bif decide (zaK .i64 (a+b) < -1152921504606846976) then -1152921504606846976 else zaK .i64 (a+b)
def sumQ (args:List Value) (h:SHeap):Ex (Value×SHeap):=match args with
 | [.int .i64 a,.int .i64 b]=>.ok (.int .i64 (zaM a b),h)
 | _=>.error "sum  args"
/-! ## short ways to write values -/
def rp (v:Value) (l:List Value) (n:Nat):List Value:=match n with
 | 0=>l
 | n+1=>v::rp v l n
def rl:List (Nat×Value)→List Value
 | []=>[]
 | (n,v)::r=>rp v (rl r) n
def sB (l:List Nat):Value:=.string ⟨(l.map UInt8.ofNat).toArray⟩
def sl (b o l c:Nat):Value:=.slice (some ⟨b,o,none⟩) l c
end
end Go.Sim
namespace Go.Sim
noncomputable section
def zfV {α β:Type} (f:α→Ex (List β)):List α→Ex (List β)
 | []=>.ok []
 | a::r=>match f a with
  | .error e=>.error e
  | .ok l=>match zfV f r with
   | .error e=>.error e
   | .ok m=>.ok (l++m)
def zoX (fx:Fx) (dst:Option Tmp) (tm:Tr Value) (ds:List Deferred) (k:St→Ex (List St)):Value×SHeap→Ex (List St)
 | (v,⟨t,next⟩)=>(zcr tm fx.nt dst v).force fun tm=>t.force fun t=>k ⟨tm,⟨t,next⟩,ds⟩
def zfW (o:Oper):Option Operand:=match o with
 | ⟨_,op,_,_,_,g⟩=>match op with
  | .next x b=>match b with
   | false=>match g with
    | none=>some x
    | some _=>none
   | true=>none
  | _=>none
def zhb (E:Env) (ih:K) (fx:Fx) (all:Array Oper):List Oper→St→Ex (List St)
 | [],st=>.ok [st]
 | o::r,st=>match zfW o with
  | some x=>match st with
   | ⟨tm,h,ds⟩=>match zjT (evT E.G tm x) h with
    | .error e=>.error e
    | .ok l=>zfV (zoX fx o.dst tm ds (zhb E ih fx all r)) l
  | none=>match opS E ih fx all o st with
   | .error e=>.error e
   | .ok st=>zhb E ih fx all r st
inductive OutN where
 | out (o:Out)
 | goto (l:Nat)
abbrev NR:=Ex (List (OutN×St))
def zmQ:Ex (List St)→NR
 | .error e=>.error e
 | .ok l=>.ok (l.map fun st=>(.out .normal,st))
def zgs (k:St→NR):OutN×St→NR
 | (o,st)=>match o with
  | .out .normal=>k st
  | o=>.ok [(o,st)]
def zlZ (i:Nat):OutN×St→OutN×St
 | (o,st)=>match o with
  | .out (.exit j)=>bif Nat.beq j i then (.out .normal,st) else (.out (.exit j),st)
  | o=>(o,st)
def zuj (i:Nat):NR→NR
 | .error e=>.error e
 | .ok l=>.ok (l.map (zlZ i))
def zeN (k:OutN×St→NR) (r:NR):NR:=match r with
 | .error e=>.error e
 | .ok l=>zfV k l
def znj (f:St→NR):Nat→St→NR
 | 0,_=>.error "many  fuel"
 | n+1,st=>zeN (zgs (znj f n)) (f st)
def zjD (r:RS):NR:=match r with
 | .error e=>.error e
 | .ok (o,st)=>.ok [(.out o,st)]
def zfX (run:Code→St→NR) (body:Code):Nat→OutN×St→NR
 | 0,_=>.error "many  fuel"
 | n+1,(o,st)=>match o with
  | .goto l=>match findLabel body l with
   | some rest=>zeN (zfX run body n) (run rest st)
   | none=>.ok [(.goto l,st)]
  | o=>.ok [(o,st)]
def zbo (E:Env) (ih:K) (fx:Fx):Nat→Code→St→NR
 | 0,_,_=>.error "many  fuel"
 | n+1,c,st=>match c with
  | .region id ops d=>match d with
   | false=>zmQ (zhb E ih fx ops ops.toList st)
   | true=>zjD (zab (.region id ops true) E ih fx st)
  | .seq a b=>zeN (zgs (zbo E ih fx n b)) (zbo E ih fx n a st)
  | .cond c a b=>match evT E.G st.tm c with
   | some (.bool t)=>match t with
    | true=>zbo E ih fx n a st
    | false=>zbo E ih fx n b st
   | _=>.error "many  cond"
  | .block i b=>zuj i (zbo E ih fx n b st)
  | .loop b=>znj (zbo E ih fx n b) 1000 st
  | .scope b=>zeN (zfX (zbo E ih fx n) b 4000) (zbo E ih fx n b st)
  | .goto l=>.ok [(.goto l,st)]
  | .skip=>zjD (zab .skip E ih fx st)
  | .rangeFunc f ps a b=>zjD (zab (.rangeFunc f ps a b) E ih fx st)
  | .exit i=>zjD (zab (.exit i) E ih fx st)
  | .label i=>zjD (zab (.label i) E ih fx st)
  | .ret=>zjD (zab .ret E ih fx st)
  | .refuse s=>zjD (zab (.refuse s) E ih fx st)
def zkd (E:Env) (ih:K) (fd:Func):OutN×St→Ex (List (Value×SHeap))
 | (o,st)=>match o with
  | .goto _=>.error "goto  no such label"
  | .out (.exit _)=>.error "exit  no such block"
  | _=>match zeQ E ih fd st with
   | .error e=>.error e
   | .ok p=>.ok [p]
def zkm (E:Env) (ih:K) (f:FuncId) (args:Array Value) (h:SHeap):Ex (List (Value×SHeap)):=
 match E.F f with
 | some fd=>match fd.body with
  | some c=>match zbo E ih ⟨f,max fd.ntmps args.size,.normal,none⟩ 1000 c ⟨Tr.ofL 33 args.toList,h,[]⟩ with
   | .error e=>.error e
   | .ok l=>zfV (zkd E ih fd) l
  | none=>.error "enter  body"
 | none=>.error "enter"
def zjR (m:Memo):List (Value×SHeap)→Bool
 | []=>true
 | p::r=>zew m (.ok p)&&zjR m r
def ziV (E:Env) (ih:K) (m:Memo):Bool:=match zkm E ih m.f m.args.toArray (zdk m) with
 | .ok l=>zjR m l
 | .error _=>false
end
end Go.Sim
namespace Go.Sim
noncomputable section
abbrev Sub:=List (Nat×Nat)
def zcU:Sub→Nat→Option Nat
 | [],_=>none
 | p::r,b=>bif Nat.beq p.1 b then some p.2 else zcU r b
def zlz:Sub→Nat→Bool
 | [],_=>false
 | p::r,c=>bif Nat.beq p.2 c then true else zlz r c
def zmm (G N b c:Nat) (s:Sub):Option Sub:=
 bif Nat.blt b G then (bif Nat.beq b c then some s else none) else
 bif Nat.blt b N then (match zcU s b with
  | some d=>bif Nat.beq d c then some s else none
  | none=>bif Nat.blt c G||zlz s c then none else some ((b,c)::s))
 else none
def zeq (G:Nat) (s:Sub) (b:Nat):Option Nat:=bif Nat.blt b G then some b else zcU s b
def zfa (f:Value→Value→Sub→Option Sub):List Value→List Value→Sub→Option Sub
 | [],[],s=>some s
 | a::r,b::t,s=>match f a b s with
  | some s=>zfa f r t s
  | none=>none
 | _,_,_=>none
def zgl (G N:Nat):Nat→Value→Value→Sub→Option Sub
 | 0,_,_,_=>none
 | n+1,v,w,s=>match v,w with
  | .int k a,.int l b=>bif decide (k=l)&&decide (a=b) then some s else none
  | .bool a,.bool b=>bif zdM a b then some s else none
  | .string a,.string b=>if a.data.toList=b.data.toList then some s else none
  | .pointer none,.pointer none=>some s
  | .pointer (some ⟨b,o,none⟩),.pointer (some ⟨c,q,none⟩)=>bif Nat.beq o q then zmm G N b c s else none
  | .slice none l k,.slice none m j=>bif Nat.beq l m&&Nat.beq k j then some s else none
  | .slice (some ⟨b,o,none⟩) l k,.slice (some ⟨c,q,none⟩) m j=>bif Nat.beq o q&&Nat.beq l m&&Nat.beq k j then zmm G N b c s else none
  | .map none,.map none=>some s
  | .map (some b),.map (some c)=>zmm G N b c s
  | .nilFunc,.nilFunc=>some s
  | .nilIface,.nilIface=>some s
  | .complex f a b,.complex g c d=>bif Nat.blt 0 G&&zwz f g&&Nat.beq a c&&Nat.beq b d then some s else none
  | .iface t a,.iface u b=>bif Nat.beq t u then zgl G N n a b s else none
  | .agg a,.agg b=>zfa (zgl G N n) a.toList b.toList s
  | .tuple a,.tuple b=>zfa (zgl G N n) a.toList b.toList s
  | .func (.func f) a b,.func (.func g) c d=>bif Nat.beq f g then (match zfa (zgl G N n) a.toList c.toList s with
   | some s=>zfa (zgl G N n) b.toList d.toList s
   | none=>none) else none
  | _,_=>none
def zkg (f:Value→Value→Sub→Option Sub):List MapEntry→List MapEntry→Sub→Option Sub
 | [],[],s=>some s
 | a::r,b::t,s=>bif zdz 12 a.key b.key&&Nat.beq a.born b.born then (match f a.val b.val s with
  | some s=>zkg f r t s
  | none=>none) else none
 | _,_,_=>none
def zty (G:Nat) (f:Value→Value→Sub→Option Sub) (m:MObj) (o:SObj) (s:Sub):Option Sub:=match m,o with
 | .cells l e op ro,.cells c n e' op' ro'=>bif Nat.beq n l.length&&Nat.beq e e'&&zdM op op'&&zdM ro ro'&&Nat.ble n lim then (match zky c n with
  | some l2=>zfa f l l2 s
  | none=>none) else none
 | .map es k,.map es' k'=>bif Nat.beq k k' then zkg f es es'.toList s else none
 | .zone zt es,.cells c n e o r=>bif Nat.blt 0 G&&Nat.beq n 3601&&Nat.beq e zt&&zdM o false&&zdM r false&&zem true c (ziq es) then some s else none
 | _,_=>none
def zkW (G:Nat) (f:Value→Value→Sub→Option Sub) (t:Tr SObj):List (Nat×MObj)→Sub→Option Sub
 | [],s=>some s
 | p::r,s=>match zeq G s p.1 with
  | some c=>match t.get c with
   | some o=>match zty G f p.2 o s with
    | some s=>zkW G f t r s
    | none=>none
   | none=>none
  | none=>none
def zhG (G N next:Nat) (s:Sub) (b:Nat):Option Nat:=bif Nat.blt b G then some b else bif Nat.ble N b then some (b-N+next) else zcU s b
def zmn (f:Value→Option Value):List Value→Option (List Value)
 | []=>some []
 | a::r=>match f a with
  | some a=>match zmn f r with
   | some r=>some (a::r)
   | none=>none
  | none=>none
def zia (nf:Nat→Option Nat):Nat→Value→Option Value
 | 0,_=>none
 | n+1,v=>match v with
  | .int k a=>some (.int k a)
  | .bool a=>some (.bool a)
  | .string a=>some (.string a)
  | .pointer none=>some (.pointer none)
  | .pointer (some ⟨b,o,none⟩)=>match nf b with
   | some c=>some (.pointer (some ⟨c,o,none⟩))
   | none=>none
  | .slice none l k=>some (.slice none l k)
  | .slice (some ⟨b,o,none⟩) l k=>match nf b with
   | some c=>some (.slice (some ⟨c,o,none⟩) l k)
   | none=>none
  | .map none=>some (.map none)
  | .map (some b)=>match nf b with
   | some c=>some (.map (some c))
   | none=>none
  | .nilFunc=>some .nilFunc
  | .nilIface=>some .nilIface
  | .complex f a b=>match nf 0 with
   | some c=>bif Nat.beq c 0 then some (.complex f a b) else none
   | none=>none
  | .iface t a=>match zia nf n a with
   | some a=>some (.iface t a)
   | none=>none
  | .agg a=>match zmn (zia nf n) a.toList with
   | some l=>some (.agg l.toArray)
   | none=>none
  | .tuple a=>match zmn (zia nf n) a.toList with
   | some l=>some (.tuple l.toArray)
   | none=>none
  | .func (.func f) a b=>match zmn (zia nf n) a.toList with
   | some l=>match zmn (zia nf n) b.toList with
    | some l2=>some (.func (.func f) l.toArray l2.toArray)
    | none=>none
   | none=>none
  | _=>none
def zxK (f:Value→Option Value):List MapEntry→Option (List MapEntry)
 | []=>some []
 | a::r=>match f a.val with
  | some v=>match zxK f r with
   | some r=>some ({ key:=a.key,val:=v,born:=a.born }::r)
   | none=>none
  | none=>none
def zmg (z:Bool) (f:Value→Option Value):MObj→Option SObj
 | .cells l e op ro=>match zmn f l with
  | some l=>some (.cells (Tr.ofL 33 l) l.length e op ro)
  | none=>none
 | .map es k=>match zxK f es with
  | some es=>some (.map es.toArray k)
  | none=>none
 | .zone zt es=>bif z then (ziq es).force fun t=>some (.cells t 3601 zt false false) else none
def zwm (z:Bool) (nf:Nat→Option Nat) (f:Value→Option Value) (t:Tr SObj):List (Nat×MObj)→Option (Tr SObj)
 | []=>some t
 | p::r=>match zwm z nf f t r with
  | some t=>match nf p.1 with
   | some c=>match zmg z f p.2 with
    | some o=>(t.put c (some o)).force fun t=>some t
    | none=>none
   | none=>none
  | none=>none
def zrY (G:Nat) (s:Sub) (t:Tr SObj):List (Nat×MObj)→Tr SObj
 | []=>t
 | p::r=>(zrY G s t r).force fun t=>match zeq G s p.1 with
  | some c=>t.put c none
  | none=>t
def zmr (G:Nat) (m:Memo) (args:List Value) (h:SHeap):Ex (Value×SHeap):=match zfa (zgl G m.next 8) m.args args [] with
 | none=>.error "memo  args"
 | some s=>match zkW G (zgl G m.next 8) h.t m.pre s with
  | none=>.error "memo  blocks"
  | some s=>match zia (zhG G m.next h.next s) 8 m.v with
   | none=>.error "memo  value"
   | some v=>match zwm (Nat.blt 0 G) (zhG G m.next h.next s) (zia (zhG G m.next h.next s) 8) (zrY G s h.t m.pre) m.post with
    | none=>.error "memo  put"
    | some t=>.ok (v,⟨t,h.next+(m.next'-m.next)⟩)
end
end Go.Sim
namespace Go.Sim
noncomputable section
def zsZ {α:Type} (f:α→Bool):List α→Bool
 | []=>true
 | a::r=>bif f a then zsZ f r else false
def zpn {α:Type} (B:Nat) (f:α→List Nat→Bool) (l:List α) (s:List Nat):Bool:=match s with
 | []=>zsZ (fun a=>f a []) l
 | i::s=>match l with
  | []=>true
  | [a]=>f a (i::s)
  | a::b::r=>bif Nat.ble (a::b::r).length B then (match (a::b::r)[i]? with
   | some p=>f p s
   | none=>true) else false
def zrV (fx:Fx) (dst:Option Tmp) (tm:Tr Value) (ds:List Deferred) (k:St→Bool):Value×SHeap→Bool
 | (v,⟨t,next⟩)=>(zcr tm fx.nt dst v).force fun tm=>t.force fun t=>k ⟨tm,⟨t,next⟩,ds⟩
def zlj (E:Env) (ih:K) (fx:Fx) (all:Array Oper) (B:Nat) (k:St→List Nat→Bool):List Oper→St→List Nat→Bool
 | [],st,s=>k st s
 | o::r,st,s=>match zfW o with
  | some x=>match st with
   | ⟨tm,h,ds⟩=>match zjT (evT E.G tm x) h with
    | .error _=>false
    | .ok l=>zpn B (fun p s=>zrV fx o.dst tm ds (fun st=>zlj E ih fx all B k r st s) p) l s
  | none=>match opS E ih fx all o st with
   | .error _=>false
   | .ok st=>zlj E ih fx all B k r st s
abbrev CK':=OutN×St→List Nat→Bool
def ztX (k:CK') (s:List Nat) (r:RS):Bool:=match r with
 | .error _=>false
 | .ok (o,st)=>k (.out o,st) s
def zxj (f:St→List Nat→Bool) (k:CK'):CK':=fun p s=>match p with
 | (o,st)=>match o with
  | .out .normal=>f st s
  | o=>k (o,st) s
def zwL (f:CK'→St→List Nat→Bool) (k:CK'):Nat→St→List Nat→Bool
 | 0,_,_=>false
 | n+1,st,s=>f (zxj (zwL f k n) k) st s
def zgh (E:Env) (ih:K) (fx:Fx) (B:Nat):Nat→Code→CK'→St→List Nat→Bool
 | 0,_,_,_,_=>false
 | n+1,c,k,st,s=>match c with
  | .region id ops d=>match d with
   | false=>zlj E ih fx ops B (fun st s=>k (.out .normal,st) s) ops.toList st s
   | true=>ztX k s (zab (.region id ops true) E ih fx st)
  | .seq a b=>zgh E ih fx B n a (zxj (zgh E ih fx B n b k) k) st s
  | .cond c a b=>match evT E.G st.tm c with
   | some (.bool t)=>match t with
    | true=>zgh E ih fx B n a k st s
    | false=>zgh E ih fx B n b k st s
   | _=>false
  | .block i b=>zgh E ih fx B n b (fun p s=>k (zlZ i p) s) st s
  | .loop b=>zwL (zgh E ih fx B n b) k 1000 st s
  | .skip=>ztX k s (zab .skip E ih fx st)
  | .exit i=>ztX k s (zab (.exit i) E ih fx st)
  | .ret=>ztX k s (zab .ret E ih fx st)
  | _=>false
def zuC (E:Env) (ih:K) (fd:Func) (m:Memo):CK':=fun p _=>match p with
 | (o,st)=>match o with
  | .goto _=>false
  | .out (.exit _)=>false
  | _=>match zeQ E ih fd st with
   | .error _=>false
   | .ok q=>zew m (.ok q)
def ziJ (E:Env) (ih:K) (B:Nat) (m:Memo) (s:List Nat):Bool:=match E.F m.f with
 | some fd=>match fd.body with
  | some c=>zgh E ih ⟨m.f,max fd.ntmps m.args.toArray.size,.normal,none⟩ B 1000 c (zuC E ih fd m) ⟨Tr.ofL 33 m.args.toArray.toList,zdk m,[]⟩ s
  | none=>false
 | none=>false
end
end Go.Sim
namespace Go.Sim
noncomputable section
def jaB:List Value:=[.int .i64 26,.bool false,.bool false,.int .i64 0,.int .i64 0,.int .i64 0,.int .i64 (-1),.int .i64 0]
def zoB:List Value:=[.int .i64 0,.slice none 0 0,.slice none 0 0,.slice none 0 0]
structure MPl where
 m:Nat
 cb:Nat
 cc:Nat
 ub:Nat
 ul:Nat
 uc:Nat
 bb:Nat
def zwN (h:SHeap) (m:Nat):Option MPl:=match h.t.get m with
 | some (.cells c n e o ro)=>match ro with
  | true=>none
  | false=>match c.get 470,c.get 468,c.get 420,c.get 421,c.get 422,c.get 469 with
   | some (.bool false),some (.int .i64 (.ofNat x1)),some (.slice (some ⟨cb,0,none⟩) n2 cc),some (.slice (some ⟨ub,0,none⟩) ul uc),some (.map (some bb)),some (.int .i64 _)=>
    match h.t.get cb,h.t.get ub,h.t.get bb with
    | some (.cells c2 _ _ _ _),some (.cells c3 _ _ _ _),some (.map es _)=>
     match c2.toListFrom 8 8,c3.get 2,Instr.findNow (.int .i64) (.int .i64 (.ofNat 1)) es.toList 0 with
     | some l,some (.int .i64 (.ofNat x2)),some (some (_,.int .i64 (.ofNat x3)))=>
      bif zhc l jaB&&(Nat.beq e 84&&(Nat.beq x1 1&&(Nat.beq n2 2&&(Nat.beq x2 2&&(Nat.beq x3 1&&(Nat.ble 471 n&&Nat.blt 2 ul)))))) then some ⟨m,cb,cc,ub,ul,uc,bb⟩ else none
     | _,_,_=>none
    | _,_,_=>none
   | _,_,_,_,_,_=>none
 | _=>none
def zxn (m f:Nat) (st:St):Ex (Value×SHeap):=match st with
 | ⟨tm,h,ds⟩=>match ds with
  | _::_=>.error "mach  defers"
  | []=>match tm.get 0,tm.get 1,tm.get 4,tm.get 6 with
   | some (.pointer (some ⟨m',0,none⟩)),some (.int .i64 (.ofNat f')),some (.pointer (some ⟨q,0,none⟩)),some (.int .i64 (.ofNat j))=>
    match zwN h m,h.t.get q with
    | some p,some (.cells _ nq eq false false)=>
     bif Nat.beq m m'&&(Nat.beq f f'&&(Nat.beq j 1&&(Nat.beq nq 4&&(Nat.beq eq 45&&(Nat.ble 1 f&&(Nat.ble f 3900&&(!Nat.beq m p.cb&&(!Nat.beq m p.ub&&(!Nat.beq m p.bb&&(!Nat.beq m q&&(Nat.blt m h.next&&(Nat.blt p.cb h.next&&(Nat.blt p.ub h.next&&(Nat.blt p.bb h.next&&Nat.ble (h.next+12*f) lim)))))))))))))) then
      zci (h.next+12*(f-1)) fun n=>((h.t.put m none).put q none).force fun t=>.ok (.tuple #[.agg zoB.toArray,.int .i64 88],⟨t,n⟩)
     else .error "mach  state"
    | _,_=>.error "mach  machine"
   | _,_,_,_=>.error "mach  frame"
def zwK (E:Env) (ih:K) (c0 B:Code) (args:List Value) (h:SHeap):Ex (Value×SHeap):=match args with
 | [.pointer (some ⟨m,0,none⟩),.int .i64 (.ofNat f)]=>match zbo E ih ⟨9,48,.normal,none⟩ 999 c0 ⟨Tr.ofL 33 args,h,[]⟩ with
  | .ok [(.out .normal,st)]=>match zbo E ih ⟨9,48,.normal,none⟩ 998 B st with
   | .ok [(.goto l,st)]=>bif Nat.beq l 0 then zxn m f st else .error "mach  jump"
   | _=>.error "mach  first"
  | _=>.error "mach  start"
 | _=>.error "mach  args"
end
end Go.Sim

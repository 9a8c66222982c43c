/- zone.Put as an oracle: definitions. zone.Bound as an oracle: definitions. zone.and as an oracle: definitions. zone.Join and zone.Widen as oracles: definitions. zone.Assign as an oracle: definitions. A tag out of tags as an oracle: definitions. shape.good as an oracle: definitions. tags.valued as an oracle: definitions. zone.Forget of a list as an oracle: definitions. Quick forms of the oracles on tables: definitions. Oracles on tables whose numbers hang on unknown ones: definitions. Sums over bytes as oracles: definitions. -/
import Derived.Test.YtghhpeemloeljaaGreatMemD
set_option linter.unusedVariables false
set_option linter.unusedSimpArgs false
namespace Go.Sim
noncomputable section
def zqz (x y:Int):Int:=bif decide (y<x) then y else x
def fv (c:Tr Value) (i:Nat):Int:=match c.get i with
 | some (.int _ v)=>v
 | _=>0
def isI (v:Option Value):Bool:=match v with
 | some (.int k _)=>match k with
  | .i64=>true
  | _=>false
 | _=>false
def isT (v:Option Value):Bool:=match v with
 | some (.bool b)=>b
 | _=>false
def zAE (v:Option Value):Bool:=match v with
 | some (.bool _)=>true
 | _=>false
def inB (v:Int):Bool:=decide (-1152921504606846976≤v)&&decide (v≤1152921504606846976)
def zeM (p:Nat→Bool):Nat→Bool
 | 0=>true
 | n+1=>bif p n then zeM p n else false
def zlG (t:Tr Value) (x j:Nat):Bool:=zAE (t.get (j*2))&&isI (t.get (j*2+1))&&(bif Nat.beq j x then true else bif isT (t.get (j*2)) then inB (fv t (j*2+1)) else true)
def bdJ (t:Tr Value) (x j:Nat):Int:=bif Nat.beq j x then 2305843009213693952 else bif isT (t.get (j*2)) then fv t (j*2+1) else 2305843009213693952
def zbR (g:Nat→Int):Nat→List Value→List Value
 | 0,acc=>acc
 | k+1,acc=>zdp (g k) fun v=>zbR g k (.int .i64 v::acc)
def fuJ (a c:Tr Value) (x q:Nat):Nat→Nat→Int→Int
 | 0,_,acc=>acc
 | n+1,k,acc=>bif Nat.beq k x then zci (k+1) fun k=>fuJ a c x q n k acc else
   zdp (zaM (fv a k) (fv c (1+(k*60+q)))) fun s=>zdp (zqz acc s) fun acc=>zci (k+1) fun k=>fuJ a c x q n k acc
def fdJ (b c:Tr Value) (x q:Nat):Nat→Nat→Int→Int
 | 0,_,acc=>acc
 | n+1,k,acc=>bif Nat.beq k x then zci (k+1) fun k=>fdJ b c x q n k acc else
   zdp (zaM (fv c (1+(q*60+k))) (fv b k)) fun s=>zdp (zqz acc s) fun acc=>zci (k+1) fun k=>fdJ b c x q n k acc
def zpG (c u d:Tr Value) (x i:Nat):Int:=
 bif Nat.beq (i/60) x then (bif Nat.beq (i%60) x then fv c (1+i) else fv u (i%60)) else
 bif Nat.beq (i%60) x then fv d (i/60) else zqz (fv c (1+i)) (zaM (fv d (i/60)) (fv u (i%60)))
def zpE (zt:Nat) (h:SHeap) (r:Tr Value):Ex (Value×SHeap):=bif zeM (fun i=>decide (0≤fv r (1+(i*60+i)))) 60 then
  .ok (.tuple #[.pointer (some ⟨h.next+128,0,none⟩),.int .i64 0],⟨h.t.put (h.next+128) (some (.cells r 3601 zt false false)),h.next+129⟩)
 else .error "put  sign"
def zpK (zt:Nat) (h:SHeap) (x:Nat) (c u d:Tr Value):Ex (Value×SHeap):=(Tr.ofL 33 (.bool false::zbR (zpG c u d x) 3600 [])).force fun r=>zpE zt h r
def zpC (zt:Nat) (h:SHeap) (x:Nat) (c a b:Tr Value):Ex (Value×SHeap):=
 (Tr.ofL 33 (zbR (fun q=>fuJ a c x q 60 0 2305843009213693952) 60 [])).force fun u=>(Tr.ofL 33 (zbR (fun q=>fdJ b c x q 60 0 2305843009213693952) 60 [])).force fun d=>zpK zt h x c u d
def zpB (zt:Nat) (h:SHeap) (x:Nat) (c tl th:Tr Value):Ex (Value×SHeap):=bif zeM (zlG tl x) 60&&zeM (zlG th x) 60 then
  (Tr.ofL 33 (zbR (bdJ tl x) 60 [])).force fun a=>(Tr.ofL 33 (zbR (bdJ th x) 60 [])).force fun b=>zpC zt h x c a b
 else .error "put  bounds"
def zpA (zt:Nat) (h:SHeap) (x:Nat) (z l u:Option SObj):Ex (Value×SHeap):=match z with
 | some (.cells c n e false false)=>match l with
  | some (.cells tl _ _ _ _)=>match u with
   | some (.cells th _ _ _ _)=>match c.toL 32 3601 with
    | some (.bool false::cs)=>bif zbu cs&&Nat.beq n 3601&&Nat.beq e zt&&Nat.ble (h.next+129) lim&&Nat.blt x 60&&Nat.ble 1 x then zpB zt h x c tl th else .error "put  sizes"
    | _=>.error "put  cells"
   | _=>.error "put  hi"
  | _=>.error "put  lo"
 | _=>.error "put  zone"
def zpQ (zt:Nat) (args:List Value) (h:SHeap):Ex (Value×SHeap):=match args with
 | [.pointer (some ⟨z,0,none⟩),.int .i64 (.ofNat x),.slice (some ⟨bl,0,none⟩) l1 _,.slice (some ⟨bh,0,none⟩) l2 _]=>bif Nat.beq l1 60&&Nat.beq l2 60 then zpA zt h x (h.t.get z) (h.t.get bl) (h.t.get bh) else .error "put  args"
 | _=>.error "put  args"
end
end Go.Sim
namespace Go.Sim
noncomputable section
def znT (v:Int):Value:=bif zbA v then .agg #[.bool false,.int .i64 0] else .agg #[.bool true,.int .i64 v]
def zxM (h:SHeap) (x y:Nat) (o:Option SObj):Ex (Value×SHeap):=match o with
 | some (.cells c n _ _ _)=>bif Nat.beq n 3601&&Nat.blt x 60&&Nat.blt y 60&&Nat.blt h.next lim then match c.get 0 with
   | some (.bool false)=>match c.get (1+(x*60+y)) with
    | some (.int .i64 v)=>.ok (znT v,⟨h.t,h.next+1⟩)
    | _=>.error "bound  cell"
   | _=>.error "bound  empty"
  else .error "bound  sizes"
 | _=>.error "bound  block"
def boundQ (args:List Value) (h:SHeap):Ex (Value×SHeap):=match args with
 | [.pointer (some ⟨b,0,none⟩),.int .i64 (.ofNat x),.int .i64 (.ofNat y)]=>zxM h x y (h.t.get b)
 | _=>.error "bound  args"
def zix (a:Bool) (x:Int) (b:Bool) (y:Int):Value:=bif a&&b then zdp (zaK .i64 (x+y)) fun s=>bif decide (s>1152921504606846976) then .agg #[.bool false,.int .i64 0] else
  .agg #[.bool true,.int .i64 (bif decide (-1152921504606846976>s) then -1152921504606846976 else s)] else .agg #[.bool false,.int .i64 0]
def plusQ (args:List Value) (h:SHeap):Ex (Value×SHeap):=match args with
 | [.agg ⟨[.bool a,.int .i64 x]⟩,.agg ⟨[.bool b,.int .i64 y]⟩]=>bif Nat.blt (h.next+2) lim then .ok (zix a x b y,⟨h.t,h.next+3⟩) else .error "plus  names"
 | _=>.error "plus  args"
def zim (a:Bool) (x:Int) (b:Bool) (y:Int):Value:=bif (bif a then (bif b then decide (y<x) else false) else true) then .agg #[.bool b,.int .i64 y] else .agg #[.bool a,.int .i64 x]
def lessQ (args:List Value) (h:SHeap):Ex (Value×SHeap):=match args with
 | [.agg ⟨[.bool a,.int .i64 x]⟩,.agg ⟨[.bool b,.int .i64 y]⟩]=>bif Nat.blt (h.next+2) lim then .ok (zim a x b y,⟨h.t,h.next+3⟩) else .error "lesser  names"
 | _=>.error "lesser  args"
end
end Go.Sim
namespace Go.Sim
noncomputable section
def zjC (c u:Tr Value) (j k:Nat):Int:=zdp (fv u (k/60)) fun t=>bif zbA t then fv c (1+k) else zqz (fv c (1+k)) (zaM t (fv c (1+(j*60+k%60))))
def zto (zt:Nat) (h:SHeap) (r:Tr Value):Ex (Value×SHeap):=bif zeM (fun i=>decide (0≤fv r (1+(i*60+i)))) 60 then
  .ok (.pointer (some ⟨h.next+3,0,none⟩),⟨h.t.put (h.next+3) (some (.cells r 3601 zt false false)),h.next+4⟩)
 else .error "and  sign"
def zzY (zt:Nat) (h:SHeap) (c:Tr Value) (i j:Nat) (v:Int):Ex (Value×SHeap):=
 (Tr.ofL 33 (zbR (fun p=>zaM (fv c (1+(p*60+i))) v) 60 [])).force fun u=>(Tr.ofL 33 (.bool false::zbR (zjC c u j) 3600 [])).force fun r=>zto zt h r
def zwr (zt:Nat) (h:SHeap) (z:Nat) (c:Tr Value) (i j:Nat) (v:Int):Ex (Value×SHeap):=
 bif decide (fv c (1+(i*60+j))≤v) then .ok (.pointer (some ⟨z,0,none⟩),⟨h.t,h.next+1⟩) else
 bif decide (zaM (fv c (1+(j*60+i))) v<0) then .error "and  void" else zzY zt h c i j v
def zBl (zt:Nat) (h:SHeap) (z i j:Nat) (v:Int) (o:Option SObj):Ex (Value×SHeap):=match o with
 | some (.cells c n e false false)=>match c.toL 32 3601 with
  | some (.bool false::cs)=>bif zbu cs&&Nat.beq n 3601&&Nat.beq e zt&&Nat.ble (h.next+4) lim&&Nat.blt i 60&&Nat.blt j 60&&(bif Nat.beq i j then false else true) then zwr zt h z c i j v else .error "and  sizes"
  | _=>.error "and  cells"
 | _=>.error "and  zone"
def zqB (zt:Nat) (args:List Value) (h:SHeap):Ex (Value×SHeap):=match args with
 | [.pointer (some ⟨z,0,none⟩),.agg ⟨[.int .i64 (.ofNat i),.int .i64 (.ofNat j),.int .i64 v]⟩]=>zBl zt h z i j v (h.t.get z)
 | _=>.error "and  args"
def orQ (a b:List Value→SHeap→Ex (Value×SHeap)) (args:List Value) (h:SHeap):Ex (Value×SHeap):=match a args h with
 | .ok r=>.ok r
 | .error _=>b args h
end
end Go.Sim
namespace Go.Sim
noncomputable section
def zie (x y:Int):Int:=bif decide (y>x) then y else x
def zid (x y:Int):Int:=bif decide (y>x) then 2305843009213693952 else x
def zqh (F:Int→Int→Int) (zt:Nat) (args:List Value) (h:SHeap):Ex (Value×SHeap):=match args with
 | [.pointer (some ⟨z,0,none⟩),.pointer (some ⟨o,0,none⟩)]=>match h.t.get z with
  | some (.cells c n e false false)=>match c.toL 32 3601 with
   | some (.bool false::cs)=>match h.t.get o with
    | some (.cells c2 n2 e2 false false)=>match c2.toL 32 3601 with
     | some (.bool false::cs2)=>bif zbu cs&&zbu cs2&&Nat.beq n 3601&&Nat.beq e zt&&Nat.beq n2 3601&&Nat.beq e2 zt&&Nat.ble (h.next+1) lim then
       (Tr.ofL 33 (.bool false::zbR (fun k=>F (fv c (1+k)) (fv c2 (1+k))) 3600 [])).force fun r=>.ok (.pointer (some ⟨h.next,0,none⟩),⟨h.t.put h.next (some (.cells r 3601 zt false false)),h.next+1⟩)
      else .error "join  sizes"
     | _=>.error "join  cells"
    | _=>.error "join  zone"
   | _=>.error "join  cells"
  | _=>.error "join  zone"
 | _=>.error "join  args"
end
end Go.Sim
namespace Go.Sim
noncomputable section
def zus (c:Tr Value) (x y:Nat) (v nv:Int) (k:Nat):Int:=
 bif Nat.beq (k/60) x then (bif Nat.beq (k%60) x then fv c (1+k) else zaM (fv c (1+(y*60+k%60))) v) else
 bif Nat.beq (k%60) x then zaM (fv c (1+(k/60*60+y))) nv else fv c (1+k)
def zAz (zt:Nat) (h:SHeap) (x y:Nat) (v:Int) (o:Option SObj):Ex (Value×SHeap):=match o with
 | some (.cells c n e false false)=>match c.toL 32 3601 with
  | some (.bool false::cs)=>bif zbu cs&&Nat.beq n 3601&&Nat.beq e zt&&Nat.ble (h.next+1) lim&&Nat.blt x 60&&Nat.blt y 60&&Nat.ble 1 x&&inB v then
    zdp (zaK .i64 (0-v)) fun nv=>(Tr.ofL 33 (.bool false::zbR (zus c x y v nv) 3600 [])).force fun r=>.ok (.tuple #[.pointer (some ⟨h.next,0,none⟩),.int .i64 0],⟨h.t.put h.next (some (.cells r 3601 zt false false)),h.next+1⟩)
   else .error "assign  sizes"
  | _=>.error "assign  cells"
 | _=>.error "assign  zone"
def zxt (zt:Nat) (args:List Value) (h:SHeap):Ex (Value×SHeap):=match args with
 | [.pointer (some ⟨z,0,none⟩),.int .i64 (.ofNat x),.int .i64 (.ofNat y),.int .i64 v]=>zAz zt h x y v (h.t.get z)
 | _=>.error "assign  args"
end
end Go.Sim
namespace Go.Sim
noncomputable section
def zJN (h:SHeap):List Value→Ex (Value×SHeap)
 | .int k x :: .int l y :: .int j z::_=>.ok (.agg #[.int k x,.int l y,.int j z],⟨h.t,h.next+2⟩)
 | _=>.error "tag  cells"
def tagQ (args:List Value) (h:SHeap):Ex (Value×SHeap):=match args with
 | [.agg ⟨cs⟩,.int .i64 (.ofNat v)]=>bif (Nat.blt v 2||Nat.ble 44 v)&&Nat.blt (h.next+1) lim then .ok (.agg #[.int .i64 0,.int .i64 0,.int .i64 0],⟨h.t,h.next+2⟩) else bif Nat.beq cs.length 126&&Nat.ble 2 v&&Nat.blt v 44&&Nat.blt (h.next+1) lim then zJN h (cs.drop ((v-2)*3)) else .error "tag  sizes"
 | _=>.error "tag  args"
end
end Go.Sim
namespace Go.Sim
noncomputable section
def zth (kd a b:Int) (fl:Bool):Bool:=
 bif (bif kd==5 then true else kd==6) then (bif (bif b==0 then decide (a≥0) else false) then decide (a<8) else false) else
 bif kd==0 then (bif a==0 then (bif b==0 then true else (bif (bif fl then decide (b>0) else false) then decide (b≤255) else false)) else false) else
 bif (bif kd==1 then true else bif kd==2 then true else bif kd==3 then true else kd==4) then (kd==kd)&&((a==0)&&(b==0)) else false
def gooQ (args:List Value) (h:SHeap):Ex (Value×SHeap):=match args with
 | [.agg ⟨[.int .i64 kd,.int .i64 a,.int .i64 b]⟩,.bool fl]=>bif Nat.blt h.next lim then .ok (.bool (zth kd a b fl),⟨h.t,h.next+1⟩) else .error "good  names"
 | _=>.error "good  args"
end
end Go.Sim
namespace Go.Sim
noncomputable section
def zKD (h:SHeap):List Value→Ex (Value×SHeap)
 | .int .i64 x :: .int .i64 _ :: .int .i64 _::_=>.ok (.bool (bif x != 0 then x != 6 else false),⟨h.t,h.next+3⟩)
 | _=>.error "valued  cells"
def valQ (args:List Value) (h:SHeap):Ex (Value×SHeap):=match args with
 | [.agg ⟨cs⟩,.int .i64 (.ofNat v)]=>bif Nat.beq cs.length 126&&Nat.blt (h.next+2) lim then
   (bif Nat.blt v 2||Nat.ble 44 v then .ok (.bool true,⟨h.t,h.next+1⟩) else zKD h (cs.drop ((v-2)*3))) else .error "valued  sizes"
 | _=>.error "valued  args"
end
end Go.Sim
namespace Go.Sim
noncomputable section
def zit:List Value→Option (List Int)
 | []=>some []
 | v::r=>match v with
  | .int .i64 x=>match zit r with
   | some l=>some (x::l)
   | none=>none
  | _=>none
def zcO:List Int→List Nat
 | []=>[]
 | x::r=>match x with
  | .ofNat n=>bif Nat.ble 1 n&&Nat.blt n 60 then n::zcO r else zcO r
  | .negSucc _=>zcO r
def zgz (p:Nat):List Nat→Bool
 | []=>false
 | q::r=>bif Nat.beq p q then true else zgz p r
def zqt (xs:List Nat) (k:Nat) (v:Value):Value:=bif Nat.beq (k/60) (k%60) then v else bif zgz (k/60) xs then .int .i64 2305843009213693952 else bif zgz (k%60) xs then .int .i64 2305843009213693952 else v
def zjI (xs:List Nat):Nat→List Value→List Value
 | _,[]=>[]
 | k,v::r=>(zfP (zqt xs k v) fun v=>v)::zci (k+1) fun k=>zjI xs k r
def zhy (sv:Value) (h:SHeap):Option (List Int):=match sv with
 | .slice none l _=>bif Nat.beq l 0 then some [] else none
 | .slice (some ⟨s,o,none⟩) l _=>match h.t.get s with
  | some (.cells c _ _ _ _)=>match c.toListFrom o l with
   | some vs=>zit vs
   | none=>none
  | _=>none
 | _=>none
def zlb (sv:Value):Nat:=match sv with
 | .slice _ l _=>l
 | _=>0
def znI (zt:Nat) (args:List Value) (h:SHeap):Ex (Value×SHeap):=match args with
 | [.pointer (some ⟨z,0,none⟩),sv]=>match h.t.get z with
  | some (.cells c n e false false)=>match c.toL 32 3601 with
   | some (.bool false::cs)=>match zhy sv h with
    | some xs=>bif zbu cs&&Nat.beq n 3601&&Nat.beq e zt&&Nat.ble (h.next+1) lim&&Nat.blt (zlb sv) 1000 then
      (Tr.ofL 33 (.bool false::zjI (zcO xs) 0 cs)).force fun r=>.ok (.pointer (some ⟨h.next,0,none⟩),⟨h.t.put h.next (some (.cells r 3601 zt false false)),h.next+1⟩)
     else .error "forget  sizes"
    | none=>.error "forget  list"
   | _=>.error "forget  cells"
  | _=>.error "forget  zone"
 | _=>.error "forget  args"
end
end Go.Sim
namespace Go.Sim
noncomputable section
def zhh (v:Value):Bool:=match v with
 | .int k _=>match k with
  | .i64=>true
  | _=>false
 | _=>false
noncomputable def zet (f:Nat) (t:Tr Value) (n:Nat) (c:Bool):Bool:=@Nat.rec (fun _=>Tr Value→Nat→Bool→Bool) (fun _ _ _=>false) (fun _ ih t n c=>@Nat.rec (fun _=>Bool) true (fun m _=>@Tr.rec _ (fun _=>Bool) false (fun l v r _ _=>@Option.rec _ (fun _=>Bool) false (fun x=>@Bool.rec (fun _=>Bool) false (@Nat.rec (fun _=>Bool) true (fun k _=>@Bool.rec (fun _=>Bool) false (@Nat.rec (fun _=>Bool) true (fun j _=>ih r (Nat.succ (Nat.succ (Nat.div j 2))) false) k) (ih l (Nat.succ (Nat.div k 2)) true)) m) (@Bool.rec (fun _=>Bool) true (zhh x) c)) v) t) n) f t n c
theorem cqz {t:Tr Value} {n:Nat} {c:Bool}:zet 0 t n c=false:=rfl
theorem cqn {f m:Nat} {c:Bool}:zet (f+1) .nil (m+1) c=false:=rfl
theorem cqo {f m:Nat} {c:Bool} {l r:Tr Value}:zet (f+1) (.node l none r) (m+1) c=false:=rfl
theorem cqs {f m:Nat} {c:Bool} {l r:Tr Value} {x:Value}:zet (f+1) (.node l (some x) r) (m+1) c=((bif c then zhh x else true)&&(match m with
  | 0=>true
  | k+1=>zet f l (k/2+1) true&&(match k with
   | 0=>true
   | j+1=>zet f r (j/2+2) false))):=by
 match m with
 | 0=>
  have:zet (f+1) (.node l (some x) r) (0+1) c=@Bool.rec (fun _=>Bool) false true (@Bool.rec (fun _=>Bool) true (zhh x) c):=rfl
  rw [this]
  cases c<;>cases zhh x<;>rfl
 | 1=>
  have:zet (f+1) (.node l (some x) r) (1+1) c=@Bool.rec (fun _=>Bool) false (@Bool.rec (fun _=>Bool) false true (zet f l (0/2+1) true)) (@Bool.rec (fun _=>Bool) true (zhh x) c):=rfl
  refine this.trans ?_
  show _=((bif c then zhh x else true)&&(zet f l (0/2+1) true&&true))
  cases c<;>cases zhh x<;>cases zet f l (0/2+1) true<;>rfl
 | j+2=>
  have:zet (f+1) (.node l (some x) r) (j+2+1) c=@Bool.rec (fun _=>Bool) false (@Bool.rec (fun _=>Bool) false (zet f r (j/2+2) false) (zet f l ((j+1)/2+1) true)) (@Bool.rec (fun _=>Bool) true (zhh x) c):=rfl
  refine this.trans ?_
  show _=((bif c then zhh x else true)&&(zet f l ((j+1)/2+1) true&&zet f r (j/2+2) false))
  cases c<;>cases zhh x<;>cases zet f l ((j+1)/2+1) true<;>cases zet f r (j/2+2) false<;>rfl
def zfG (c:Tr Value):Bool:=match c with
 | .nil=>false
 | .node l v r=>match v with
  | some (.bool false)=>zet 32 (.node l v r) 3601 false
  | _=>false
def zwH (c:Tr Value):Bool:=match c with
 | .nil=>false
 | .node l v r=>match v with
  | some (.bool b)=>zet 32 (.node l (some (.bool b)) r) 3601 false
  | _=>false
def zjK (r:Tr Value) (k:Nat) (x:Int):Tr Value:=zdp x fun x=>r.put k (some (.int .i64 x))
def zkB (c:Tr Value) (x y:Nat) (v nv:Int):Nat→Tr Value→Tr Value
 | 0,r=>r
 | q+1,r=>bif Nat.beq q x then zkB c x y v nv q r else
   (zjK r (1+(x*60+q)) (zaM (fv c (1+(y*60+q))) v)).force fun r=>(zjK r (1+(q*60+x)) (zaM (fv c (1+(q*60+y))) nv)).force fun r=>zkB c x y v nv q r
def zBH (zt:Nat) (h:SHeap) (x y:Nat) (v:Int) (o:Option SObj):Ex (Value×SHeap):=match o with
 | some (.cells c n e false false)=>bif zfG c&&Nat.beq n 3601&&Nat.beq e zt&&Nat.ble (h.next+1) lim&&Nat.blt x 60&&Nat.blt y 60&&Nat.ble 1 x&&inB v then
    zdp (zaK .i64 (0-v)) fun nv=>(zkB c x y v nv 60 c).force fun r=>.ok (.tuple #[.pointer (some ⟨h.next,0,none⟩),.int .i64 0],⟨h.t.put h.next (some (.cells r 3601 zt false false)),h.next+1⟩)
   else .error "assign  sizes"
 | _=>.error "assign  zone"
def zqe (zt:Nat) (args:List Value) (h:SHeap):Ex (Value×SHeap):=match args with
 | [.pointer (some ⟨z,0,none⟩),.int .i64 (.ofNat x),.int .i64 (.ofNat y),.int .i64 v]=>zBH zt h x y v (h.t.get z)
 | _=>.error "assign  args"
def zcW (v:Option Value):Bool:=match v with
 | none=>false
 | some v=>match v with
  | .int _ x=>bif zbA x then false else true
  | _=>true
noncomputable def apL {α:Type} (a b:List α):List α:=@List.rec _ (fun _=>List α) b (fun x _ ih=>x::ih) a
theorem zFA {α:Type} (a b:List α):apL a b=a++b:=by
 induction a with
 | nil=>rfl
 | cons x a ih=>
  show x::apL a b=_
  rw [ih]
  rfl
noncomputable def zcB (c:Bool) (i s:Nat) (t:Tr Value):List Nat:=@Tr.rec _ (fun _=>Bool→Nat→Nat→List Nat) (fun _ _ _=>[]) (fun _ v _ il ir c i s=>@Bool.rec (fun _=>List Nat) (apL (il true (Nat.add i s) (Nat.mul 2 s)) (ir false i (Nat.mul 2 s))) (zci i fun i=>i::apL (il true (Nat.add i s) (Nat.mul 2 s)) (ir false i (Nat.mul 2 s))) (@Bool.rec (fun _=>Bool) false (zcW v) c)) t c i s
theorem nqs {c:Bool} {i s:Nat} {l r:Tr Value} {v:Option Value}:zcB c i s (.node l v r)=bif c&&zcW v then zci i fun i=>i::(zcB true (i+s) (2*s) l++zcB false i (2*s) r) else zcB true (i+s) (2*s) l++zcB false i (2*s) r:=by
 have:zcB c i s (.node l v r)=@Bool.rec (fun _=>List Nat) (apL (zcB true (i+s) (2*s) l) (zcB false i (2*s) r)) (zci i fun i=>i::apL (zcB true (i+s) (2*s) l) (zcB false i (2*s) r)) (@Bool.rec (fun _=>Bool) false (zcW v) c):=rfl
 rw [this]
 cases c<;>cases zcW v<;>(simp only [zFA]; rfl)
def zmD (xs:List Nat) (k:Nat):Bool:=bif Nat.beq (k/60) (k%60) then false else bif zgz (k/60) xs then true else zgz (k%60) xs
def zhf (xs:List Nat):List Nat→Tr Value→Tr Value
 | [],r=>r
 | m::l,r=>match m with
  | 0=>zhf xs l r
  | k+1=>bif Nat.blt k 3600&&zmD xs k then (r.put (k+1) (some (.int .i64 2305843009213693952))).force fun r=>zhf xs l r else zhf xs l r
def zsP (k:Nat):List Nat→List Nat
 | []=>[k]
 | m::l=>bif Nat.blt k m then k::m::l else m::zsP k l
def zdT:List Nat→List Nat
 | []=>[]
 | k::l=>zsP k (zdT l)
def zee:Nat→List Nat→Bool
 | _,[]=>true
 | n,k::l=>bif Nat.ble n k then zee (k+1) l else false
def zjg (c:Tr Value):List Nat→List Value
 | []=>[]
 | m::l=>match m with
  | 0=>zjg c l
  | k+1=>match c.get (k+1) with
   | some v=>zfx k v++zjg c l
   | none=>zjg c l
def zDj (h:SHeap) (b:Nat) (x:Option SObj):Ex (Value×SHeap):=match x with
 | some (.cells c n e false false)=>bif zwH c&&Nat.beq n 3601&&Nat.ble (h.next+8000) lim&&Nat.blt b h.next&&zee 0 (zdT (zcB true 0 1 c)) then zlf h (zjg c (zdT (zcB true 0 1 c))) ((zjg c (zdT (zcB true 0 1 c))).length/3) else .error "cons  sizes"
 | _=>.error "cons  block"
def consF (args:List Value) (h:SHeap):Ex (Value×SHeap):=match args with
 | [.pointer (some ⟨b,0,none⟩)]=>zDj h b (h.t.get b)
 | _=>.error "cons  args"
def zCe (zt:Nat) (args:List Value) (h:SHeap):Ex (Value×SHeap):=match args with
 | [.pointer (some ⟨z,0,none⟩),sv]=>match h.t.get z with
  | some (.cells c n e false false)=>match zhy sv h with
    | some xs=>bif zfG c&&Nat.beq n 3601&&Nat.beq e zt&&Nat.ble (h.next+1) lim&&Nat.blt (zlb sv) 1000 then
      (zhf (zcO xs) (zcB true 0 1 c) c).force fun r=>.ok (.pointer (some ⟨h.next,0,none⟩),⟨h.t.put h.next (some (.cells r 3601 zt false false)),h.next+1⟩)
     else .error "forget  sizes"
    | none=>.error "forget  list"
  | _=>.error "forget  zone"
 | _=>.error "forget  args"
def zgA (F:Int→Int→Int) (a b:Option Value):Option Value:=match a with
 | some (.int .i64 x)=>match b with
  | some (.int .i64 y)=>zdp (F x y) fun z=>some (.int .i64 z)
  | _=>a
 | _=>a
def zeH (F:Int→Int→Int):Tr Value→Tr Value→Tr Value
 | .nil,_=>.nil
 | .node l v r,.nil=>.node l v r
 | .node l v r,.node l' v' r'=>(zeH F l l').force fun a=>(zeH F r r').force fun b=>match zgA F v v' with
  | some x=>.node a (some x) b
  | none=>.node a none b
def zoh (F:Int→Int→Int) (zt:Nat) (args:List Value) (h:SHeap):Ex (Value×SHeap):=match args with
 | [.pointer (some ⟨z,0,none⟩),.pointer (some ⟨o,0,none⟩)]=>match h.t.get z with
  | some (.cells c n e false false)=>match h.t.get o with
    | some (.cells c2 n2 e2 false false)=>bif zfG c&&zfG c2&&Nat.beq n 3601&&Nat.beq e zt&&Nat.beq n2 3601&&Nat.beq e2 zt&&Nat.ble (h.next+1) lim then
       (zeH F c c2).force fun r=>.ok (.pointer (some ⟨h.next,0,none⟩),⟨h.t.put h.next (some (.cells r 3601 zt false false)),h.next+1⟩)
      else .error "join  sizes"
    | _=>.error "join  zone"
  | _=>.error "join  zone"
 | _=>.error "join  args"
def zjH (c:Tr Value) (t:Int) (j p:Nat):Nat→Tr Value→Tr Value
 | 0,r=>r
 | q+1,r=>zdp (fv c (1+(p*60+q))) fun x=>zdp (zaM t (fv c (1+(j*60+q)))) fun s=>bif decide (s<x) then
   (zjK r (1+(p*60+q)) s).force fun r=>zjH c t j p q r else zjH c t j p q r
def zhr (c:Tr Value) (i j:Nat) (v:Int):Nat→Tr Value→Tr Value
 | 0,r=>r
 | p+1,r=>zdp (zaM (fv c (1+(p*60+i))) v) fun t=>bif zbA t then zhr c i j v p r else (zjH c t j p 60 r).force fun r=>zhr c i j v p r
def zsa (zt:Nat) (h:SHeap) (z:Nat) (c:Tr Value) (i j:Nat) (v:Int):Ex (Value×SHeap):=
 bif decide (fv c (1+(i*60+j))≤v) then .ok (.pointer (some ⟨z,0,none⟩),⟨h.t,h.next+1⟩) else
 bif decide (zaM (fv c (1+(j*60+i))) v<0) then .error "and  void" else (zhr c i j v 60 c).force fun r=>zto zt h r
def zAc (zt:Nat) (h:SHeap) (z i j:Nat) (v:Int) (o:Option SObj):Ex (Value×SHeap):=match o with
 | some (.cells c n e false false)=>bif zfG c&&Nat.beq n 3601&&Nat.beq e zt&&Nat.ble (h.next+4) lim&&Nat.blt i 60&&Nat.blt j 60&&(bif Nat.beq i j then false else true) then zsa zt h z c i j v else .error "and  sizes"
 | _=>.error "and  zone"
def zqa (zt:Nat) (args:List Value) (h:SHeap):Ex (Value×SHeap):=match args with
 | [.pointer (some ⟨z,0,none⟩),.agg ⟨[.int .i64 (.ofNat i),.int .i64 (.ofNat j),.int .i64 v]⟩]=>zAc zt h z i j v (h.t.get z)
 | _=>.error "and  args"
end
end Go.Sim
namespace Go.Sim
noncomputable section
def inZ (f:SyF):Bool:=(match f.k with | .i64=>true | _=>false)&&decide (-1152921504606846976≤f.lo)&&decide (f.hi≤1152921504606846976)
def zaO (v:Value):Bool:=match v with
 | .int k _=>match k with
  | .i64=>true
  | _=>false
 | .complex .f64 re im=>inZ (zdy re im)
 | _=>false
def zfT:Nat→Tr Value→Nat→Bool→Bool
 | 0,_,_,_=>false
 | f+1,t,n,c=>match n with
  | 0=>true
  | m+1=>match t with
   | .nil=>false
   | .node l v r=>match v with
    | none=>false
    | some x=>(bif c then zaO x else true)&&(match m with
     | 0=>true
     | k+1=>zfT f l (k/2+1) true&&(match k with
      | 0=>true
      | j+1=>zfT f r (j/2+2) false))
def zif (c:Tr Value):Bool:=match c with
 | .nil=>false
 | .node l v r=>match v with
  | some (.bool false)=>zfT 32 (.node l v r) 3601 false
  | _=>false
def zrU (c:Tr Value):Bool:=match c with
 | .nil=>false
 | .node l v r=>match v with
  | some (.bool b)=>zfT 32 (.node l (some (.bool b)) r) 3601 false
  | _=>false
def gv (c:Tr Value) (i:Nat):Value:=match c.get i with
 | some v=>v
 | none=>.int .i64 0
def ltF (a b:Value):Option Bool:=match zeX a,zeX b with
 | some f,some g=>f.lt g
 | _,_=>none
def vLt (a b:Value):Option Bool:=match a with
 | .int _ x=>match b with
  | .int _ y=>some (decide (x<y))
  | b=>ltF a b
 | a=>ltF a b
def zjV (v:Value):Bool:=match v with
 | .int _ x=>zbA x
 | _=>false
def zxm (a b:Value):Option Value:=bif zjV a||zjV b then some (.int .i64 2305843009213693952) else match zeX a,zeX b with
 | some f,some g=>bif decide (-1152921504606846976≤SyF.lo ⟨.i64,f.a+g.a,f.b+g.b,f.c+g.c⟩)&&decide (SyF.hi ⟨.i64,f.a+g.a,f.b+g.b,f.c+g.c⟩≤1152921504606846976) then SyF.val ⟨.i64,f.a+g.a,f.b+g.b,f.c+g.c⟩ else none
 | _,_=>none
def zlH (a b:Value):Option Value:=match a with
 | .int _ x=>match b with
  | .int _ y=>zdp (zaM x y) fun s=>some (.int .i64 s)
  | b=>zxm a b
 | a=>zxm a b
def zCc (a b:Value):Option Value:=match vLt a b with
 | some true=>some b
 | some false=>some a
 | none=>none
def zAu (a b:Value):Option Value:=match vLt a b with
 | some true=>some (.int .i64 2305843009213693952)
 | some false=>some a
 | none=>none
def zud (r:Tr Value) (k:Nat) (x:Value):Tr Value:=zfP x fun x=>r.put k (some x)
/-! ## sum -/
def sumVS (args:List Value) (h:SHeap):Ex (Value×SHeap):=match args with
 | [a,b]=>bif zaO a&&zaO b then (match zlH a b with
  | some s=>.ok (s,h)
  | none=>.error "sum  symbols") else .error "sum  args"
 | _=>.error "sum  args"
/-! ## Bound -/
def zHn (h:SHeap) (x y:Nat) (o:Option SObj):Ex (Value×SHeap):=match o with
 | some (.cells c n _ _ _)=>bif Nat.beq n 3601&&Nat.blt x 60&&Nat.blt y 60&&Nat.blt h.next lim then match c.get 0 with
   | some (.bool false)=>match c.get (1+(x*60+y)) with
    | some v=>bif zaO v then .ok (bif zjV v then .agg #[.bool false,.int .i64 0] else .agg #[.bool true,v],⟨h.t,h.next+1⟩) else .error "bound  cell"
    | _=>.error "bound  cell"
   | _=>.error "bound  empty"
  else .error "bound  sizes"
 | _=>.error "bound  block"
def boundS (args:List Value) (h:SHeap):Ex (Value×SHeap):=match args with
 | [.pointer (some ⟨b,0,none⟩),.int .i64 (.ofNat x),.int .i64 (.ofNat y)]=>zHn h x y (h.t.get b)
 | _=>.error "bound  args"
/-! ## Forget -/
def zCy (zt:Nat) (args:List Value) (h:SHeap):Ex (Value×SHeap):=match args with
 | [.pointer (some ⟨z,0,none⟩),sv]=>match h.t.get z with
  | some (.cells c n e false false)=>match zhy sv h with
    | some xs=>bif zif c&&Nat.beq n 3601&&Nat.beq e zt&&Nat.ble (h.next+1) lim&&Nat.blt (zlb sv) 1000 then
      (zhf (zcO xs) (zcB true 0 1 c) c).force fun r=>.ok (.pointer (some ⟨h.next,0,none⟩),⟨h.t.put h.next (some (.cells r 3601 zt false false)),h.next+1⟩)
     else .error "forget  sizes"
    | none=>.error "forget  list"
  | _=>.error "forget  zone"
 | _=>.error "forget  args"
/-! ## Cons -/
def zih (k:Nat) (v:Value):List Value:=match v with
 | .int .i64 x=>bif Nat.beq (k/60) (k%60) then [] else bif zbA x then [] else [.int .i64 (.ofNat (k/60)),.int .i64 (.ofNat (k%60)),.int .i64 x]
 | .complex f re im=>bif Nat.beq (k/60) (k%60) then [] else [.int .i64 (.ofNat (k/60)),.int .i64 (.ofNat (k%60)),.complex f re im]
 | _=>[]
def zje (c:Tr Value):List Nat→List Value
 | []=>[]
 | m::l=>match m with
  | 0=>zje c l
  | k+1=>match c.get (k+1) with
   | some v=>zih k v++zje c l
   | none=>zje c l
def zzj (h:SHeap) (b:Nat) (x:Option SObj):Ex (Value×SHeap):=match x with
 | some (.cells c n e false false)=>bif zrU c&&Nat.beq n 3601&&Nat.ble (h.next+8000) lim&&Nat.blt b h.next&&zee 0 (zdT (zcB true 0 1 c)) then zlf h (zje c (zdT (zcB true 0 1 c))) ((zje c (zdT (zcB true 0 1 c))).length/3) else .error "cons  sizes"
 | _=>.error "cons  block"
def consS (args:List Value) (h:SHeap):Ex (Value×SHeap):=match args with
 | [.pointer (some ⟨b,0,none⟩)]=>zzj h b (h.t.get b)
 | _=>.error "cons  args"
/-! ## Join,Widen -/
def zAn (G:Value→Value→Option Value) (a b:Option Value):Option (Option Value):=match a with
 | some x=>bif zaO x then (match b with
   | some y=>bif zaO y then (match G x y with
     | some z=>zfP z fun z=>some (some z)
     | none=>none) else bif zey y then none else some (some x)
   | none=>some (some x)) else bif zey x then none else some (some x)
 | none=>some none
def ztn (G:Value→Value→Option Value):Tr Value→Tr Value→Option (Tr Value)
 | .nil,_=>some .nil
 | .node l v r,.nil=>some (.node l v r)
 | .node l v r,.node l' v' r'=>match ztn G l l' with
  | none=>none
  | some a=>match ztn G r r' with
   | none=>none
   | some b=>match zAn G v v' with
    | none=>none
    | some x=>some (.node a x b)
def zxH (G:Value→Value→Option Value) (zt:Nat) (args:List Value) (h:SHeap):Ex (Value×SHeap):=match args with
 | [.pointer (some ⟨z,0,none⟩),.pointer (some ⟨o,0,none⟩)]=>match h.t.get z with
  | some (.cells c n e false false)=>match h.t.get o with
    | some (.cells c2 n2 e2 false false)=>bif zif c&&zif c2&&Nat.beq n 3601&&Nat.beq e zt&&Nat.beq n2 3601&&Nat.beq e2 zt&&Nat.ble (h.next+1) lim then
       match ztn G c c2 with
       | some r=>.ok (.pointer (some ⟨h.next,0,none⟩),⟨h.t.put h.next (some (.cells r 3601 zt false false)),h.next+1⟩)
       | none=>.error "join  symbols"
      else .error "join  sizes"
    | _=>.error "join  zone"
  | _=>.error "join  zone"
 | _=>.error "join  args"
/-! ## Within -/
def zqr:List Value→List Value→Option Bool
 | [],_=>some true
 | a::r,l=>match l with
  | []=>some false
  | b::s=>match vLt b a with
   | some true=>some false
   | some false=>zqr r s
   | none=>none
def zkQ:List Value→Bool
 | []=>true
 | v::r=>bif zaO v then zkQ r else false
def zsx (h:SHeap) (x y:Option (List Value)):Ex (Value×SHeap):=match x with
 | some (.bool e::l)=>match y with
  | some (.bool e'::l')=>bif zkQ l&&zkQ l' then (match zqr l l' with
    | some b=>.ok (.bool (bif e then true else bif e' then false else b),h)
    | none=>.error "within  symbols") else .error "within  cells"
  | _=>.error "within  cells"
 | _=>.error "within  cells"
def zuD (h:SHeap) (x y:Option SObj):Ex (Value×SHeap):=match x with
 | some (.cells c n _ _ _)=>match y with
  | some (.cells c' n' _ _ _)=>bif Nat.beq n 3601&&Nat.beq n' 3601&&Nat.ble h.next lim then zsx h (c.toL 32 3601) (c'.toL 32 3601) else .error "within  sizes"
  | _=>.error "within  block"
 | _=>.error "within  block"
def withinS (args:List Value) (h:SHeap):Ex (Value×SHeap):=match args with
 | [.pointer (some ⟨b,0,none⟩),.pointer (some ⟨d,0,none⟩)]=>zuD h (h.t.get b) (h.t.get d)
 | _=>.error "within  args"
/-! ## Assign -/
def zAT (v:Value):Option Value:=match v with
 | .int _ x=>zdp (zaK .i64 (0-x)) fun x=>some (.int .i64 x)
 | v=>match zeX v with
  | some f=>SyF.val ⟨.i64,0-f.a,0-f.b,0-f.c⟩
  | none=>none
def zxo (v:Value):Bool:=match v with
 | .int k x=>(match k with | .i64=>inB x | _=>false)
 | v=>zaO v
def zoO (c:Tr Value) (x y:Nat) (v nv:Value):Nat→Tr Value→Option (Tr Value)
 | 0,r=>some r
 | q+1,r=>bif Nat.beq q x then zoO c x y v nv q r else match zlH (gv c (1+(y*60+q))) v with
   | none=>none
   | some s=>match zlH (gv c (1+(q*60+y))) nv with
    | none=>none
    | some t=>(zud r (1+(x*60+q)) s).force fun r=>(zud r (1+(q*60+x)) t).force fun r=>zoO c x y v nv q r
def zCX (zt:Nat) (h:SHeap) (x y:Nat) (v:Value) (o:Option SObj):Ex (Value×SHeap):=match o with
 | some (.cells c n e false false)=>bif zif c&&Nat.beq n 3601&&Nat.beq e zt&&Nat.ble (h.next+1) lim&&Nat.blt x 60&&Nat.blt y 60&&Nat.ble 1 x&&zxo v then
    match zAT v with
    | some nv=>bif zaO nv then (match zoO c x y v nv 60 c with
     | some r=>.ok (.tuple #[.pointer (some ⟨h.next,0,none⟩),.int .i64 0],⟨h.t.put h.next (some (.cells r 3601 zt false false)),h.next+1⟩)
     | none=>.error "assign  symbols") else .error "assign  symbols"
    | none=>.error "assign  symbols"
   else .error "assign  sizes"
 | _=>.error "assign  zone"
def zAZ (zt:Nat) (args:List Value) (h:SHeap):Ex (Value×SHeap):=match args with
 | [.pointer (some ⟨z,0,none⟩),.int .i64 (.ofNat x),.int .i64 (.ofNat y),v]=>zCX zt h x y v (h.t.get z)
 | _=>.error "assign  args"
/-! ## and -/
def zox (c:Tr Value) (t:Value) (j p:Nat):Nat→Tr Value→Option (Tr Value)
 | 0,r=>some r
 | q+1,r=>match zlH t (gv c (1+(j*60+q))) with
  | none=>none
  | some s=>match vLt s (gv c (1+(p*60+q))) with
   | none=>none
   | some true=>(zud r (1+(p*60+q)) s).force fun r=>zox c t j p q r
   | some false=>zox c t j p q r
def zoF (c:Tr Value) (i j:Nat) (v:Value):Nat→Tr Value→Option (Tr Value)
 | 0,r=>some r
 | p+1,r=>match zlH (gv c (1+(p*60+i))) v with
  | none=>none
  | some t=>bif zjV t then zoF c i j v p r else match zox c t j p 60 r with
   | none=>none
   | some r=>zoF c i j v p r
def geZ (v:Value):Bool:=match vLt v (.int .i64 0) with
 | some false=>true
 | _=>false
def zCT (zt:Nat) (h:SHeap) (r:Tr Value):Ex (Value×SHeap):=bif zeM (fun i=>geZ (gv r (1+(i*60+i)))&&zaO (gv r (1+(i*60+i)))) 60 then
  .ok (.pointer (some ⟨h.next+3,0,none⟩),⟨h.t.put (h.next+3) (some (.cells r 3601 zt false false)),h.next+4⟩)
 else .error "and  sign"
def zCP (zt:Nat) (h:SHeap) (z:Nat) (c:Tr Value) (i j:Nat) (v:Value):Ex (Value×SHeap):=match vLt v (gv c (1+(i*60+j))) with
 | none=>.error "and  symbols"
 | some false=>.ok (.pointer (some ⟨z,0,none⟩),⟨h.t,h.next+1⟩)
 | some true=>match zlH (gv c (1+(j*60+i))) v with
  | none=>.error "and  symbols"
  | some s=>bif geZ s then (match zoF c i j v 60 c with
   | some r=>zCT zt h r
   | none=>.error "and  symbols") else .error "and  void"
def zCN (zt:Nat) (h:SHeap) (z i j:Nat) (v:Value) (o:Option SObj):Ex (Value×SHeap):=match o with
 | some (.cells c n e false false)=>bif zif c&&Nat.beq n 3601&&Nat.beq e zt&&Nat.ble (h.next+4) lim&&Nat.blt i 60&&Nat.blt j 60&&(bif Nat.beq i j then false else true)&&zaO v then zCP zt h z c i j v else .error "and  sizes"
 | _=>.error "and  zone"
def zAR (zt:Nat) (args:List Value) (h:SHeap):Ex (Value×SHeap):=match args with
 | [.pointer (some ⟨z,0,none⟩),.agg ⟨[.int .i64 (.ofNat i),.int .i64 (.ofNat j),v]⟩]=>zCN zt h z i j v (h.t.get z)
 | _=>.error "and  args"
end
end Go.Sim
namespace Go.Sim
noncomputable section
def zkO:List Value→Option (List Nat)
 | []=>some []
 | v::r=>match v with
  | .int .u8 (.ofNat n)=>bif Nat.blt n 256 then (match zkO r with
   | some l=>some (n::l)
   | none=>none) else none
  | _=>none
def zhF (args:List Value) (h:SHeap):Option (List Value):=match args with
 | [.slice (some ⟨b,o,none⟩) n _]=>bif Nat.ble n 200000&&Nat.ble h.next lim then (match h.t.get b with
  | some (.cells c _ _ _ _)=>c.toListFrom o n
  | _=>none) else none
 | _=>none
def zik (k:IntKind) (args:List Value) (h:SHeap):Ex (Value×SHeap):=match zhF args h with
 | some l=>match zkO l with
  | some l=>zci (fnv l) fun n=>.ok (.int k (.ofNat n),h)
  | none=>.error "sum  bytes"
 | none=>.error "sum  row"
def zsj (s:Nat) (args:List Value) (h:SHeap):Ex (Value×SHeap):=match zhF args h with
 | some l=>bif zhc l (zdD 10) then .ok (.complex .f32 10 s,h) else bif zhc l (zdD 11) then .ok (.complex .f32 11 s,h) else .error "sum  pattern"
 | none=>.error "sum  row"
end
end Go.Sim

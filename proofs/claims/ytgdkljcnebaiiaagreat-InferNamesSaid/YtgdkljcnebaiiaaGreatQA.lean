/- zone.Put as an oracle: definitions. zone.Bound as an oracle: definitions. zone.and as an oracle: definitions. zone.Join and zone.Widen as oracles: definitions. zone.Assign as an oracle: definitions. A tag out of tags as an oracle: definitions. shape.good as an oracle: definitions. tags.valued as an oracle: definitions. zone.Forget of a list as an oracle: definitions. Quick forms of the oracles on tables: definitions. -/
import Derived.Test.YtgdkljcnebaiiaaGreatMemD
set_option linter.unusedVariables false
set_option linter.unusedSimpArgs false
namespace Go.Sim

def zpf (x y : Int) : Int := bif decide (y < x) then y else x
def fv (c : Tr Value) (i : Nat) : Int := match c.get i with
 | some (.int _ v) => v
 | _ => 0
def isI (v : Option Value) : Bool := match v with
 | some (.int k _) => match k with
  | .i64 => true
  | _ => false
 | _ => false
def isT (v : Option Value) : Bool := match v with
 | some (.bool b) => b
 | _ => false
def zzD (v : Option Value) : Bool := match v with
 | some (.bool _) => true
 | _ => false
def inB (v : Int) : Bool := decide (-1152921504606846976 ≤ v) && decide (v ≤ 1152921504606846976)
def zfz (p : Nat → Bool) : Nat → Bool
 | 0 => true
 | n + 1 => bif p n then zfz p n else false
def zkA (t : Tr Value) (x j : Nat) : Bool := zzD (t.get (j * 2)) && isI (t.get (j * 2 + 1)) && (bif Nat.beq j x then true else bif isT (t.get (j * 2)) then inB (fv t (j * 2 + 1)) else true)
def bdJ (t : Tr Value) (x j : Nat) : Int := bif Nat.beq j x then 2305843009213693952 else bif isT (t.get (j * 2)) then fv t (j * 2 + 1) else 2305843009213693952
def zbC (g : Nat → Int) : Nat → List Value → List Value
 | 0,acc => acc
 | k + 1,acc => zdy (g k) fun v => zbC g k (.int .i64 v :: acc)
def fuJ (a c : Tr Value) (x q : Nat) : Nat → Nat → Int → Int
 | 0,_,acc => acc
 | n + 1,k,acc => bif Nat.beq k x then zcQ (k + 1) fun k => fuJ a c x q n k acc else
   zdy (zaL (fv a k) (fv c (1 + (k * 60 + q)))) fun s => zdy (zpf acc s) fun acc => zcQ (k + 1) fun k => fuJ a c x q n k acc
def fdJ (b c : Tr Value) (x q : Nat) : Nat → Nat → Int → Int
 | 0,_,acc => acc
 | n + 1,k,acc => bif Nat.beq k x then zcQ (k + 1) fun k => fdJ b c x q n k acc else
   zdy (zaL (fv c (1 + (q * 60 + k))) (fv b k)) fun s => zdy (zpf acc s) fun acc => zcQ (k + 1) fun k => fdJ b c x q n k acc
def zpG (c u d : Tr Value) (x i : Nat) : Int :=
 bif Nat.beq (i / 60) x then (bif Nat.beq (i % 60) x then fv c (1 + i) else fv u (i % 60)) else
 bif Nat.beq (i % 60) x then fv d (i / 60) else zpf (fv c (1 + i)) (zaL (fv d (i / 60)) (fv u (i % 60)))
def zpE (zt : Nat) (h : SHeap) (r : Tr Value) : Ex (Value × SHeap) := bif zfz (fun i => decide (0 ≤ fv r (1 + (i * 60 + i)))) 60 then
  .ok (.tuple #[.pointer (some ⟨h.next + 128,0,none⟩),.int .i64 0],⟨h.t.put (h.next + 128) (some (.cells r 3601 zt false false)),h.next + 129⟩)
 else .error "put  sign"
def zpK (zt : Nat) (h : SHeap) (x : Nat) (c u d : Tr Value) : Ex (Value × SHeap) := (Tr.ofL 33 (.bool false :: zbC (zpG c u d x) 3600 [])).force fun r => zpE zt h r
def zpC (zt : Nat) (h : SHeap) (x : Nat) (c a b : Tr Value) : Ex (Value × SHeap) :=
 (Tr.ofL 33 (zbC (fun q => fuJ a c x q 60 0 2305843009213693952) 60 [])).force fun u => (Tr.ofL 33 (zbC (fun q => fdJ b c x q 60 0 2305843009213693952) 60 [])).force fun d => zpK zt h x c u d
def zpB (zt : Nat) (h : SHeap) (x : Nat) (c tl th : Tr Value) : Ex (Value × SHeap) := bif zfz (zkA tl x) 60 && zfz (zkA th x) 60 then
  (Tr.ofL 33 (zbC (bdJ tl x) 60 [])).force fun a => (Tr.ofL 33 (zbC (bdJ th x) 60 [])).force fun b => zpC zt h x c a b
 else .error "put  bounds"
def zpA (zt : Nat) (h : SHeap) (x : Nat) (z l u : Option SObj) : Ex (Value × SHeap) := match z with
 | some (.cells c n e false false) => match l with
  | some (.cells tl _ _ _ _) => match u with
   | some (.cells th _ _ _ _) => match c.toL 32 3601 with
    | some (.bool false :: cs) => bif zbg cs && Nat.beq n 3601 && Nat.beq e zt && Nat.ble (h.next + 129) lim && Nat.blt x 60 && Nat.ble 1 x then zpB zt h x c tl th else .error "put  sizes"
    | _ => .error "put  cells"
   | _ => .error "put  hi"
  | _ => .error "put  lo"
 | _ => .error "put  zone"
def zpQ (zt : Nat) (args : List Value) (h : SHeap) : Ex (Value × SHeap) := match args with
 | [.pointer (some ⟨z,0,none⟩),.int .i64 (.ofNat x),.slice (some ⟨bl,0,none⟩) l1 _,.slice (some ⟨bh,0,none⟩) l2 _] => bif Nat.beq l1 60 && Nat.beq l2 60 then zpA zt h x (h.t.get z) (h.t.get bl) (h.t.get bh) else .error "put  args"
 | _ => .error "put  args"
end Go.Sim

namespace Go.Sim

def zoQ (v : Int) : Value := bif zcd v then .agg #[.bool false,.int .i64 0] else .agg #[.bool true,.int .i64 v]
def zHk (h : SHeap) (x y : Nat) (o : Option SObj) : Ex (Value × SHeap) := match o with
 | some (.cells c n _ _ _) => bif Nat.beq n 3601 && Nat.blt x 60 && Nat.blt y 60 && Nat.blt h.next lim then match c.get 0 with
   | some (.bool false) => match c.get (1 + (x * 60 + y)) with
    | some (.int .i64 v) => .ok (zoQ v,⟨h.t,h.next + 1⟩)
    | _ => .error "bound  cell"
   | _ => .error "bound  empty"
  else .error "bound  sizes"
 | _ => .error "bound  block"
def boundQ (args : List Value) (h : SHeap) : Ex (Value × SHeap) := match args with
 | [.pointer (some ⟨b,0,none⟩),.int .i64 (.ofNat x),.int .i64 (.ofNat y)] => zHk h x y (h.t.get b)
 | _ => .error "bound  args"

def zgY (a : Bool) (x : Int) (b : Bool) (y : Int) : Value := bif a && b then zdy (zbh .i64 (x + y)) fun s => bif decide (s > 1152921504606846976) then .agg #[.bool false,.int .i64 0] else
  .agg #[.bool true,.int .i64 (bif decide (-1152921504606846976 > s) then -1152921504606846976 else s)] else .agg #[.bool false,.int .i64 0]
def plusQ (args : List Value) (h : SHeap) : Ex (Value × SHeap) := match args with
 | [.agg ⟨[.bool a,.int .i64 x]⟩,.agg ⟨[.bool b,.int .i64 y]⟩] => bif Nat.blt (h.next + 2) lim then .ok (zgY a x b y,⟨h.t,h.next + 3⟩) else .error "plus  names"
 | _ => .error "plus  args"
def zgZ (a : Bool) (x : Int) (b : Bool) (y : Int) : Value := bif (bif a then (bif b then decide (y < x) else false) else true) then .agg #[.bool b,.int .i64 y] else .agg #[.bool a,.int .i64 x]
def lessQ (args : List Value) (h : SHeap) : Ex (Value × SHeap) := match args with
 | [.agg ⟨[.bool a,.int .i64 x]⟩,.agg ⟨[.bool b,.int .i64 y]⟩] => bif Nat.blt (h.next + 2) lim then .ok (zgZ a x b y,⟨h.t,h.next + 3⟩) else .error "lesser  names"
 | _ => .error "lesser  args"

end Go.Sim

namespace Go.Sim

def zir (c u : Tr Value) (j k : Nat) : Int := zdy (fv u (k / 60)) fun t => bif zcd t then fv c (1 + k) else zpf (fv c (1 + k)) (zaL t (fv c (1 + (j * 60 + k % 60))))
def zvp (zt : Nat) (h : SHeap) (r : Tr Value) : Ex (Value × SHeap) := bif zfz (fun i => decide (0 ≤ fv r (1 + (i * 60 + i)))) 60 then
  .ok (.pointer (some ⟨h.next + 3,0,none⟩),⟨h.t.put (h.next + 3) (some (.cells r 3601 zt false false)),h.next + 4⟩)
 else .error "and  sign"
def zyc (zt : Nat) (h : SHeap) (c : Tr Value) (i j : Nat) (v : Int) : Ex (Value × SHeap) :=
 (Tr.ofL 33 (zbC (fun p => zaL (fv c (1 + (p * 60 + i))) v) 60 [])).force fun u => (Tr.ofL 33 (.bool false :: zbC (zir c u j) 3600 [])).force fun r => zvp zt h r
def zui (zt : Nat) (h : SHeap) (z : Nat) (c : Tr Value) (i j : Nat) (v : Int) : Ex (Value × SHeap) :=
 bif decide (fv c (1 + (i * 60 + j)) ≤ v) then .ok (.pointer (some ⟨z,0,none⟩),⟨h.t,h.next + 1⟩) else
 bif decide (zaL (fv c (1 + (j * 60 + i))) v < 0) then .error "and  void" else zyc zt h c i j v
def zzn (zt : Nat) (h : SHeap) (z i j : Nat) (v : Int) (o : Option SObj) : Ex (Value × SHeap) := match o with
 | some (.cells c n e false false) => match c.toL 32 3601 with
  | some (.bool false :: cs) => bif zbg cs && Nat.beq n 3601 && Nat.beq e zt && Nat.ble (h.next + 4) lim && Nat.blt i 60 && Nat.blt j 60 && (bif Nat.beq i j then false else true) then zui zt h z c i j v else .error "and  sizes"
  | _ => .error "and  cells"
 | _ => .error "and  zone"
def zoR (zt : Nat) (args : List Value) (h : SHeap) : Ex (Value × SHeap) := match args with
 | [.pointer (some ⟨z,0,none⟩),.agg ⟨[.int .i64 (.ofNat i),.int .i64 (.ofNat j),.int .i64 v]⟩] => zzn zt h z i j v (h.t.get z)
 | _ => .error "and  args"
def orQ (a b : List Value → SHeap → Ex (Value × SHeap)) (args : List Value) (h : SHeap) : Ex (Value × SHeap) := match a args h with
 | .ok r => .ok r
 | .error _ => b args h

end Go.Sim

namespace Go.Sim

def zji (x y : Int) : Int := bif decide (y > x) then y else x
def zjo (x y : Int) : Int := bif decide (y > x) then 2305843009213693952 else x
def zoZ (F : Int → Int → Int) (zt : Nat) (args : List Value) (h : SHeap) : Ex (Value × SHeap) := match args with
 | [.pointer (some ⟨z,0,none⟩),.pointer (some ⟨o,0,none⟩)] => match h.t.get z with
  | some (.cells c n e false false) => match c.toL 32 3601 with
   | some (.bool false :: cs) => match h.t.get o with
    | some (.cells c2 n2 e2 false false) => match c2.toL 32 3601 with
     | some (.bool false :: cs2) => bif zbg cs && zbg cs2 && Nat.beq n 3601 && Nat.beq e zt && Nat.beq n2 3601 && Nat.beq e2 zt && Nat.ble (h.next + 1) lim then
       (Tr.ofL 33 (.bool false :: zbC (fun k => F (fv c (1 + k)) (fv c2 (1 + k))) 3600 [])).force fun r => .ok (.pointer (some ⟨h.next,0,none⟩),⟨h.t.put h.next (some (.cells r 3601 zt false false)),h.next + 1⟩)
      else .error "join  sizes"
     | _ => .error "join  cells"
    | _ => .error "join  zone"
   | _ => .error "join  cells"
  | _ => .error "join  zone"
 | _ => .error "join  args"

end Go.Sim

namespace Go.Sim

def zqH (c : Tr Value) (x y : Nat) (v nv : Int) (k : Nat) : Int :=
 bif Nat.beq (k / 60) x then (bif Nat.beq (k % 60) x then fv c (1 + k) else zaL (fv c (1 + (y * 60 + k % 60))) v) else
 bif Nat.beq (k % 60) x then zaL (fv c (1 + (k / 60 * 60 + y))) nv else fv c (1 + k)
def zyN (zt : Nat) (h : SHeap) (x y : Nat) (v : Int) (o : Option SObj) : Ex (Value × SHeap) := match o with
 | some (.cells c n e false false) => match c.toL 32 3601 with
  | some (.bool false :: cs) => bif zbg cs && Nat.beq n 3601 && Nat.beq e zt && Nat.ble (h.next + 1) lim && Nat.blt x 60 && Nat.blt y 60 && Nat.ble 1 x && inB v then
    zdy (zbh .i64 (0 - v)) fun nv => (Tr.ofL 33 (.bool false :: zbC (zqH c x y v nv) 3600 [])).force fun r => .ok (.tuple #[.pointer (some ⟨h.next,0,none⟩),.int .i64 0],⟨h.t.put h.next (some (.cells r 3601 zt false false)),h.next + 1⟩)
   else .error "assign  sizes"
  | _ => .error "assign  cells"
 | _ => .error "assign  zone"
def zuZ (zt : Nat) (args : List Value) (h : SHeap) : Ex (Value × SHeap) := match args with
 | [.pointer (some ⟨z,0,none⟩),.int .i64 (.ofNat x),.int .i64 (.ofNat y),.int .i64 v] => zyN zt h x y v (h.t.get z)
 | _ => .error "assign  args"

end Go.Sim

namespace Go.Sim

def zJo (h : SHeap) : List Value → Ex (Value × SHeap)
 | .int k x :: .int l y :: .int j z :: _ => .ok (.agg #[.int k x,.int l y,.int j z],⟨h.t,h.next + 2⟩)
 | _ => .error "tag  cells"
def tagQ (args : List Value) (h : SHeap) : Ex (Value × SHeap) := match args with
 | [.agg ⟨cs⟩,.int .i64 (.ofNat v)] => bif (Nat.blt v 2 || Nat.ble 44 v) && Nat.blt (h.next + 1) lim then .ok (.agg #[.int .i64 0,.int .i64 0,.int .i64 0],⟨h.t,h.next + 2⟩) else bif Nat.beq cs.length 126 && Nat.ble 2 v && Nat.blt v 44 && Nat.blt (h.next + 1) lim then zJo h (cs.drop ((v - 2) * 3)) else .error "tag  sizes"
 | _ => .error "tag  args"

end Go.Sim

namespace Go.Sim

def zqw (kd a b : Int) (fl : Bool) : Bool :=
 bif (bif kd == 5 then true else kd == 6) then (bif (bif b == 0 then decide (a ≥ 0) else false) then decide (a < 8) else false) else
 bif kd == 0 then (bif a == 0 then (bif b == 0 then true else (bif (bif fl then decide (b > 0) else false) then decide (b ≤ 255) else false)) else false) else
 bif (bif kd == 1 then true else bif kd == 2 then true else bif kd == 3 then true else kd == 4) then (kd == kd) && ((a == 0) && (b == 0)) else false
def gooQ (args : List Value) (h : SHeap) : Ex (Value × SHeap) := match args with
 | [.agg ⟨[.int .i64 kd,.int .i64 a,.int .i64 b]⟩,.bool fl] => bif Nat.blt h.next lim then .ok (.bool (zqw kd a b fl),⟨h.t,h.next + 1⟩) else .error "good  names"
 | _ => .error "good  args"

end Go.Sim

namespace Go.Sim

def zFF (h : SHeap) : List Value → Ex (Value × SHeap)
 | .int .i64 x :: .int .i64 _ :: .int .i64 _ :: _ => .ok (.bool (bif x != 0 then x != 6 else false),⟨h.t,h.next + 3⟩)
 | _ => .error "valued  cells"
def valQ (args : List Value) (h : SHeap) : Ex (Value × SHeap) := match args with
 | [.agg ⟨cs⟩,.int .i64 (.ofNat v)] => bif Nat.beq cs.length 126 && Nat.blt (h.next + 2) lim then
   (bif Nat.blt v 2 || Nat.ble 44 v then .ok (.bool true,⟨h.t,h.next + 1⟩) else zFF h (cs.drop ((v - 2) * 3))) else .error "valued  sizes"
 | _ => .error "valued  args"

end Go.Sim

namespace Go.Sim

def znn : List Value → Option (List Int)
 | [] => some []
 | v :: r => match v with
  | .int .i64 x => match znn r with
   | some l => some (x :: l)
   | none => none
  | _ => none
def zdb : List Int → List Nat
 | [] => []
 | x :: r => match x with
  | .ofNat n => bif Nat.ble 1 n && Nat.blt n 60 then n :: zdb r else zdb r
  | .negSucc _ => zdb r
def zgz (p : Nat) : List Nat → Bool
 | [] => false
 | q :: r => bif Nat.beq p q then true else zgz p r
def zrt (xs : List Nat) (k : Nat) (v : Value) : Value := bif Nat.beq (k / 60) (k % 60) then v else bif zgz (k / 60) xs then .int .i64 2305843009213693952 else bif zgz (k % 60) xs then .int .i64 2305843009213693952 else v
def zjf (xs : List Nat) : Nat → List Value → List Value
 | _,[] => []
 | k,v :: r => (zgO (zrt xs k v) fun v => v) :: zcQ (k + 1) fun k => zjf xs k r
def zqf (sv : Value) (h : SHeap) : Option (List Int) := match sv with
 | .slice none l _ => bif Nat.beq l 0 then some [] else none
 | .slice (some ⟨s,o,none⟩) l _ => match h.t.get s with
  | some (.cells c _ _ _ _) => match c.toListFrom o l with
   | some vs => znn vs
   | none => none
  | _ => none
 | _ => none
def zpc (sv : Value) : Nat := match sv with
 | .slice _ l _ => l
 | _ => 0
def zuR (zt : Nat) (args : List Value) (h : SHeap) : Ex (Value × SHeap) := match args with
 | [.pointer (some ⟨z,0,none⟩),sv] => match h.t.get z with
  | some (.cells c n e false false) => match c.toL 32 3601 with
   | some (.bool false :: cs) => match zqf sv h with
    | some xs => bif zbg cs && Nat.beq n 3601 && Nat.beq e zt && Nat.ble (h.next + 1) lim && Nat.blt (zpc sv) 1000 then
      (Tr.ofL 33 (.bool false :: zjf (zdb xs) 0 cs)).force fun r => .ok (.pointer (some ⟨h.next,0,none⟩),⟨h.t.put h.next (some (.cells r 3601 zt false false)),h.next + 1⟩)
     else .error "forget  sizes"
    | none => .error "forget  list"
   | _ => .error "forget  cells"
  | _ => .error "forget  zone"
 | _ => .error "forget  args"

end Go.Sim

namespace Go.Sim

def zqI (v : Value) : Bool := match v with
 | .int k _ => match k with
  | .i64 => true
  | _ => false
 | _ => false
def zhB : Nat → Tr Value → Nat → Bool → Bool
 | 0,_,_,_ => false
 | f + 1,t,n,c => match n with
  | 0 => true
  | m + 1 => match t with
   | .nil => false
   | .node l v r => match v with
    | none => false
    | some x => (bif c then zqI x else true) && (match m with
     | 0 => true
     | k + 1 => zhB f l (k / 2 + 1) true && (match k with
      | 0 => true
      | j + 1 => zhB f r (j / 2 + 2) false))
def zgW (c : Tr Value) : Bool := match c with
 | .nil => false
 | .node l v r => match v with
  | some (.bool false) => zhB 32 (.node l v r) 3601 false
  | _ => false
def zvb (c : Tr Value) : Bool := match c with
 | .nil => false
 | .node l v r => match v with
  | some (.bool b) => zhB 32 (.node l (some (.bool b)) r) 3601 false
  | _ => false
def zkJ (r : Tr Value) (k : Nat) (x : Int) : Tr Value := zdy x fun x => r.put k (some (.int .i64 x))

def zms (c : Tr Value) (x y : Nat) (v nv : Int) : Nat → Tr Value → Tr Value
 | 0,r => r
 | q + 1,r => bif Nat.beq q x then zms c x y v nv q r else
   (zkJ r (1 + (x * 60 + q)) (zaL (fv c (1 + (y * 60 + q))) v)).force fun r => (zkJ r (1 + (q * 60 + x)) (zaL (fv c (1 + (q * 60 + y))) nv)).force fun r => zms c x y v nv q r
def zLl (zt : Nat) (h : SHeap) (x y : Nat) (v : Int) (o : Option SObj) : Ex (Value × SHeap) := match o with
 | some (.cells c n e false false) => bif zgW c && Nat.beq n 3601 && Nat.beq e zt && Nat.ble (h.next + 1) lim && Nat.blt x 60 && Nat.blt y 60 && Nat.ble 1 x && inB v then
    zdy (zbh .i64 (0 - v)) fun nv => (zms c x y v nv 60 c).force fun r => .ok (.tuple #[.pointer (some ⟨h.next,0,none⟩),.int .i64 0],⟨h.t.put h.next (some (.cells r 3601 zt false false)),h.next + 1⟩)
   else .error "assign  sizes"
 | _ => .error "assign  zone"
def zzg (zt : Nat) (args : List Value) (h : SHeap) : Ex (Value × SHeap) := match args with
 | [.pointer (some ⟨z,0,none⟩),.int .i64 (.ofNat x),.int .i64 (.ofNat y),.int .i64 v] => zLl zt h x y v (h.t.get z)
 | _ => .error "assign  args"

def zeE (v : Option Value) : Bool := match v with
 | none => false
 | some v => match v with
  | .int _ x => bif zcd x then false else true
  | _ => true
def zdK : Bool → Nat → Nat → Tr Value → List Nat
 | _,_,_,.nil => []
 | c,i,s,.node l v r => bif c && zeE v then zcQ i fun i => i :: (zdK true (i + s) (2 * s) l ++ zdK false i (2 * s) r) else zdK true (i + s) (2 * s) l ++ zdK false i (2 * s) r
def zlf (xs : List Nat) (k : Nat) : Bool := bif Nat.beq (k / 60) (k % 60) then false else bif zgz (k / 60) xs then true else zgz (k % 60) xs
def zhI (xs : List Nat) : List Nat → Tr Value → Tr Value
 | [],r => r
 | m :: l,r => match m with
  | 0 => zhI xs l r
  | k + 1 => bif Nat.blt k 3600 && zlf xs k then (r.put (k + 1) (some (.int .i64 2305843009213693952))).force fun r => zhI xs l r else zhI xs l r
def zrH (k : Nat) : List Nat → List Nat
 | [] => [k]
 | m :: l => bif Nat.blt k m then k :: m :: l else m :: zrH k l
def zfM : List Nat → List Nat
 | [] => []
 | k :: l => zrH k (zfM l)
def zfP : Nat → List Nat → Bool
 | _,[] => true
 | n,k :: l => bif Nat.ble n k then zfP (k + 1) l else false
def zhJ (c : Tr Value) : List Nat → List Value
 | [] => []
 | m :: l => match m with
  | 0 => zhJ c l
  | k + 1 => match c.get (k + 1) with
   | some v => zfX k v ++ zhJ c l
   | none => zhJ c l
def zAl (h : SHeap) (b : Nat) (x : Option SObj) : Ex (Value × SHeap) := match x with
 | some (.cells c n e false false) => bif zvb c && Nat.beq n 3601 && Nat.ble (h.next + 8000) lim && Nat.blt b h.next && zfP 0 (zfM (zdK true 0 1 c)) then zqh h (zhJ c (zfM (zdK true 0 1 c))) ((zhJ c (zfM (zdK true 0 1 c))).length / 3) else .error "cons  sizes"
 | _ => .error "cons  block"
def consF (args : List Value) (h : SHeap) : Ex (Value × SHeap) := match args with
 | [.pointer (some ⟨b,0,none⟩)] => zAl h b (h.t.get b)
 | _ => .error "cons  args"
def zxp (zt : Nat) (args : List Value) (h : SHeap) : Ex (Value × SHeap) := match args with
 | [.pointer (some ⟨z,0,none⟩),sv] => match h.t.get z with
  | some (.cells c n e false false) => match zqf sv h with
    | some xs => bif zgW c && Nat.beq n 3601 && Nat.beq e zt && Nat.ble (h.next + 1) lim && Nat.blt (zpc sv) 1000 then
      (zhI (zdb xs) (zdK true 0 1 c) c).force fun r => .ok (.pointer (some ⟨h.next,0,none⟩),⟨h.t.put h.next (some (.cells r 3601 zt false false)),h.next + 1⟩)
     else .error "forget  sizes"
    | none => .error "forget  list"
  | _ => .error "forget  zone"
 | _ => .error "forget  args"

def zis (F : Int → Int → Int) (a b : Option Value) : Option Value := match a with
 | some (.int .i64 x) => match b with
  | some (.int .i64 y) => zdy (F x y) fun z => some (.int .i64 z)
  | _ => a
 | _ => a
def zeH (F : Int → Int → Int) : Tr Value → Tr Value → Tr Value
 | .nil,_ => .nil
 | .node l v r,.nil => .node l v r
 | .node l v r,.node l' v' r' => (zeH F l l').force fun a => (zeH F r r').force fun b => match zis F v v' with
  | some x => .node a (some x) b
  | none => .node a none b
def zuT (F : Int → Int → Int) (zt : Nat) (args : List Value) (h : SHeap) : Ex (Value × SHeap) := match args with
 | [.pointer (some ⟨z,0,none⟩),.pointer (some ⟨o,0,none⟩)] => match h.t.get z with
  | some (.cells c n e false false) => match h.t.get o with
    | some (.cells c2 n2 e2 false false) => bif zgW c && zgW c2 && Nat.beq n 3601 && Nat.beq e zt && Nat.beq n2 3601 && Nat.beq e2 zt && Nat.ble (h.next + 1) lim then
       (zeH F c c2).force fun r => .ok (.pointer (some ⟨h.next,0,none⟩),⟨h.t.put h.next (some (.cells r 3601 zt false false)),h.next + 1⟩)
      else .error "join  sizes"
    | _ => .error "join  zone"
  | _ => .error "join  zone"
 | _ => .error "join  args"

def zkL (c : Tr Value) (t : Int) (j p : Nat) : Nat → Tr Value → Tr Value
 | 0,r => r
 | q + 1,r => zdy (fv c (1 + (p * 60 + q))) fun x => zdy (zaL t (fv c (1 + (j * 60 + q)))) fun s => bif decide (s < x) then
   (zkJ r (1 + (p * 60 + q)) s).force fun r => zkL c t j p q r else zkL c t j p q r
def zhq (c : Tr Value) (i j : Nat) (v : Int) : Nat → Tr Value → Tr Value
 | 0,r => r
 | p + 1,r => zdy (zaL (fv c (1 + (p * 60 + i))) v) fun t => bif zcd t then zhq c i j v p r else (zkL c t j p 60 r).force fun r => zhq c i j v p r
def zAc (zt : Nat) (h : SHeap) (z : Nat) (c : Tr Value) (i j : Nat) (v : Int) : Ex (Value × SHeap) :=
 bif decide (fv c (1 + (i * 60 + j)) ≤ v) then .ok (.pointer (some ⟨z,0,none⟩),⟨h.t,h.next + 1⟩) else
 bif decide (zaL (fv c (1 + (j * 60 + i))) v < 0) then .error "and  void" else (zhq c i j v 60 c).force fun r => zvp zt h r
def zIf (zt : Nat) (h : SHeap) (z i j : Nat) (v : Int) (o : Option SObj) : Ex (Value × SHeap) := match o with
 | some (.cells c n e false false) => bif zgW c && Nat.beq n 3601 && Nat.beq e zt && Nat.ble (h.next + 4) lim && Nat.blt i 60 && Nat.blt j 60 && (bif Nat.beq i j then false else true) then zAc zt h z c i j v else .error "and  sizes"
 | _ => .error "and  zone"
def zzC (zt : Nat) (args : List Value) (h : SHeap) : Ex (Value × SHeap) := match args with
 | [.pointer (some ⟨z,0,none⟩),.agg ⟨[.int .i64 (.ofNat i),.int .i64 (.ofNat j),.int .i64 v]⟩] => zIf zt h z i j v (h.t.get z)
 | _ => .error "and  args"

end Go.Sim

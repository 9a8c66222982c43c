/- zone.Put as an oracle: definitions. zone.Bound as an oracle: definitions. -/
import Derived.Test.YtgiompikfhhkmaaGreatDoorMemoD
set_option linter.unusedVariables false
set_option linter.unusedSimpArgs false
namespace Go.Sim

def minJ (x y : Int) : Int := bif decide (y < x) then y else x
def fv (c : Tr Value) (i : Nat) : Int := match c.get i with
  | some (.int _ v) => v
  | _ => 0
def isI (v : Option Value) : Bool := match v with
  | some (.int k _) => match k with
    | .i64 => true
    | _ => false
  | _ => false
def isT (v : Option Value) : Bool := match v with
  | some (.bool b) => b
  | _ => false
def isBo (v : Option Value) : Bool := match v with
  | some (.bool _) => true
  | _ => false
def inB (v : Int) : Bool := decide (-1152921504606846976 ≤ v) && decide (v ≤ 1152921504606846976)
def allN (p : Nat → Bool) : Nat → Bool
  | 0 => true
  | n + 1 => bif p n then allN p n else false
def bdOK (t : Tr Value) (x j : Nat) : Bool := isBo (t.get (j * 2)) && isI (t.get (j * 2 + 1)) && (bif Nat.beq j x then true else bif isT (t.get (j * 2)) then inB (fv t (j * 2 + 1)) else true)
def bdJ (t : Tr Value) (x j : Nat) : Int := bif Nat.beq j x then 2305843009213693952 else bif isT (t.get (j * 2)) then fv t (j * 2 + 1) else 2305843009213693952
def buildL (g : Nat → Int) : Nat → List Value → List Value
  | 0,acc => acc
  | k + 1,acc => forceI (g k) fun v => buildL g k (.int .i64 v :: acc)
def fuJ (a c : Tr Value) (x q : Nat) : Nat → Nat → Int → Int
  | 0,_,acc => acc
  | n + 1,k,acc => bif Nat.beq k x then forceN (k + 1) fun k => fuJ a c x q n k acc else
      forceI (sumI (fv a k) (fv c (1 + (k * 60 + q)))) fun s => forceI (minJ acc s) fun acc => forceN (k + 1) fun k => fuJ a c x q n k acc
def fdJ (b c : Tr Value) (x q : Nat) : Nat → Nat → Int → Int
  | 0,_,acc => acc
  | n + 1,k,acc => bif Nat.beq k x then forceN (k + 1) fun k => fdJ b c x q n k acc else
      forceI (sumI (fv c (1 + (q * 60 + k))) (fv b k)) fun s => forceI (minJ acc s) fun acc => forceN (k + 1) fun k => fdJ b c x q n k acc
def zpG (c u d : Tr Value) (x i : Nat) : Int :=
  bif Nat.beq (i / 60) x then (bif Nat.beq (i % 60) x then fv c (1 + i) else fv u (i % 60)) else
  bif Nat.beq (i % 60) x then fv d (i / 60) else minJ (fv c (1 + i)) (sumI (fv d (i / 60)) (fv u (i % 60)))
def zpE (zt : Nat) (h : SHeap) (r : Tr Value) : Ex (Value × SHeap) := bif allN (fun i => decide (0 ≤ fv r (1 + (i * 60 + i)))) 60 then
    .ok (.tuple #[.pointer (some ⟨h.next + 128,0,none⟩),.int .i64 0],⟨h.t.put (h.next + 128) (some (.cells r 3601 zt false false)),h.next + 129⟩)
  else .error "put  sign"
def zpK (zt : Nat) (h : SHeap) (x : Nat) (c u d : Tr Value) : Ex (Value × SHeap) := (Tr.ofL 33 (.bool false :: buildL (zpG c u d x) 3600 [])).force fun r => zpE zt h r
def zpC (zt : Nat) (h : SHeap) (x : Nat) (c a b : Tr Value) : Ex (Value × SHeap) :=
  (Tr.ofL 33 (buildL (fun q => fuJ a c x q 60 0 2305843009213693952) 60 [])).force fun u => (Tr.ofL 33 (buildL (fun q => fdJ b c x q 60 0 2305843009213693952) 60 [])).force fun d => zpK zt h x c u d
def zpB (zt : Nat) (h : SHeap) (x : Nat) (c tl th : Tr Value) : Ex (Value × SHeap) := bif allN (bdOK tl x) 60 && allN (bdOK th x) 60 then
    (Tr.ofL 33 (buildL (bdJ tl x) 60 [])).force fun a => (Tr.ofL 33 (buildL (bdJ th x) 60 [])).force fun b => zpC zt h x c a b
  else .error "put  bounds"
def zpA (zt : Nat) (h : SHeap) (x : Nat) (z l u : Option SObj) : Ex (Value × SHeap) := match z with
  | some (.cells c n e false false) => match l with
    | some (.cells tl _ _ _ _) => match u with
      | some (.cells th _ _ _ _) => match c.toL 32 3601 with
        | some (.bool false :: cs) => bif allI64 cs && Nat.beq n 3601 && Nat.beq e zt && Nat.ble (h.next + 129) lim && Nat.blt x 60 && Nat.ble 1 x then zpB zt h x c tl th else .error "put  sizes"
        | _ => .error "put  cells"
      | _ => .error "put  hi"
    | _ => .error "put  lo"
  | _ => .error "put  zone"
def zpQ (zt : Nat) (args : List Value) (h : SHeap) : Ex (Value × SHeap) := match args with
  | [.pointer (some ⟨z,0,none⟩),.int .i64 (.ofNat x),.slice (some ⟨bl,0,none⟩) l1 _,.slice (some ⟨bh,0,none⟩) l2 _] => bif Nat.beq l1 60 && Nat.beq l2 60 then zpA zt h x (h.t.get z) (h.t.get bl) (h.t.get bh) else .error "put  args"
  | _ => .error "put  args"
end Go.Sim

namespace Go.Sim

def bndV (v : Int) : Value := bif isNone61 v then .agg #[.bool false,.int .i64 0] else .agg #[.bool true,.int .i64 v]
def bndB (h : SHeap) (x y : Nat) (o : Option SObj) : Ex (Value × SHeap) := match o with
  | some (.cells c n _ _ _) => bif Nat.beq n 3601 && Nat.blt x 60 && Nat.blt y 60 && Nat.blt h.next lim then match c.get 0 with
      | some (.bool false) => match c.get (1 + (x * 60 + y)) with
        | some (.int .i64 v) => .ok (bndV v,⟨h.t,h.next + 1⟩)
        | _ => .error "bound  cell"
      | _ => .error "bound  empty"
    else .error "bound  sizes"
  | _ => .error "bound  block"
def boundQ (args : List Value) (h : SHeap) : Ex (Value × SHeap) := match args with
  | [.pointer (some ⟨b,0,none⟩),.int .i64 (.ofNat x),.int .i64 (.ofNat y)] => bndB h x y (h.t.get b)
  | _ => .error "bound  args"

/-- step.plus -/
def plusV (a : Bool) (x : Int) (b : Bool) (y : Int) : Value := bif a && b then forceI (wrapF .i64 (x + y)) fun s => bif decide (s > 1152921504606846976) then .agg #[.bool false,.int .i64 0] else
    .agg #[.bool true,.int .i64 (bif decide (-1152921504606846976 > s) then -1152921504606846976 else s)] else .agg #[.bool false,.int .i64 0]
def plusQ (args : List Value) (h : SHeap) : Ex (Value × SHeap) := match args with
  | [.agg ⟨[.bool a,.int .i64 x]⟩,.agg ⟨[.bool b,.int .i64 y]⟩] => bif Nat.blt (h.next + 2) lim then .ok (plusV a x b y,⟨h.t,h.next + 3⟩) else .error "plus  names"
  | _ => .error "plus  args"
/-- step.lesser -/
def lessV (a : Bool) (x : Int) (b : Bool) (y : Int) : Value := bif (bif a then (bif b then decide (y < x) else false) else true) then .agg #[.bool b,.int .i64 y] else .agg #[.bool a,.int .i64 x]
def lessQ (args : List Value) (h : SHeap) : Ex (Value × SHeap) := match args with
  | [.agg ⟨[.bool a,.int .i64 x]⟩,.agg ⟨[.bool b,.int .i64 y]⟩] => bif Nat.blt (h.next + 2) lim then .ok (lessV a x b y,⟨h.t,h.next + 3⟩) else .error "lesser  names"
  | _ => .error "lesser  args"

end Go.Sim

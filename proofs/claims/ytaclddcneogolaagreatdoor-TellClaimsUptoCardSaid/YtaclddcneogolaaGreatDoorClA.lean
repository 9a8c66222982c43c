/- Laws of the operations in tell.claim's closure. The simulator on tell.claim's closure: the loops over tags (printed by gencl.py). The simulator on tell.claim's closure: the loop over constraints, and the whole. The simulator on tell.claim's closure: the whole. The simulator on tell.Claim. -/
import Derived.Test.YtaclddcneogolaaGreatDoorBldA
set_option linter.unusedVariables false
set_option linter.unusedSimpArgs false
set_option linter.unusedSimpArgs false
set_option linter.unusedVariables false
namespace Go.Proofs.YtaclddcneogolaaGreatDoor
open Go Go.Sim
set_option maxRecDepth 100000
variable {O : Nat → Option (List Value → SHeap → Except String (Value × SHeap))} {ih : K}

/-- a tag: its kind,table and mask -/
abbrev Tg := Int × Int × Int
def tgV (t : Tg) : List Value := [.int .i64 t.1,.int .i64 t.2.1,.int .i64 t.2.2]
def tgA (t : Tg) : Value := .agg #[.int .i64 t.1,.int .i64 t.2.1,.int .i64 t.2.2]
def tgVs : List Tg → List Value
  | [] => []
  | t :: r => .int .i64 t.1 :: .int .i64 t.2.1 :: .int .i64 t.2.2 :: tgVs r
def Tg.fits (t : Tg) : Prop := (-9223372036854775808 ≤ t.1 ∧ t.1 ≤ 9223372036854775807) ∧ (-9223372036854775808 ≤ t.2.1 ∧ t.2.1 ≤ 9223372036854775807) ∧ (-9223372036854775808 ≤ t.2.2 ∧ t.2.2 ≤ 9223372036854775807)
theorem tgVs_len : ∀ (l : List Tg),(tgVs l).length = l.length * 3
  | [] => rfl
  | t :: r => by simp only [tgVs,List.length_cons,tgVs_len r]; omega
theorem tgVs_at : ∀ (l : List Tg) (i : Nat) (t : Tg),l[i]? = some t → ((tgVs l).drop (i * 3)).take 3 = tgV t
  | t :: r,0,u,h => by
    obtain rfl := Option.some.inj h
    rfl
  | t :: r,i + 1,u,h => by
    rw [show (i + 1) * 3 = i * 3 + 1 + 1 + 1 by omega]
    simp only [tgVs,List.drop_succ_cons]
    exact tgVs_at r i u h

theorem E24 : (Eo O).T 24 = some ⟨Tab.t24.desc,3,24,some (.agg #[.int .i64 0,.int .i64 0,.int .i64 0])⟩ := by show Tab.types.get 24 = _; kernel_rfl
theorem E24a : TI.agg ⟨Tab.t24.desc,3,24,some (.agg #[.int .i64 0,.int .i64 0,.int .i64 0])⟩ = true := by kernel_rfl
theorem E25 : (Eo O).T 25 = some ⟨.array 10 24,30,Tab.t25.bytes,Tab.t25.zero⟩ := by show Tab.types.get 25 = _; kernel_rfl
theorem E26 : (Eo O).T 26 = some ⟨.array 32 24,96,Tab.t26.bytes,Tab.t26.zero⟩ := by show Tab.types.get 26 = _; kernel_rfl
theorem E29 : (Eo O).T 29 = some ⟨Tab.t29.desc,128,Tab.t29.bytes,Tab.t29.zero⟩ := by show Tab.types.get 29 = _; kernel_rfl
theorem E29a : TI.agg ⟨Tab.t29.desc,128,Tab.t29.bytes,Tab.t29.zero⟩ = true := by kernel_rfl
theorem E32a : TI.agg ⟨Tab.t32.desc,3,24,some (.agg #[.int .i64 0,.int .i64 0,.int .i64 0])⟩ = true := by kernel_rfl
theorem fa29a {a : Addr} {h : SHeap} : opFieldAddr (Eo O) ((Eo O).T 29) (some (.pointer (some a))) 0 h = .ok (.value (.pointer (some (addrAdd a 0))),h) := by kernel_rfl
theorem fa29b {a : Addr} {h : SHeap} : opFieldAddr (Eo O) ((Eo O).T 29) (some (.pointer (some a))) 1 h = .ok (.value (.pointer (some (addrAdd a 1))),h) := by kernel_rfl
theorem fa29c {a : Addr} {h : SHeap} : opFieldAddr (Eo O) ((Eo O).T 29) (some (.pointer (some a))) 2 h = .ok (.value (.pointer (some (addrAdd a 31))),h) := by kernel_rfl
theorem fa29d {a : Addr} {h : SHeap} : opFieldAddr (Eo O) ((Eo O).T 29) (some (.pointer (some a))) 3 h = .ok (.value (.pointer (some (addrAdd a 127))),h) := by kernel_rfl

theorem alloc24 {h : SHeap} : opAlloc ((Eo O).T 24) 24 h = .ok (.value (.pointer (some ⟨h.next,0,none⟩)),newCells h 24 [.int .i64 0,.int .i64 0,.int .i64 0] false) := by kernel_rfl
theorem alloc32 {h : SHeap} : opAlloc ((Eo O).T 32) 32 h = .ok (.value (.pointer (some ⟨h.next,0,none⟩)),newCells h 32 [.int .i64 0,.int .i64 0,.int .i64 0] false) := by kernel_rfl
theorem build24 {h : SHeap} : opBuild (Eo O) ((Eo O).T 24) (some []) h = .ok (.value (tgA (0,0,0)),h) := by kernel_rfl

/-- the three cells of a tag or constraint -/
def tri (x y z : Int) : Tr Value := (((Tr.ofL 33 [Value.int .i64 0,.int .i64 0,.int .i64 0]).put 0 (some (.int .i64 x))).put 1 (some (.int .i64 y))).put 2 (some (.int .i64 z))
theorem tri_list {x y z : Int} : (tri x y z).toListFrom 0 3 = some [.int .i64 x,.int .i64 y,.int .i64 z] := by kernel_rfl
theorem tri_store {x y z : Int} : storeList (Tr.ofL 33 [Value.int .i64 0,.int .i64 0,.int .i64 0]) 3 0 [.int .i64 x,.int .i64 y,.int .i64 z] = some (tri x y z) := by kernel_rfl
theorem store_tri {t b : Nat} {x y z : Int} {h : SHeap} (ht : ∃ ti,(Eo O).T t = some ti ∧ ti.size = 3) (hb : h.t.get b = some (.cells (Tr.ofL 33 [Value.int .i64 0,.int .i64 0,.int .i64 0]) 3 t false false)) :
    opStore (Eo O) t (some (.pointer (some ⟨b,0,none⟩))) (some (.agg #[.int .i64 x,.int .i64 y,.int .i64 z])) h = .ok (.value (.tuple #[]),h.set b (some (.cells (tri x y z) 3 t false false))) := by
  obtain ⟨ti,ht,hs⟩ := ht
  unfold opStore storeAt
  simp only [ht,hb,hs]
  rw [show (Value.agg #[Value.int .i64 x,.int .i64 y,.int .i64 z]).cells = #[Value.int .i64 x,.int .i64 y,.int .i64 z] from rfl]
  rw [if_neg (by simp)]
  simp only [storeRange,show Nat.ble (#[Value.int .i64 x,.int .i64 y,.int .i64 z] : Array Value).toList.length 12 = true from rfl,cond_true,show (#[Value.int .i64 x,.int .i64 y,.int .i64 z] : Array Value).toList = [Value.int .i64 x,.int .i64 y,.int .i64 z] from rfl,tri_store]
theorem load_tri {t b n e k : Nat} {o r : Bool} {c : Tr Value} {x y z : Int} {h : SHeap} (ht : ∃ ti,(Eo O).T t = some ti ∧ ti.size = 3 ∧ ti.agg = true) (hb : h.t.get b = some (.cells c n e o r)) (hl : c.toListFrom k 3 = some [.int .i64 x,.int .i64 y,.int .i64 z]) :
    opLoad (Eo O) t (some (.pointer (some ⟨b,k,none⟩))) h = .ok (.value (.agg #[.int .i64 x,.int .i64 y,.int .i64 z]),h) := by
  obtain ⟨ti,ht,hs,ha⟩ := ht
  unfold opLoad loadAt
  simp only [ht,hb,hs,ha,if_true,range,show Nat.ble 3 12 = true from rfl,cond_true,hl]
  rfl
/-- what a row holds at three places -/
def rowHas (x : SObj) (k : Nat) (vs : List Value) : Prop := match x with
  | .cells ct _ _ _ _ => ct.toListFrom k 3 = some vs
  | .far ct _ off => off ≤ k ∧ ct.toListFrom (k - off) 3 = some vs
  | _ => False
theorem load_row {t b k : Nat} {o : SObj} {x y z : Int} {h : SHeap} (ht : ∃ ti,(Eo O).T t = some ti ∧ ti.size = 3 ∧ ti.agg = true) (hb : h.t.get b = some o) (hl : rowHas o k [.int .i64 x,.int .i64 y,.int .i64 z]) :
    opLoad (Eo O) t (some (.pointer (some ⟨b,k,none⟩))) h = .ok (.value (.agg #[.int .i64 x,.int .i64 y,.int .i64 z]),h) := by
  cases o with
  | cells ct n e q r => exact load_tri ht hb hl
  | far ct n off =>
    obtain ⟨h1,h2⟩ := hl
    obtain ⟨ti,ht,hs,ha⟩ := ht
    have h3 : Nat.ble off k = true := by rw [Nat.ble_eq]; exact h1
    unfold opLoad loadAt
    simp only [ht,hb,h3,cond_true,hs,ha,if_true,range,show Nat.ble 3 12 = true from rfl,h2]
    rfl
  | _ => exact hl.elim
theorem T24s : ∃ ti,(Eo O).T 24 = some ti ∧ ti.size = 3 := ⟨_,E24,rfl⟩
theorem T24l : ∃ ti,(Eo O).T 24 = some ti ∧ ti.size = 3 ∧ ti.agg = true := ⟨_,E24,rfl,E24a⟩
theorem T32s : ∃ ti,(Eo O).T 32 = some ti ∧ ti.size = 3 := ⟨_,E32,rfl⟩
theorem T32l : ∃ ti,(Eo O).T 32 = some ti ∧ ti.size = 3 ∧ ti.agg = true := ⟨_,E32,rfl,E32a⟩

/-- a field of many cells,read out of the claim's block -/
theorem load_many {t b n e k : Nat} {o r : Bool} {c : Tr Value} {l : List Value} {ti : TI} {h : SHeap} (ht : (Eo O).T t = some ti) (hs : 12 < ti.size) (ha : ti.agg = true) (hb : h.t.get b = some (.cells c n e o r)) (hl : c.toL 32 n = some l) (hk : k + ti.size ≤ n) (hn : n ≤ lim) :
    opLoad (Eo O) t (some (.pointer (some ⟨b,k,none⟩))) h = .ok (.value (.agg ((l.drop k).take ti.size).toArray),h) := by
  unfold opLoad loadAt
  have h1 : Nat.ble ti.size 12 = false := by
    cases hx : Nat.ble ti.size 12 with
    | false => rfl
    | true => have := Nat.le_of_ble_eq_true hx; omega
  have h2 : Nat.ble (k + ti.size) n = true := by rw [Nat.ble_eq]; exact hk
  have h3 : Nat.ble n lim = true := by rw [Nat.ble_eq]; exact hn
  simp only [ht,hb,ha,if_true,range,h1,cond_false,hl,h2,h3,Bool.and_self,cond_true]
  rfl
theorem index_tag {t m : Nat} {ev : Ev} {op : Oper} {l : List Tg} {i b : Nat} {z : Option Value} {tg : Tg} {h : SHeap} (ht : (Eo O).T t = some ⟨.array m 24,m * 3,b,z⟩) (hi : i < m) (hx : l[i]? = some tg) :
    opIndex (Eo O) ev op ((Eo O).T t) (some (.agg (tgVs l).toArray)) (some i) h = .ok (.value (tgA tg),h) := by
  rw [ht]
  simp only [opIndex,E24,hi,if_true,partS]
  rw [if_pos E24a]
  have : (tgVs l).toArray.extract (i * 3) (i * 3 + 3) = #[.int .i64 tg.1,.int .i64 tg.2.1,.int .i64 tg.2.2] := by
    apply Array.toList_inj.1
    rw [Array.toList_extract,List.extract_eq_take_drop]
    rw [show i * 3 + 3 - i * 3 = 3 by omega]
    exact tgVs_at l i tg hx
  rw [this]
  rfl

/-! ## '!=' of tags -/
def evZ (x y : Tmp) (a b : Value) : Ev := fun o => match o with | .tmp n => bif Nat.beq n x then some a else bif Nat.beq n y then some b else none | _ => none
theorem bin_congr {e1 e2 : Ev} {x y : Tmp} {xs ys : Array Value} {dst : Option Tmp} {ty : TypeId} {pos : String} {after : Array Edge} {g : Option (Nat × Bool)} {h : SHeap} (h1 : e1 (.tmp x) = e2 (.tmp x)) (h2 : e1 (.tmp y) = e2 (.tmp y)) :
    opBin (Eo O) e1 ⟨dst,.binOp .neq 24 (.tmp x) (.tmp y) 24,ty,pos,after,g⟩ .neq 24 (some (.agg xs)) (some (.agg ys)) h = opBin (Eo O) e2 ⟨dst,.binOp .neq 24 (.tmp x) (.tmp y) 24,ty,pos,after,g⟩ .neq 24 (some (.agg xs)) (some (.agg ys)) h := by
  show pureOp (Eo O).P e1 _ h = pureOp (Eo O).P e2 _ h
  refine pureOp_congr (fun _ _ e => by cases e) (fun q hq => ?_)
  rw [show (Op.binOp .neq 24 (.tmp x) (.tmp y) 24).operands.toList = [.tmp x,.tmp y] from rfl] at hq
  rcases List.mem_cons.1 hq with rfl | hq
  · exact h1
  · obtain rfl := List.mem_singleton.1 hq
    exact h2
def tgZ (t : Tg) : Bool := match t with
  | (.ofNat 0,.ofNat 0,.ofNat 0) => true
  | _ => false
theorem tgZ_iff {t : Tg} : tgZ t = true ↔ t = (0,0,0) := by
  unfold tgZ
  split
  · simp
  · rename_i hne
    simp only [Bool.false_eq_true,false_iff]
    intro e
    exact hne e
theorem neq19 {G : Nat} {tm : Tr Value} {t : Tg} {dst : Option Tmp} {ty : TypeId} {pos : String} {after : Array Edge} {g : Option (Nat × Bool)} {h : SHeap} (h1 : tm.get 19 = some (tgA t)) (h2 : tm.get 20 = some (tgA (0,0,0))) :
    opBin (Eo O) (evT G tm) ⟨dst,.binOp .neq 24 (.tmp 19) (.tmp 20) 24,ty,pos,after,g⟩ .neq 24 (some (tgA t)) (some (tgA (0,0,0))) h = .ok (.value (.bool (!tgZ t)),h) := by
  obtain ⟨x,y,z⟩ := t
  refine (bin_congr (e2 := evZ 19 20 (tgA (x,y,z)) (tgA (0,0,0))) h1 h2).trans ?_
  rcases x with (_ | x) | x
  · rcases y with (_ | y) | y
    · rcases z with (_ | z) | z <;> kernel_rfl
    · kernel_rfl
    · kernel_rfl
  · kernel_rfl
  · kernel_rfl
theorem neq43 {G : Nat} {tm : Tr Value} {t : Tg} {dst : Option Tmp} {ty : TypeId} {pos : String} {after : Array Edge} {g : Option (Nat × Bool)} {h : SHeap} (h1 : tm.get 43 = some (tgA t)) (h2 : tm.get 44 = some (tgA (0,0,0))) :
    opBin (Eo O) (evT G tm) ⟨dst,.binOp .neq 24 (.tmp 43) (.tmp 44) 24,ty,pos,after,g⟩ .neq 24 (some (tgA t)) (some (tgA (0,0,0))) h = .ok (.value (.bool (!tgZ t)),h) := by
  obtain ⟨x,y,z⟩ := t
  refine (bin_congr (e2 := evZ 43 44 (tgA (x,y,z)) (tgA (0,0,0))) h1 h2).trans ?_
  rcases x with (_ | x) | x
  · rcases y with (_ | y) | y
    · rcases z with (_ | z) | z <;> kernel_rfl
    · kernel_rfl
    · kernel_rfl
  · kernel_rfl
  · kernel_rfl

theorem ab2 {s t : ByteArray} : allocBuild (Eo O) ((Eo O).T 147) 2 (some [(0,.iface 9 (.string s)),(1,.iface 9 (.string t))]) = some (20,[Part.str s,Part.str t].map Part.val,.slc 2 2) := by kernel_rfl
theorem allocOf_bs {E : Env} {ev : Ev} {t : TypeId} {n : Nat} {ps : Array (Nat × Operand)} : allocOf E ev (.buildSlice t n ps) = allocBuild E (E.T t) n (evParts ev ps.toList) := (id rfl)
theorem mkAV_slc {b : Nat} : mkAV (.slc 2 2) b = .slice (some ⟨b,0,none⟩) 2 2 := (id rfl)
theorem not_b {E : Env} {ev : Ev} {o : Oper} {b : Bool} {h : SHeap} : opUn E ev o .not (some (.bool b)) h = .ok (.value (.bool (bif b then false else true)),h) := (id rfl)
theorem valEq_tg {t : Tg} : valEq 200 (tgA t) (tgA t) = true := by
  simp [valEq,tgA,valEq.valsEq]

def KindIH (ih : K) : Prop := ∀ (t : Tg) (g : SHeap),t.fits → tabOK (g.t.get 0) = true → g.next + 5000 ≤ lim → ih (.call 34 #[tgA t] .normal) g = .ok (.string ⟨(kindT t.1 t.2.1 t.2.2).toArray⟩,⟨g.t,g.next + kindN t.1 t.2.1 t.2.2⟩)
theorem in64xof {n : Int} (h : -9223372036854775808 ≤ n ∧ n ≤ 9223372036854775807) : in64 n = true := by
  unfold in64
  rw [decide_eq_true h.1,decide_eq_true h.2]; rfl
theorem kind_at {k : Nat} (o34 : O 34 = some kindQ) : KindIH (run (Eo O) (k + 1)) := by
  intro t g ⟨a,b,c⟩ ht hl
  rw [run_orc (E := Eo O) (show (Eo O).O 34 = some kindQ from o34)]
  have hb : Nat.ble (g.next + 5000) lim = true := by rw [Nat.ble_eq]; exact hl
  show kindA g [.int .i64 t.1,.int .i64 t.2.1,.int .i64 t.2.2] = _
  simp only [kindA,ht,in64xof a,in64xof b,in64xof c,hb,Bool.and_self,cond_true]
end Go.Proofs.YtaclddcneogolaaGreatDoor

set_option linter.unusedSimpArgs false
set_option linter.unusedVariables false
namespace Go.Proofs.YtaclddcneogolaaGreatDoor
open Go Go.Sim
set_option maxRecDepth 100000
set_option maxHeartbeats 1000000
variable {O : Nat → Option (List Value → SHeap → Except String (Value × SHeap))} {ih : K}

noncomputable def clX : Code := cI (cI (cB (cA (cB (cF Tryz.f31)))))
noncomputable def clY : Code := cI (cI (cB (cA (cB (cB (cF Tryz.f31))))))
noncomputable def clZ : Code := cI (cI (cB (cB (cB (cB (cF Tryz.f31))))))

def tagParts (v : Int) (t : Tg) : List Part := [.str ⟨(nameT v).toArray⟩,.str ⟨(kindT t.1 t.2.1 t.2.2).toArray⟩]
def tagLine (v : Int) (t : Tg) : List UInt8 := bif tgZ t then [] else wordsT (tagParts v t) ++ [10]
def tagLines (b : Nat) : List Tg → List UInt8
  | [] => []
  | t :: r => tagLine (.ofNat b) t ++ tagLines (b + 1) r
theorem tagLines_snoc : ∀ (l : List Tg) (b : Nat) (t : Tg),tagLines b (l ++ [t]) = tagLines b l ++ tagLine (.ofNat (b + l.length)) t
  | [],b,t => by simp [tagLines]
  | u :: r,b,t => by
    simp only [List.cons_append,tagLines,tagLines_snoc r (b + 1) t,List.append_assoc,List.length_cons]
    rw [show b + 1 + r.length = b + (r.length + 1) by omega]
theorem kind_len {t : Tg} (ht : t.fits) : (kindT t.1 t.2.1 t.2.2).length ≤ 100 := by
  obtain ⟨k,tt,m⟩ := t
  obtain ⟨hk,ht,hm⟩ := ht
  simp only at hk ht hm
  have lk := itoa_len hk.1 hk.2
  have lt := itoa_len ht.1 ht.2
  have lm := itoa_len hm.1 hm.2
  simp only
  unfold kindT
  split
  · simp
  · simp
  · simp
  · simp
  · unfold wordsT kindP
    split
    · have := join_len2 (x := [98,121,116,101,115]) (y := Lib.itoa m) (n := 30) (m := 30) (by decide) (by omega)
      exact Nat.le_trans this (by decide)
    · have := join_len2 (x := [114,111,119,32,111,102,32,116,97,98,108,101]) (y := Lib.itoa tt) (n := 30) (m := 30) (by decide) (by omega)
      exact Nat.le_trans this (by decide)
    · have := join_len3 (x := [114,111,119,32,111,102,32,116,97,98,108,101]) (y := Lib.itoa tt) (z := [111,114,32,48]) (n := 30) (m := 30) (k := 30) (by decide) (by omega) (by decide)
      exact Nat.le_trans this (by decide)
    · have := join_len2 (x := [107,105,110,100]) (y := Lib.itoa k) (n := 30) (m := 30) (by decide) (by omega)
      exact Nat.le_trans this (by decide)
theorem kindN_le (k t m : Int) : kindN k t m ≤ 11 := by
  have n3 : ∀ ps : List Part,nms ps ≤ 3 * ps.length := by
    intro ps
    induction ps with
    | nil => simp [nms]
    | cons p r ih => have := nm_le p; simp only [nms,List.length_cons]; omega
  have := n3 (kindP k t m)
  have hl : (kindP k t m).length ≤ 3 := by unfold kindP; split <;> simp
  unfold kindN
  split <;> omega
theorem words_pos {x y : List UInt8} : 0 < (Lib.join [x,y] [32]).length := by
  simp [Lib.join]; omega
theorem tagParts_len {v : Int} {t : Tg} (h1 : -9223372036854775808 ≤ v) (h2 : v ≤ 9223372036854775807) (ht : t.fits) : 0 < (wordsT (tagParts v t)).length ∧ (wordsT (tagParts v t)).length ≤ 131 :=
  ⟨words_pos,join_len2 (n := 30) (m := 100) (name_len h1 h2) (kind_len ht)⟩
theorem nms_tag {v : Int} {t : Tg} : nms (tagParts v t) = 4 := rfl

/-- the run's fixed things: text's own temporaries,the builder,the loop's record,the deferred calls' block; the claim's block -/
structure ClF (h1 : SHeap) (B L D : Nat) (tt : Tr Value) : Prop where
  hB : B < h1.next
  hL : L < h1.next
  h0 : 0 < h1.next
  B0 : B ≠ 0
  L0 : L ≠ 0
  t3 : tt.get 3 = some (.pointer (some ⟨B,0,none⟩))
  tab : tabOK (h1.t.get 0) = true

theorem pl31a : planOf (Eo O) (nthD (drawsOf (cF Tryz.f31)) 0).toList = some ⟨[⟨0,.read,0⟩,⟨1,.pure,0⟩,⟨2,.pure,0⟩,⟨3,.pure,0⟩,⟨5,.pure,0⟩,⟨6,.pure,0⟩,⟨7,.eff,0⟩,⟨9,.read,0⟩,⟨10,.eff,1⟩,⟨8,.pure,1⟩,⟨11,.pure,2⟩,⟨12,.alloc,2⟩,⟨13,.eff,2⟩,⟨4,.pure,0⟩],14,14⟩ := by kernel_rfl
theorem pl31b : planOf (Eo O) (nthD (drawsOf (cF Tryz.f31)) 1).toList = some ⟨[⟨0,.read,0⟩,⟨1,.pure,0⟩,⟨2,.pure,0⟩,⟨3,.pure,0⟩,⟨5,.pure,0⟩,⟨6,.pure,0⟩,⟨7,.eff,0⟩,⟨9,.read,0⟩,⟨10,.eff,1⟩,⟨8,.pure,1⟩,⟨11,.pure,2⟩,⟨12,.alloc,2⟩,⟨13,.eff,2⟩,⟨4,.pure,0⟩],14,14⟩ := by kernel_rfl

theorem wrap_add {a j : Nat} (ha : a ≤ 100) (hj : j ≤ 1000) : wrapF .i64 (Int.ofNat a + Int.ofNat j) = Int.ofNat (a + j) := Go.Sim.wrap_small (m := a + j) (by omega)
theorem en34 : EntersS (Eo O) 34 := fun _ _ => by kernel_rfl
theorem nameN_le (v : Int) : nameN v ≤ 1 := by
  cases v with
  | ofNat n => simp only [nameN]; cases Nat.blt n 100 <;> simp
  | negSucc n => simp [nameN]

/-! ## the loop over the registers -/
structure ClX (h1 : SHeap) (B L D C : Nat) (tt : Tr Value) (pre : List UInt8) (l : List Tg) (n0 : Nat) (j : Nat) (st : St) : Prop where
  ds : st.defers = []
  t0 : st.tm.get 0 = some (.func (.yield L) #[] #[])
  t1 : st.tm.get 1 = some (.pointer (some ⟨C,0,none⟩))
  ti : st.tm.get 15 = some (.int .i64 (.ofNat j))
  tl : st.tm.get 14 = some (.agg (tgVs l).toArray)
  said : Said h1 st.h B L D tt (pre ++ tagLines 2 (l.take j))
  next : st.h.next ≤ n0 + 40 * j

theorem clX_in {k : Nat} (o65 : O 65 = none) (o28 : O 28 = none) (o29 : O 29 = none) (hW : WordsIH (run (Eo O) (k + 3))) (hN : NameIH (run (Eo O) (k + 3))) (hK : KindIH (run (Eo O) (k + 3)))
    {h1 : SHeap} {B L D C : Nat} {tt : Tr Value} {pre : List UInt8} {l : List Tg} {n0 : Nat} (F : ClF h1 B L D tt) (hl : l.length = 10) (hfit : ∀ t ∈ l,t.fits) (hlim : n0 + 8000 ≤ lim) (hpre : pre.length + 200 * 10 ≤ 3800000000)
    (hacc : ∀ j,j ≤ 10 → (pre ++ tagLines 2 (l.take j)).length ≤ pre.length + 200 * j) (j : Nat) (hj : j < 10) (st : St) (hS : ClX h1 B L D C tt pre l n0 j st) :
    ∃ st',codeS clX (Eo O) (run (Eo O) (k + 3)) ⟨31,74,.normal,none⟩ st = .ok (.normal,st') ∧ ClX h1 B L D C tt pre l n0 (j + 1) st' := by
  obtain ⟨tm,⟨G,n⟩,dd⟩ := st
  obtain ⟨hd,t0,t1,ti,tl,sd,hnx⟩ := hS
  simp only at hd t0 t1 ti tl sd hnx
  subst hd
  obtain ⟨t,htj⟩ : ∃ t,l[j]? = some t := ⟨l[j],List.getElem?_eq_getElem (by omega)⟩
  have hft : t.fits := hfit t (List.mem_of_getElem? htj)
  have nB : 0 < n := by have := sd.next; have := F.h0; simp only at *; omega
  have hj' : decide (Int.ofNat j < 10) = true := decide_eq_true (by show (j : Int) < 10; omega)
  have hj2 : wrapF .i64 (Int.ofNat j + 1) = Int.ofNat (j + 1) := Go.Sim.wrap_small (m := j + 1) (by omega)
  have hjb : wrapF .i64 (2 + Int.ofNat j) = Int.ofNat (2 + j) := wrap_add (a := 2) (by decide) (by omega)
  have ix := fun (ev : Ev) (op : Oper) (h : SHeap) => index_tag (O := O) (ev := ev) (op := op) (h := h) (t := 25) (m := 10) E25 hj htj
  have htk : l.take (j + 1) = l.take j ++ [t] := by rw [List.take_add_one,htj]; rfl
  have hll : (l.take j).length = j := by rw [List.length_take]; omega
  -- the tag's own variable
  obtain ⟨G1,e1⟩ : ∃ G1,G1 = ((newCells ⟨G,n⟩ 24 [.int .i64 0,.int .i64 0,.int .i64 0] false).set n (some (.cells (tri t.1 t.2.1 t.2.2) 3 24 false false))).t := ⟨_,rfl⟩
  have hst : opStore (Eo O) 24 (some (.pointer (some ⟨n,0,none⟩))) (some (tgA t)) (newCells ⟨G,n⟩ 24 [.int .i64 0,.int .i64 0,.int .i64 0] false) = .ok (.value (.tuple #[]),⟨G1,n + 1⟩) := by
    rw [e1]
    exact store_tri T24s (box_get (t := 24) (l := [.int .i64 0,.int .i64 0,.int .i64 0]) (o := false) (h := ⟨G,n⟩) (by show n < lim; omega))
  have g1 : G1.get n = some (.cells (tri t.1 t.2.1 t.2.2) 3 24 false false) := by
    rw [e1]; simp only [SHeap.set,get_put]; rw [if_pos ⟨trivial,by omega⟩]
  have low1 : ∀ x,x ≠ n → G1.get x = G.get x := fun x hx => by
    rw [e1]; simp only [SHeap.set,get_put]; rw [if_neg (fun e => hx e.1)]
    exact new_low (h := ⟨G,n⟩) (fun e => hx e)
  have ld : ∀ m,opLoad (Eo O) 24 (some (.pointer (some ⟨n,0,none⟩))) ⟨G1,m⟩ = .ok (.value (tgA t),⟨G1,m⟩) := fun m => load_tri T24l g1 tri_list
  have hp := pl31a (O := O)
  simp only [Tryz.f31,cF,Option.getD,cA,cB,cI,drawsOf,nthD,List.append_nil,List.nil_append,List.cons_append] at hp
  generalize hr : codeS clX (Eo O) (run (Eo O) (k + 3)) ⟨31,74,.normal,none⟩ ⟨tm,⟨G,n⟩,[]⟩ = r
  unfold clX at hr
  cases hz : tgZ t with
  | true =>
    have neq := fun (G : Nat) (tm : Tr Value) (dst : Option Tmp) (ty : TypeId) (pos : String) (after : Array Edge) (g : Option (Nat × Bool)) (h : SHeap) (a) (b) => neq19 (O := O) (G := G) (tm := tm) (t := t) (dst := dst) (ty := ty) (pos := pos) (after := after) (g := g) (h := h) a b
    rw [hz] at neq
    simp only [Bool.not_true] at neq
    simp only [Tryz.f31,cF,Option.getD,cA,cB,cI,codeS,cSeq_run,cCond_run,cRegion_run,cRegion_draw,cBlock_run,cSkip_run,cRet_run,cExit_run,opsS_nil,opsS_run,opS_free,thenS_normal,thenS_ret,thenS_exit,exitBlock_normal,exitBlock_ret,exitBlock_exit,normalS_ok,dispatch,dMove,opMove,evT_tmp,evT_int,evT_bool,evT_str,dBin,dUn,dAlloc,lss_i64,add_i64,valR,afterS_value,afterS_round,putT_some,putT_none,get_put,lim,Nat.reduceLT,Nat.reduceEqDiff,and_true,if_true,if_false,reduceIte,false_and,true_and,Nat.beq,cond_true,cond_false,
      dIndexAddr,dFieldAddr,dNilCheck,dLoad,dStore,nilCheck_ptr,Option.bind_some,natOf_int,addrAdd_free,drawS_nil',drawS_cons',dstep_pg,dstep_rg,dstep_eg,dstep_bg,wantedS_none,wantedS_some,readAgain_nil,readAgain_cons,valEq_tg,callOut_enter,callOut_value,simOp_run,outVal_val,List.getElem?_toArray,List.getElem?_cons_succ,List.getElem?_cons_zero,List.drop_succ_cons,List.drop_zero,dPick,pick_true,pick_false,opS_guard,dIndex,dBuild,dBuildSlice,dMakeIface,mi9,dCall,evParts,evList,bqa,bqb,bqc,bqd,Bool.and_self,Bool.not_true,Bool.not_false,not_b,afterS_enter,call_fn en32,call_fn en33,call_fn en34,alloc24,build24,allocOf_bs,ab2,mkAV_slc,bDraw_res hp (show n + 1 + 14 ≤ lim by omega),t0,t1,ti,tl,hj',hj2,ix,hst,ld,neq] at hr
    subst hr
    refine ⟨_,rfl,rfl,?_,?_,?_,?_,?_,?_⟩
    · simp [get_put,lim,t0]
    · simp [get_put,lim,t1]
    · simp [get_put,lim]
    · simp [get_put,lim,tl]
    · rw [htk,tagLines_snoc,hll]
      rw [show tagLine (.ofNat (2 + j)) t = [] by unfold tagLine; rw [hz]; rfl,List.append_nil]
      exact sd.grow F.hB F.hL (by show n ≤ n + 1 + 14; omega) (fun x hx => low1 x (fun e => Nat.ne_of_lt hx e))
    · show n + 1 + 14 ≤ _
      omega
  | false =>
    have hfn : -9223372036854775808 ≤ Int.ofNat (2 + j) ∧ Int.ofNat (2 + j) ≤ 9223372036854775807 := ⟨by show (-9223372036854775808 : Int) ≤ ((2 + j : Nat) : Int); omega,by show ((2 + j : Nat) : Int) ≤ 9223372036854775807; omega⟩
    have neq := fun (G : Nat) (tm : Tr Value) (dst : Option Tmp) (ty : TypeId) (pos : String) (after : Array Edge) (g : Option (Nat × Bool)) (h : SHeap) (a) (b) => neq19 (O := O) (G := G) (tm := tm) (t := t) (dst := dst) (ty := ty) (pos := pos) (after := after) (g := g) (h := h) a b
    rw [hz] at neq
    simp only [Bool.not_false] at neq
    have tab : tabOK (G1.get 0) = true := by
      rw [low1 0 (by omega),sd.keep 0 F.h0 (fun e => F.B0 e.symm) (fun e => F.L0 e.symm)]
      exact F.tab
    have nle := nameN_le (Int.ofNat (2 + j))
    have kle := kindN_le t.1 t.2.1 t.2.2
    have N1 := hN (Int.ofNat (2 + j)) ⟨G1,n + 1 + 14⟩ hfn.1 hfn.2 tab (by show n + 1 + 14 + 10 ≤ lim; omega)
    have K1 := hK t ⟨G1,n + 1 + 14 + nameN (Int.ofNat (2 + j))⟩ hft tab (by show n + 1 + 14 + nameN (Int.ofNat (2 + j)) + 5000 ≤ lim; omega)
    obtain ⟨G2,e2⟩ : ∃ G2,G2 = (SHeap.set ⟨G1,n + 1 + 14 + nameN (Int.ofNat (2 + j)) + kindN t.1 t.2.1 t.2.2⟩ (n + 1 + 12) (some (.cells (Tr.ofL 33 ((tagParts (Int.ofNat (2 + j)) t).map Part.val)) ((tagParts (Int.ofNat (2 + j)) t).map Part.val).length 20 false false))).t := ⟨_,rfl⟩
    have low2 : ∀ x,x ≠ n + 1 + 12 → G2.get x = G1.get x := fun x hx => by
      rw [e2]; simp only [SHeap.set,get_put]; rw [if_neg (fun e => hx e.1)]
    have W1 := hW (n + 1 + 12) 2 ⟨G2,n + 1 + 14 + nameN (Int.ofNat (2 + j)) + kindN t.1 t.2.1 t.2.2⟩ (tagParts (Int.ofNat (2 + j)) t) (by
        rw [e2]; simp only [SHeap.set,get_put]; rw [if_pos ⟨trivial,by omega⟩]; rfl) rfl (fun p hp => by
        rcases List.mem_cons.1 hp with rfl | hp
        · trivial
        · obtain rfl := List.mem_singleton.1 hp; trivial) (by decide) (by decide) (by show tabOK (G2.get 0) = true; rw [low2 0 (by omega)]; exact tab)
      (by show n + 1 + 14 + nameN (Int.ofNat (2 + j)) + kindN t.1 t.2.1 t.2.2 + 4000 ≤ lim; omega) (by have := (tagParts_len hfn.1 hfn.2 hft).2; omega)
    have hset : SHeap.set ⟨G1,n + 1 + 14 + nameN (Int.ofNat (2 + j)) + kindN t.1 t.2.1 t.2.2⟩ (n + 1 + 12) (some (.cells (Tr.ofL 33 ([Part.str ⟨(nameT (Int.ofNat (2 + j))).toArray⟩,Part.str ⟨(kindT t.1 t.2.1 t.2.2).toArray⟩].map Part.val)) ([Part.str ⟨(nameT (Int.ofNat (2 + j))).toArray⟩,Part.str ⟨(kindT t.1 t.2.1 t.2.2).toArray⟩].map Part.val).length 20 false false)) = ⟨G2,n + 1 + 14 + nameN (Int.ofNat (2 + j)) + kindN t.1 t.2.1 t.2.2⟩ := by rw [e2]; rfl
    have sd2 : Said h1 ⟨G2,n + 1 + 14 + nameN (Int.ofNat (2 + j)) + kindN t.1 t.2.1 t.2.2 + nms (tagParts (Int.ofNat (2 + j)) t)⟩ B L D tt (pre ++ tagLines 2 (l.take j)) :=
      sd.grow F.hB F.hL (by show n ≤ _; simp only; omega) (fun x hx => by
        have hx' : x < n := hx
        show G2.get x = G.get x
        rw [low2 x (by omega),low1 x (by omega)])
    obtain ⟨hlen0,hlen1⟩ := tagParts_len (t := t) hfn.1 hfn.2 hft
    obtain ⟨h3,r1,r2,r3⟩ := sd2.round (k := k) o65 o28 o29 F.hB F.hL F.t3 (s := wordsT (tagParts (Int.ofNat (2 + j)) t)) (by show n + 1 + 14 + nameN (Int.ofNat (2 + j)) + kindN t.1 t.2.1 t.2.2 + nms (tagParts (Int.ofNat (2 + j)) t) + 20 ≤ lim; rw [nms_tag]; omega) hlen0 (by omega) (by
      have := hacc j (by omega)
      omega)
    have hLo : G2.get L = some (.loop (lp tt D .ready)) := sd2.loop
    have hpz : (lp tt D .ready).params.size = 1 := rfl
    rw [nms_tag] at r1 r2 W1
    have cy := fun (tm : Tr Value) (o : Oper) (ats : Array TypeId) (h : Nat) (ha : tm.get 23 = some (.func (.yield L) #[] #[])) (hb : tm.get 32 = some (.string ⟨(wordsT (tagParts (Int.ofNat (2 + j)) t)).toArray⟩)) => call_yield (E := Eo O) (G := (Eo O).G) (o := o) (ats := ats) (h := ⟨G2,h⟩) ha hb hLo hpz
    have b1 : Nat.ble (n + 1 + 14 + nameN (Int.ofNat (2 + j))) 4294967296 = true := by rw [Nat.ble_eq]; unfold lim at hlim; omega
    have b2 : Nat.ble (n + 1 + 14 + nameN (Int.ofNat (2 + j)) + kindN t.1 t.2.1 t.2.2) 4294967296 = true := by rw [Nat.ble_eq]; unfold lim at hlim; omega
    have b3 : Nat.ble (n + 1 + 14 + nameN (Int.ofNat (2 + j)) + kindN t.1 t.2.1 t.2.2 + 4) 4294967296 = true := by rw [Nat.ble_eq]; unfold lim at hlim; omega
    simp only [Tryz.f31,cF,Option.getD,cA,cB,cI,codeS,cSeq_run,cCond_run,cRegion_run,cRegion_draw,cBlock_run,cSkip_run,cRet_run,cExit_run,opsS_nil,opsS_run,opS_free,thenS_normal,thenS_ret,thenS_exit,exitBlock_normal,exitBlock_ret,exitBlock_exit,normalS_ok,dispatch,dMove,opMove,evT_tmp,evT_int,evT_bool,evT_str,dBin,dUn,dAlloc,lss_i64,add_i64,valR,afterS_value,afterS_round,putT_some,putT_none,get_put,lim,Nat.reduceLT,Nat.reduceEqDiff,and_true,if_true,if_false,reduceIte,false_and,true_and,Nat.beq,cond_true,cond_false,
      dIndexAddr,dFieldAddr,dNilCheck,dLoad,dStore,nilCheck_ptr,Option.bind_some,natOf_int,addrAdd_free,drawS_nil',drawS_cons',dstep_pg,dstep_rg,dstep_eg,dstep_bg,wantedS_none,wantedS_some,readAgain_nil,readAgain_cons,valEq_tg,callOut_enter,callOut_value,simOp_run,outVal_val,List.getElem?_toArray,List.getElem?_cons_succ,List.getElem?_cons_zero,List.drop_succ_cons,List.drop_zero,dPick,pick_true,pick_false,opS_guard,dIndex,dBuild,dBuildSlice,dMakeIface,mi9,dCall,evParts,evList,bqa,bqb,bqc,bqd,Bool.and_self,Bool.not_true,Bool.not_false,not_b,afterS_enter,call_fn en32,call_fn en33,call_fn en34,alloc24,build24,allocOf_bs,ab2,mkAV_slc,bDraw_res hp (show n + 1 + 14 ≤ lim by omega),t0,t1,ti,tl,hj',hj2,hjb,ix,hst,ld,neq,N1,K1,W1,hset,b1,b2,b3,cy,r1] at hr
    subst hr
    refine ⟨_,rfl,rfl,?_,?_,?_,?_,?_,?_⟩
    · simp [get_put,lim,t0]
    · simp [get_put,lim,t1]
    · simp [get_put,lim]
    · simp [get_put,lim,tl]
    · rw [htk,tagLines_snoc,hll]
      rw [show tagLine (.ofNat (2 + j)) t = wordsT (tagParts (Int.ofNat (2 + j)) t) ++ [10] by unfold tagLine; rw [hz]; rfl]
      rw [← List.append_assoc,← List.append_assoc]
      exact r3
    · show h3.next ≤ _
      rw [r2]
      simp only
      omega

theorem clX_end {k : Nat} {h1 : SHeap} {B L D C : Nat} {tt : Tr Value} {pre : List UInt8} {l : List Tg} {n0 : Nat} (st : St) (hS : ClX h1 B L D C tt pre l n0 10 st) :
    ∃ st',codeS clX (Eo O) ih ⟨31,74,.normal,none⟩ st = .ok (.exit 0,st') ∧ ClX h1 B L D C tt pre l n0 10 st' := by
  obtain ⟨tm,⟨G,n⟩,dd⟩ := st
  obtain ⟨hd,t0,t1,ti,tl,sd,hnx⟩ := hS
  simp only at hd t0 t1 ti tl sd hnx
  subst hd
  have hj' : decide (Int.ofNat 10 < 10) = false := by decide
  generalize hr : codeS clX (Eo O) ih ⟨31,74,.normal,none⟩ ⟨tm,⟨G,n⟩,[]⟩ = r
  unfold clX at hr
  simp only [Tryz.f31,cF,Option.getD,cA,cB,cI,codeS,cSeq_run,cCond_run,cRegion_run,cRegion_draw,cBlock_run,cSkip_run,cRet_run,cExit_run,opsS_nil,opsS_run,opS_free,thenS_normal,thenS_ret,thenS_exit,exitBlock_normal,exitBlock_ret,exitBlock_exit,normalS_ok,dispatch,dMove,opMove,evT_tmp,evT_int,evT_bool,evT_str,dBin,dUn,dAlloc,lss_i64,add_i64,valR,afterS_value,afterS_round,putT_some,putT_none,get_put,lim,Nat.reduceLT,Nat.reduceEqDiff,and_true,if_true,if_false,reduceIte,false_and,true_and,Nat.beq,cond_true,cond_false,
      dIndexAddr,dFieldAddr,dNilCheck,dLoad,dStore,nilCheck_ptr,Option.bind_some,natOf_int,addrAdd_free,drawS_nil',drawS_cons',dstep_pg,dstep_rg,dstep_eg,dstep_bg,wantedS_none,wantedS_some,readAgain_nil,readAgain_cons,valEq_tg,callOut_enter,callOut_value,simOp_run,outVal_val,List.getElem?_toArray,List.getElem?_cons_succ,List.getElem?_cons_zero,List.drop_succ_cons,List.drop_zero,dPick,pick_true,pick_false,opS_guard,dIndex,dBuild,dBuildSlice,dMakeIface,mi9,dCall,evParts,evList,bqa,bqb,bqc,bqd,Bool.and_self,Bool.not_true,Bool.not_false,not_b,afterS_enter,call_fn en32,call_fn en33,call_fn en34,alloc24,build24,allocOf_bs,ab2,mkAV_slc,t0,t1,ti,tl,hj'] at hr
  subst hr
  refine ⟨_,rfl,rfl,?_,?_,?_,?_,sd,hnx⟩
  · simp [get_put,lim,t0]
  · simp [get_put,lim,t1]
  · simp [get_put,lim,ti]
  · simp [get_put,lim,tl]

/-! ## the loop over the stack -/
structure ClY (h1 : SHeap) (B L D C : Nat) (tt : Tr Value) (pre : List UInt8) (l : List Tg) (n0 : Nat) (j : Nat) (st : St) : Prop where
  ds : st.defers = []
  t0 : st.tm.get 0 = some (.func (.yield L) #[] #[])
  t1 : st.tm.get 1 = some (.pointer (some ⟨C,0,none⟩))
  ti : st.tm.get 39 = some (.int .i64 (.ofNat j))
  tl : st.tm.get 38 = some (.agg (tgVs l).toArray)
  said : Said h1 st.h B L D tt (pre ++ tagLines 12 (l.take j))
  next : st.h.next ≤ n0 + 40 * j

theorem clY_in {k : Nat} (o65 : O 65 = none) (o28 : O 28 = none) (o29 : O 29 = none) (hW : WordsIH (run (Eo O) (k + 3))) (hN : NameIH (run (Eo O) (k + 3))) (hK : KindIH (run (Eo O) (k + 3)))
    {h1 : SHeap} {B L D C : Nat} {tt : Tr Value} {pre : List UInt8} {l : List Tg} {n0 : Nat} (F : ClF h1 B L D tt) (hl : l.length = 32) (hfit : ∀ t ∈ l,t.fits) (hlim : n0 + 8000 ≤ lim) (hpre : pre.length + 200 * 32 ≤ 3800000000)
    (hacc : ∀ j,j ≤ 32 → (pre ++ tagLines 12 (l.take j)).length ≤ pre.length + 200 * j) (j : Nat) (hj : j < 32) (st : St) (hS : ClY h1 B L D C tt pre l n0 j st) :
    ∃ st',codeS clY (Eo O) (run (Eo O) (k + 3)) ⟨31,74,.normal,none⟩ st = .ok (.normal,st') ∧ ClY h1 B L D C tt pre l n0 (j + 1) st' := by
  obtain ⟨tm,⟨G,n⟩,dd⟩ := st
  obtain ⟨hd,t0,t1,ti,tl,sd,hnx⟩ := hS
  simp only at hd t0 t1 ti tl sd hnx
  subst hd
  obtain ⟨t,htj⟩ : ∃ t,l[j]? = some t := ⟨l[j],List.getElem?_eq_getElem (by omega)⟩
  have hft : t.fits := hfit t (List.mem_of_getElem? htj)
  have nB : 0 < n := by have := sd.next; have := F.h0; simp only at *; omega
  have hj' : decide (Int.ofNat j < 32) = true := decide_eq_true (by show (j : Int) < 32; omega)
  have hj2 : wrapF .i64 (Int.ofNat j + 1) = Int.ofNat (j + 1) := Go.Sim.wrap_small (m := j + 1) (by omega)
  have hjb : wrapF .i64 (12 + Int.ofNat j) = Int.ofNat (12 + j) := wrap_add (a := 12) (by decide) (by omega)
  have ix := fun (ev : Ev) (op : Oper) (h : SHeap) => index_tag (O := O) (ev := ev) (op := op) (h := h) (t := 26) (m := 32) E26 hj htj
  have htk : l.take (j + 1) = l.take j ++ [t] := by rw [List.take_add_one,htj]; rfl
  have hll : (l.take j).length = j := by rw [List.length_take]; omega
  -- the tag's own variable
  obtain ⟨G1,e1⟩ : ∃ G1,G1 = ((newCells ⟨G,n⟩ 24 [.int .i64 0,.int .i64 0,.int .i64 0] false).set n (some (.cells (tri t.1 t.2.1 t.2.2) 3 24 false false))).t := ⟨_,rfl⟩
  have hst : opStore (Eo O) 24 (some (.pointer (some ⟨n,0,none⟩))) (some (tgA t)) (newCells ⟨G,n⟩ 24 [.int .i64 0,.int .i64 0,.int .i64 0] false) = .ok (.value (.tuple #[]),⟨G1,n + 1⟩) := by
    rw [e1]
    exact store_tri T24s (box_get (t := 24) (l := [.int .i64 0,.int .i64 0,.int .i64 0]) (o := false) (h := ⟨G,n⟩) (by show n < lim; omega))
  have g1 : G1.get n = some (.cells (tri t.1 t.2.1 t.2.2) 3 24 false false) := by
    rw [e1]; simp only [SHeap.set,get_put]; rw [if_pos ⟨trivial,by omega⟩]
  have low1 : ∀ x,x ≠ n → G1.get x = G.get x := fun x hx => by
    rw [e1]; simp only [SHeap.set,get_put]; rw [if_neg (fun e => hx e.1)]
    exact new_low (h := ⟨G,n⟩) (fun e => hx e)
  have ld : ∀ m,opLoad (Eo O) 24 (some (.pointer (some ⟨n,0,none⟩))) ⟨G1,m⟩ = .ok (.value (tgA t),⟨G1,m⟩) := fun m => load_tri T24l g1 tri_list
  have hp := pl31b (O := O)
  simp only [Tryz.f31,cF,Option.getD,cA,cB,cI,drawsOf,nthD,List.append_nil,List.nil_append,List.cons_append] at hp
  generalize hr : codeS clY (Eo O) (run (Eo O) (k + 3)) ⟨31,74,.normal,none⟩ ⟨tm,⟨G,n⟩,[]⟩ = r
  unfold clY at hr
  cases hz : tgZ t with
  | true =>
    have neq := fun (G : Nat) (tm : Tr Value) (dst : Option Tmp) (ty : TypeId) (pos : String) (after : Array Edge) (g : Option (Nat × Bool)) (h : SHeap) (a) (b) => neq43 (O := O) (G := G) (tm := tm) (t := t) (dst := dst) (ty := ty) (pos := pos) (after := after) (g := g) (h := h) a b
    rw [hz] at neq
    simp only [Bool.not_true] at neq
    simp only [Tryz.f31,cF,Option.getD,cA,cB,cI,codeS,cSeq_run,cCond_run,cRegion_run,cRegion_draw,cBlock_run,cSkip_run,cRet_run,cExit_run,opsS_nil,opsS_run,opS_free,thenS_normal,thenS_ret,thenS_exit,exitBlock_normal,exitBlock_ret,exitBlock_exit,normalS_ok,dispatch,dMove,opMove,evT_tmp,evT_int,evT_bool,evT_str,dBin,dUn,dAlloc,lss_i64,add_i64,valR,afterS_value,afterS_round,putT_some,putT_none,get_put,lim,Nat.reduceLT,Nat.reduceEqDiff,and_true,if_true,if_false,reduceIte,false_and,true_and,Nat.beq,cond_true,cond_false,
      dIndexAddr,dFieldAddr,dNilCheck,dLoad,dStore,nilCheck_ptr,Option.bind_some,natOf_int,addrAdd_free,drawS_nil',drawS_cons',dstep_pg,dstep_rg,dstep_eg,dstep_bg,wantedS_none,wantedS_some,readAgain_nil,readAgain_cons,valEq_tg,callOut_enter,callOut_value,simOp_run,outVal_val,List.getElem?_toArray,List.getElem?_cons_succ,List.getElem?_cons_zero,List.drop_succ_cons,List.drop_zero,dPick,pick_true,pick_false,opS_guard,dIndex,dBuild,dBuildSlice,dMakeIface,mi9,dCall,evParts,evList,bqa,bqb,bqc,bqd,Bool.and_self,Bool.not_true,Bool.not_false,not_b,afterS_enter,call_fn en32,call_fn en33,call_fn en34,alloc24,build24,allocOf_bs,ab2,mkAV_slc,bDraw_res hp (show n + 1 + 14 ≤ lim by omega),t0,t1,ti,tl,hj',hj2,ix,hst,ld,neq] at hr
    subst hr
    refine ⟨_,rfl,rfl,?_,?_,?_,?_,?_,?_⟩
    · simp [get_put,lim,t0]
    · simp [get_put,lim,t1]
    · simp [get_put,lim]
    · simp [get_put,lim,tl]
    · rw [htk,tagLines_snoc,hll]
      rw [show tagLine (.ofNat (12 + j)) t = [] by unfold tagLine; rw [hz]; rfl,List.append_nil]
      exact sd.grow F.hB F.hL (by show n ≤ n + 1 + 14; omega) (fun x hx => low1 x (fun e => Nat.ne_of_lt hx e))
    · show n + 1 + 14 ≤ _
      omega
  | false =>
    have hfn : -9223372036854775808 ≤ Int.ofNat (12 + j) ∧ Int.ofNat (12 + j) ≤ 9223372036854775807 := ⟨by show (-9223372036854775808 : Int) ≤ ((12 + j : Nat) : Int); omega,by show ((12 + j : Nat) : Int) ≤ 9223372036854775807; omega⟩
    have neq := fun (G : Nat) (tm : Tr Value) (dst : Option Tmp) (ty : TypeId) (pos : String) (after : Array Edge) (g : Option (Nat × Bool)) (h : SHeap) (a) (b) => neq43 (O := O) (G := G) (tm := tm) (t := t) (dst := dst) (ty := ty) (pos := pos) (after := after) (g := g) (h := h) a b
    rw [hz] at neq
    simp only [Bool.not_false] at neq
    have tab : tabOK (G1.get 0) = true := by
      rw [low1 0 (by omega),sd.keep 0 F.h0 (fun e => F.B0 e.symm) (fun e => F.L0 e.symm)]
      exact F.tab
    have nle := nameN_le (Int.ofNat (12 + j))
    have kle := kindN_le t.1 t.2.1 t.2.2
    have N1 := hN (Int.ofNat (12 + j)) ⟨G1,n + 1 + 14⟩ hfn.1 hfn.2 tab (by show n + 1 + 14 + 10 ≤ lim; omega)
    have K1 := hK t ⟨G1,n + 1 + 14 + nameN (Int.ofNat (12 + j))⟩ hft tab (by show n + 1 + 14 + nameN (Int.ofNat (12 + j)) + 5000 ≤ lim; omega)
    obtain ⟨G2,e2⟩ : ∃ G2,G2 = (SHeap.set ⟨G1,n + 1 + 14 + nameN (Int.ofNat (12 + j)) + kindN t.1 t.2.1 t.2.2⟩ (n + 1 + 12) (some (.cells (Tr.ofL 33 ((tagParts (Int.ofNat (12 + j)) t).map Part.val)) ((tagParts (Int.ofNat (12 + j)) t).map Part.val).length 20 false false))).t := ⟨_,rfl⟩
    have low2 : ∀ x,x ≠ n + 1 + 12 → G2.get x = G1.get x := fun x hx => by
      rw [e2]; simp only [SHeap.set,get_put]; rw [if_neg (fun e => hx e.1)]
    have W1 := hW (n + 1 + 12) 2 ⟨G2,n + 1 + 14 + nameN (Int.ofNat (12 + j)) + kindN t.1 t.2.1 t.2.2⟩ (tagParts (Int.ofNat (12 + j)) t) (by
        rw [e2]; simp only [SHeap.set,get_put]; rw [if_pos ⟨trivial,by omega⟩]; rfl) rfl (fun p hp => by
        rcases List.mem_cons.1 hp with rfl | hp
        · trivial
        · obtain rfl := List.mem_singleton.1 hp; trivial) (by decide) (by decide) (by show tabOK (G2.get 0) = true; rw [low2 0 (by omega)]; exact tab)
      (by show n + 1 + 14 + nameN (Int.ofNat (12 + j)) + kindN t.1 t.2.1 t.2.2 + 4000 ≤ lim; omega) (by have := (tagParts_len hfn.1 hfn.2 hft).2; omega)
    have hset : SHeap.set ⟨G1,n + 1 + 14 + nameN (Int.ofNat (12 + j)) + kindN t.1 t.2.1 t.2.2⟩ (n + 1 + 12) (some (.cells (Tr.ofL 33 ([Part.str ⟨(nameT (Int.ofNat (12 + j))).toArray⟩,Part.str ⟨(kindT t.1 t.2.1 t.2.2).toArray⟩].map Part.val)) ([Part.str ⟨(nameT (Int.ofNat (12 + j))).toArray⟩,Part.str ⟨(kindT t.1 t.2.1 t.2.2).toArray⟩].map Part.val).length 20 false false)) = ⟨G2,n + 1 + 14 + nameN (Int.ofNat (12 + j)) + kindN t.1 t.2.1 t.2.2⟩ := by rw [e2]; rfl
    have sd2 : Said h1 ⟨G2,n + 1 + 14 + nameN (Int.ofNat (12 + j)) + kindN t.1 t.2.1 t.2.2 + nms (tagParts (Int.ofNat (12 + j)) t)⟩ B L D tt (pre ++ tagLines 12 (l.take j)) :=
      sd.grow F.hB F.hL (by show n ≤ _; simp only; omega) (fun x hx => by
        have hx' : x < n := hx
        show G2.get x = G.get x
        rw [low2 x (by omega),low1 x (by omega)])
    obtain ⟨hlen0,hlen1⟩ := tagParts_len (t := t) hfn.1 hfn.2 hft
    obtain ⟨h3,r1,r2,r3⟩ := sd2.round (k := k) o65 o28 o29 F.hB F.hL F.t3 (s := wordsT (tagParts (Int.ofNat (12 + j)) t)) (by show n + 1 + 14 + nameN (Int.ofNat (12 + j)) + kindN t.1 t.2.1 t.2.2 + nms (tagParts (Int.ofNat (12 + j)) t) + 20 ≤ lim; rw [nms_tag]; omega) hlen0 (by omega) (by
      have := hacc j (by omega)
      omega)
    have hLo : G2.get L = some (.loop (lp tt D .ready)) := sd2.loop
    have hpz : (lp tt D .ready).params.size = 1 := rfl
    rw [nms_tag] at r1 r2 W1
    have cy := fun (tm : Tr Value) (o : Oper) (ats : Array TypeId) (h : Nat) (ha : tm.get 47 = some (.func (.yield L) #[] #[])) (hb : tm.get 56 = some (.string ⟨(wordsT (tagParts (Int.ofNat (12 + j)) t)).toArray⟩)) => call_yield (E := Eo O) (G := (Eo O).G) (o := o) (ats := ats) (h := ⟨G2,h⟩) ha hb hLo hpz
    have b1 : Nat.ble (n + 1 + 14 + nameN (Int.ofNat (12 + j))) 4294967296 = true := by rw [Nat.ble_eq]; unfold lim at hlim; omega
    have b2 : Nat.ble (n + 1 + 14 + nameN (Int.ofNat (12 + j)) + kindN t.1 t.2.1 t.2.2) 4294967296 = true := by rw [Nat.ble_eq]; unfold lim at hlim; omega
    have b3 : Nat.ble (n + 1 + 14 + nameN (Int.ofNat (12 + j)) + kindN t.1 t.2.1 t.2.2 + 4) 4294967296 = true := by rw [Nat.ble_eq]; unfold lim at hlim; omega
    simp only [Tryz.f31,cF,Option.getD,cA,cB,cI,codeS,cSeq_run,cCond_run,cRegion_run,cRegion_draw,cBlock_run,cSkip_run,cRet_run,cExit_run,opsS_nil,opsS_run,opS_free,thenS_normal,thenS_ret,thenS_exit,exitBlock_normal,exitBlock_ret,exitBlock_exit,normalS_ok,dispatch,dMove,opMove,evT_tmp,evT_int,evT_bool,evT_str,dBin,dUn,dAlloc,lss_i64,add_i64,valR,afterS_value,afterS_round,putT_some,putT_none,get_put,lim,Nat.reduceLT,Nat.reduceEqDiff,and_true,if_true,if_false,reduceIte,false_and,true_and,Nat.beq,cond_true,cond_false,
      dIndexAddr,dFieldAddr,dNilCheck,dLoad,dStore,nilCheck_ptr,Option.bind_some,natOf_int,addrAdd_free,drawS_nil',drawS_cons',dstep_pg,dstep_rg,dstep_eg,dstep_bg,wantedS_none,wantedS_some,readAgain_nil,readAgain_cons,valEq_tg,callOut_enter,callOut_value,simOp_run,outVal_val,List.getElem?_toArray,List.getElem?_cons_succ,List.getElem?_cons_zero,List.drop_succ_cons,List.drop_zero,dPick,pick_true,pick_false,opS_guard,dIndex,dBuild,dBuildSlice,dMakeIface,mi9,dCall,evParts,evList,bqa,bqb,bqc,bqd,Bool.and_self,Bool.not_true,Bool.not_false,not_b,afterS_enter,call_fn en32,call_fn en33,call_fn en34,alloc24,build24,allocOf_bs,ab2,mkAV_slc,bDraw_res hp (show n + 1 + 14 ≤ lim by omega),t0,t1,ti,tl,hj',hj2,hjb,ix,hst,ld,neq,N1,K1,W1,hset,b1,b2,b3,cy,r1] at hr
    subst hr
    refine ⟨_,rfl,rfl,?_,?_,?_,?_,?_,?_⟩
    · simp [get_put,lim,t0]
    · simp [get_put,lim,t1]
    · simp [get_put,lim]
    · simp [get_put,lim,tl]
    · rw [htk,tagLines_snoc,hll]
      rw [show tagLine (.ofNat (12 + j)) t = wordsT (tagParts (Int.ofNat (12 + j)) t) ++ [10] by unfold tagLine; rw [hz]; rfl]
      rw [← List.append_assoc,← List.append_assoc]
      exact r3
    · show h3.next ≤ _
      rw [r2]
      simp only
      omega

theorem clY_end {k : Nat} {h1 : SHeap} {B L D C : Nat} {tt : Tr Value} {pre : List UInt8} {l : List Tg} {n0 : Nat} (st : St) (hS : ClY h1 B L D C tt pre l n0 32 st) :
    ∃ st',codeS clY (Eo O) ih ⟨31,74,.normal,none⟩ st = .ok (.exit 2,st') ∧ ClY h1 B L D C tt pre l n0 32 st' := by
  obtain ⟨tm,⟨G,n⟩,dd⟩ := st
  obtain ⟨hd,t0,t1,ti,tl,sd,hnx⟩ := hS
  simp only at hd t0 t1 ti tl sd hnx
  subst hd
  have hj' : decide (Int.ofNat 32 < 32) = false := by decide
  generalize hr : codeS clY (Eo O) ih ⟨31,74,.normal,none⟩ ⟨tm,⟨G,n⟩,[]⟩ = r
  unfold clY at hr
  simp only [Tryz.f31,cF,Option.getD,cA,cB,cI,codeS,cSeq_run,cCond_run,cRegion_run,cRegion_draw,cBlock_run,cSkip_run,cRet_run,cExit_run,opsS_nil,opsS_run,opS_free,thenS_normal,thenS_ret,thenS_exit,exitBlock_normal,exitBlock_ret,exitBlock_exit,normalS_ok,dispatch,dMove,opMove,evT_tmp,evT_int,evT_bool,evT_str,dBin,dUn,dAlloc,lss_i64,add_i64,valR,afterS_value,afterS_round,putT_some,putT_none,get_put,lim,Nat.reduceLT,Nat.reduceEqDiff,and_true,if_true,if_false,reduceIte,false_and,true_and,Nat.beq,cond_true,cond_false,
      dIndexAddr,dFieldAddr,dNilCheck,dLoad,dStore,nilCheck_ptr,Option.bind_some,natOf_int,addrAdd_free,drawS_nil',drawS_cons',dstep_pg,dstep_rg,dstep_eg,dstep_bg,wantedS_none,wantedS_some,readAgain_nil,readAgain_cons,valEq_tg,callOut_enter,callOut_value,simOp_run,outVal_val,List.getElem?_toArray,List.getElem?_cons_succ,List.getElem?_cons_zero,List.drop_succ_cons,List.drop_zero,dPick,pick_true,pick_false,opS_guard,dIndex,dBuild,dBuildSlice,dMakeIface,mi9,dCall,evParts,evList,bqa,bqb,bqc,bqd,Bool.and_self,Bool.not_true,Bool.not_false,not_b,afterS_enter,call_fn en32,call_fn en33,call_fn en34,alloc24,build24,allocOf_bs,ab2,mkAV_slc,t0,t1,ti,tl,hj'] at hr
  subst hr
  refine ⟨_,rfl,rfl,?_,?_,?_,?_,sd,hnx⟩
  · simp [get_put,lim,t0]
  · simp [get_put,lim,t1]
  · simp [get_put,lim,ti]
  · simp [get_put,lim,tl]
end Go.Proofs.YtaclddcneogolaaGreatDoor

set_option linter.unusedSimpArgs false
set_option linter.unusedVariables false
namespace Go.Proofs.YtaclddcneogolaaGreatDoor
open Go Go.Sim
set_option maxRecDepth 100000
set_option maxHeartbeats 1000000
variable {O : Nat → Option (List Value → SHeap → Except String (Value × SHeap))} {ih : K}

def cnA (c : Tg) : Value := .agg #[.int .i64 c.1,.int .i64 c.2.1,.int .i64 c.2.2]
def conLine (c : Tg) : List UInt8 := boundT c.1 c.2.1 c.2.2 ++ [10]
def conLines : List Tg → List UInt8
  | [] => []
  | c :: r => conLine c ++ conLines r
theorem conLines_snoc : ∀ (l : List Tg) (c : Tg),conLines (l ++ [c]) = conLines l ++ conLine c
  | [],c => by simp [conLines]
  | u :: r,c => by simp only [List.cons_append,conLines,conLines_snoc r c,List.append_assoc]
def BoundIH (ih : K) : Prop := ∀ (c : Tg) (g : SHeap),c.fits → tabOK (g.t.get 0) = true → g.next + 5000 ≤ lim → ih (.call 35 #[cnA c] .normal) g = .ok (.string ⟨(boundT c.1 c.2.1 c.2.2).toArray⟩,⟨g.t,g.next + boundN c.1 c.2.1 c.2.2⟩)
theorem bound_at {k : Nat} (o35 : O 35 = some boundQ) : BoundIH (run (Eo O) (k + 1)) := by
  intro t g ⟨a,b,c⟩ ht hl
  rw [run_orc (E := Eo O) (show (Eo O).O 35 = some boundQ from o35)]
  have hb : Nat.ble (g.next + 5000) lim = true := by rw [Nat.ble_eq]; exact hl
  show boundA g [.int .i64 t.1,.int .i64 t.2.1,.int .i64 t.2.2] = _
  simp only [boundA,ht,in64xof a,in64xof b,in64xof c,hb,Bool.and_self,cond_true]
theorem boundN_le (i j c : Int) : boundN i j c ≤ 19 := by
  have n3 : ∀ ps : List Part,nms ps ≤ 3 * ps.length := by
    intro ps
    induction ps with
    | nil => simp [nms]
    | cons p r ih => have := nm_le p; simp only [nms,List.length_cons]; omega
  have := n3 (boundP i j c)
  have h1 := nameN_le i
  have h2 := nameN_le j
  have hl : (boundP i j c).length ≤ 5 := by
    unfold boundP
    cases decide (j = 0) with
    | true => simp
    | false => cases (decide (i = 0) && !decide (c = -9223372036854775808)) <;> simp
  unfold boundN
  cases decide (j = 0) with
  | true => simp only [cond_true]; omega
  | false => cases (decide (i = 0) && !decide (c = -9223372036854775808)) <;> simp only [cond_true,cond_false] <;> omega
theorem join3 (x y z : List UInt8) : Lib.join [x,y,z] [32] = x ++ 32 :: (y ++ 32 :: z) := by simp [Lib.join]
theorem join5 (x y z u v : List UInt8) : Lib.join [x,y,z,u,v] [32] = x ++ 32 :: (y ++ 32 :: (z ++ 32 :: (u ++ 32 :: v))) := by simp [Lib.join]
theorem itoa_pos (v : Int) : 0 < (Lib.itoa v).length := by
  unfold Lib.itoa
  split
  · simp
  · rw [Lib.decDigits_length]; exact Lib.nDigits_pos _
theorem name_pos (v : Int) : 0 < (nameT v).length := by
  cases v with
  | ofNat n =>
    simp only [nameT]
    cases hb : Nat.blt n 60 with
    | false => simp
    | true =>
      have : ∀ n,n < 60 → 0 < (nameS n).length := by decide
      exact this n (of_blt hb)
  | negSucc n => simp [nameT]
theorem bound_len {c : Tg} (hc : c.fits) : 6 ≤ (boundT c.1 c.2.1 c.2.2).length ∧ (boundT c.1 c.2.1 c.2.2).length ≤ 199 := by
  obtain ⟨i,j,m⟩ := c
  obtain ⟨hi,hj,hm⟩ := hc
  simp only at hi hj hm
  have a1 := name_len hi.1 hi.2
  have a2 := name_len hj.1 hj.2
  have b1 := name_pos i
  have b2 := name_pos j
  have c1 := itoa_len hm.1 hm.2
  have c2 := itoa_pos m
  simp only
  unfold boundT boundP wordsT
  cases hJ : decide (j = 0) with
  | true =>
    show 6 ≤ (Lib.join [nameT i,[60,61],Lib.itoa m] [32]).length ∧ (Lib.join [nameT i,[60,61],Lib.itoa m] [32]).length ≤ 199
    simp only [join3,join5,List.length_append,List.length_cons,List.length_nil]
    omega
  | false =>
    cases hI : (decide (i = 0) && !decide (m = -9223372036854775808)) with
    | true =>
      simp only [Bool.and_eq_true,Bool.not_eq_true',decide_eq_false_iff_not] at hI
      have d1 := itoa_len (v := -m) (by omega) (by omega)
      have d2 := itoa_pos (-m)
      show 6 ≤ (Lib.join [nameT j,[62,61],Lib.itoa (-m)] [32]).length ∧ (Lib.join [nameT j,[62,61],Lib.itoa (-m)] [32]).length ≤ 199
      simp only [join3,join5,List.length_append,List.length_cons,List.length_nil]
      omega
    | false =>
      show 6 ≤ (Lib.join [nameT i,[45],nameT j,[60,61],Lib.itoa m] [32]).length ∧ (Lib.join [nameT i,[45],nameT j,[60,61],Lib.itoa m] [32]).length ≤ 199
      simp only [join3,join5,List.length_append,List.length_cons,List.length_nil]
      omega
theorem en35 : EntersS (Eo O) 35 := fun _ _ => by kernel_rfl
theorem ia27 {N cap S o j : Nat} {h : SHeap} (hj : j < N) : opIndexAddr (Eo O) ((Eo O).T 27) (some (.slice (some ⟨S,o,none⟩) N cap)) (some j) h = .ok (.value (.pointer (some ⟨S,o + j * 3,none⟩)),h) := by
  rw [E27]
  simp only [opIndexAddr,indexTo,E32]
  rw [blt_of hj,cond_true,addrAdd_free]
  rfl

/-! ## the loop over the constraints -/
structure ClZ (h1 : SHeap) (B L D C : Nat) (tt : Tr Value) (pre : List UInt8) (l : List Tg) (sv : Value) (n0 : Nat) (j : Nat) (st : St) : Prop where
  ds : st.defers = []
  t0 : st.tm.get 0 = some (.func (.yield L) #[] #[])
  ti : st.tm.get 64 = some (.int .i64 (.ofNat j))
  tn : st.tm.get 63 = some (.int .i64 (.ofNat l.length))
  tl : st.tm.get 62 = some sv
  said : Said h1 st.h B L D tt (pre ++ conLines (l.take j))
  next : st.h.next ≤ n0 + 40 * j

theorem clZ_in {k : Nat} (o65 : O 65 = none) (o28 : O 28 = none) (o29 : O 29 = none) (hC : BoundIH (run (Eo O) (k + 3)))
    {h1 : SHeap} {B L D C : Nat} {tt : Tr Value} {pre : List UInt8} {l : List Tg} {sv : Value} {S o cap n0 : Nat} {x : SObj} (hsv : sv = .slice (some ⟨S,o,none⟩) l.length cap) (F : ClF h1 B L D tt) (hl : l.length ≤ 900000) (hfit : ∀ t ∈ l,t.fits) (hlim : n0 + 40 * l.length + 8000 ≤ lim) (hpre : pre.length + 200 * l.length ≤ 3800000000)
    (hacc : ∀ j,j ≤ l.length → (pre ++ conLines (l.take j)).length ≤ pre.length + 200 * j)
    (hS1 : S < h1.next) (hSB : S ≠ B) (hSL : S ≠ L) (hSg : h1.t.get S = some x) (hct : ∀ j c,l[j]? = some c → rowHas x (o + j * 3) [.int .i64 c.1,.int .i64 c.2.1,.int .i64 c.2.2])
    (j : Nat) (hj : j < l.length) (st : St) (hS : ClZ h1 B L D C tt pre l sv n0 j st) :
    ∃ st',codeS clZ (Eo O) (run (Eo O) (k + 3)) ⟨31,74,.normal,none⟩ st = .ok (.normal,st') ∧ ClZ h1 B L D C tt pre l sv n0 (j + 1) st' := by
  obtain ⟨tm,⟨G,n⟩,dd⟩ := st
  subst hsv
  obtain ⟨hd,t0,ti,tn,tl,sd,hnx⟩ := hS
  simp only at hd t0 ti tn tl sd hnx
  subst hd
  obtain ⟨c,hcj⟩ : ∃ c,l[j]? = some c := ⟨l[j],List.getElem?_eq_getElem hj⟩
  have hfc : c.fits := hfit c (List.mem_of_getElem? hcj)
  have nB : h1.next ≤ n := sd.next
  have hp0 := F.h0
  have hj' : decide (Int.ofNat j < Int.ofNat l.length) = true := decide_eq_true (by show (j : Int) < (l.length : Int); omega)
  have hj2 : wrapF .i64 (Int.ofNat j + 1) = Int.ofNat (j + 1) := Go.Sim.wrap_small (m := j + 1) (by omega)
  have htk : l.take (j + 1) = l.take j ++ [c] := by rw [List.take_add_one,hcj]; rfl
  have gS : G.get S = some x := by
    have := sd.keep S hS1 hSB hSL
    rw [hSg] at this
    exact this
  have l32 : opLoad (Eo O) 32 (some (.pointer (some ⟨S,o + j * 3,none⟩))) ⟨G,n⟩ = .ok (.value (cnA c),⟨G,n⟩) := load_row T32l gS (hct j c hcj)
  obtain ⟨G1,e1⟩ : ∃ G1,G1 = ((newCells ⟨G,n⟩ 32 [.int .i64 0,.int .i64 0,.int .i64 0] false).set n (some (.cells (tri c.1 c.2.1 c.2.2) 3 32 false false))).t := ⟨_,rfl⟩
  have hst : opStore (Eo O) 32 (some (.pointer (some ⟨n,0,none⟩))) (some (cnA c)) (newCells ⟨G,n⟩ 32 [.int .i64 0,.int .i64 0,.int .i64 0] false) = .ok (.value (.tuple #[]),⟨G1,n + 1⟩) := by
    rw [e1]
    exact store_tri T32s (box_get (t := 32) (l := [.int .i64 0,.int .i64 0,.int .i64 0]) (o := false) (h := ⟨G,n⟩) (by show n < lim; omega))
  have g1 : G1.get n = some (.cells (tri c.1 c.2.1 c.2.2) 3 32 false false) := by
    rw [e1]; simp only [SHeap.set,get_put]; rw [if_pos ⟨trivial,by omega⟩]
  have low1 : ∀ x,x ≠ n → G1.get x = G.get x := fun x hx => by
    rw [e1]; simp only [SHeap.set,get_put]; rw [if_neg (fun e => hx e.1)]
    exact new_low (h := ⟨G,n⟩) (fun e => hx e)
  have ld : ∀ m,opLoad (Eo O) 32 (some (.pointer (some ⟨n,0,none⟩))) ⟨G1,m⟩ = .ok (.value (cnA c),⟨G1,m⟩) := fun m => load_tri T32l g1 tri_list
  have tab : tabOK (G1.get 0) = true := by
    rw [low1 0 (by omega),sd.keep 0 F.h0 (fun e => F.B0 e.symm) (fun e => F.L0 e.symm)]
    exact F.tab
  have nle := boundN_le c.1 c.2.1 c.2.2
  have C1 := hC c ⟨G1,n + 1⟩ hfc tab (by show n + 1 + 5000 ≤ lim; omega)
  have sd2 : Said h1 ⟨G1,n + 1 + boundN c.1 c.2.1 c.2.2⟩ B L D tt (pre ++ conLines (l.take j)) :=
    sd.grow F.hB F.hL (by show n ≤ _; simp only; omega) (fun x hx => by
      have hx' : x < n := hx
      exact low1 x (by omega))
  obtain ⟨hlen0,hlen1⟩ := bound_len hfc
  obtain ⟨h3,r1,r2,r3⟩ := sd2.round (k := k) o65 o28 o29 F.hB F.hL F.t3 (s := boundT c.1 c.2.1 c.2.2) (by show n + 1 + boundN c.1 c.2.1 c.2.2 + 20 ≤ lim; omega) (by omega) (by omega) (by
    have := hacc j (by omega)
    omega)
  have hLo : G1.get L = some (.loop (lp tt D .ready)) := sd2.loop
  have hpz : (lp tt D .ready).params.size = 1 := rfl
  have cy := fun (tm : Tr Value) (o : Oper) (ats : Array TypeId) (h : Nat) (ha : tm.get 68 = some (.func (.yield L) #[] #[])) (hb : tm.get 70 = some (.string ⟨(boundT c.1 c.2.1 c.2.2).toArray⟩)) => call_yield (E := Eo O) (G := (Eo O).G) (o := o) (ats := ats) (h := ⟨G1,h⟩) ha hb hLo hpz
  have ia := fun (h : SHeap) => ia27 (O := O) (S := S) (o := o) (cap := cap) (h := h) hj
  generalize hr : codeS clZ (Eo O) (run (Eo O) (k + 3)) ⟨31,74,.normal,none⟩ ⟨tm,⟨G,n⟩,[]⟩ = r
  unfold clZ at hr
  simp only [Tryz.f31,cF,Option.getD,cA,cB,cI,codeS,cSeq_run,cCond_run,cRegion_run,cRegion_draw,cBlock_run,cSkip_run,cRet_run,cExit_run,opsS_nil,opsS_run,opS_free,thenS_normal,thenS_ret,thenS_exit,exitBlock_normal,exitBlock_ret,exitBlock_exit,normalS_ok,dispatch,dMove,opMove,evT_tmp,evT_int,evT_bool,evT_str,dBin,dUn,dAlloc,lss_i64,add_i64,valR,afterS_value,afterS_round,putT_some,putT_none,get_put,lim,Nat.reduceLT,Nat.reduceEqDiff,and_true,if_true,if_false,reduceIte,false_and,true_and,Nat.beq,cond_true,cond_false,
      dIndexAddr,dFieldAddr,dNilCheck,dLoad,dStore,nilCheck_ptr,Option.bind_some,natOf_int,addrAdd_free,drawS_nil',drawS_cons',dstep_pg,dstep_rg,dstep_eg,dstep_bg,wantedS_none,wantedS_some,readAgain_nil,readAgain_cons,valEq_tg,callOut_enter,callOut_value,simOp_run,outVal_val,List.getElem?_toArray,List.getElem?_cons_succ,List.getElem?_cons_zero,List.drop_succ_cons,List.drop_zero,dPick,pick_true,pick_false,opS_guard,dIndex,dBuild,dBuildSlice,dMakeIface,mi9,dCall,evParts,evList,bqa,bqb,bqc,bqd,Bool.and_self,Bool.not_true,Bool.not_false,not_b,afterS_enter,call_fn en32,call_fn en33,call_fn en34,alloc24,build24,allocOf_bs,ab2,mkAV_slc,call_fn en35,alloc32,t0,ti,tn,tl,hj',hj2,ia,l32,hst,ld,C1,cy,r1] at hr
  subst hr
  refine ⟨_,rfl,rfl,?_,?_,?_,?_,?_,?_⟩
  · simp [get_put,lim,t0]
  · simp [get_put,lim]
  · simp [get_put,lim,tn]
  · simp [get_put,lim,tl]
  · rw [htk,conLines_snoc]
    unfold conLine
    rw [← List.append_assoc,← List.append_assoc]
    exact r3
  · show h3.next ≤ _
    rw [r2]
    simp only
    omega

theorem clZ_end {h1 : SHeap} {B L D C : Nat} {tt : Tr Value} {pre : List UInt8} {l : List Tg} {sv : Value} {n0 : Nat} (st : St) (hS : ClZ h1 B L D C tt pre l sv n0 l.length st) :
    ∃ st',codeS clZ (Eo O) ih ⟨31,74,.normal,none⟩ st = .ok (.exit 4,st') ∧ ClZ h1 B L D C tt pre l sv n0 l.length st' := by
  obtain ⟨tm,⟨G,n⟩,dd⟩ := st
  obtain ⟨hd,t0,ti,tn,tl,sd,hnx⟩ := hS
  simp only at hd t0 ti tn tl sd hnx
  subst hd
  have hj' : decide (Int.ofNat l.length < Int.ofNat l.length) = false := by simp
  generalize hr : codeS clZ (Eo O) ih ⟨31,74,.normal,none⟩ ⟨tm,⟨G,n⟩,[]⟩ = r
  unfold clZ at hr
  simp only [Tryz.f31,cF,Option.getD,cA,cB,cI,codeS,cSeq_run,cCond_run,cRegion_run,cRegion_draw,cBlock_run,cSkip_run,cRet_run,cExit_run,opsS_nil,opsS_run,opS_free,thenS_normal,thenS_ret,thenS_exit,exitBlock_normal,exitBlock_ret,exitBlock_exit,normalS_ok,dispatch,dMove,opMove,evT_tmp,evT_int,evT_bool,evT_str,dBin,dUn,dAlloc,lss_i64,add_i64,valR,afterS_value,afterS_round,putT_some,putT_none,get_put,lim,Nat.reduceLT,Nat.reduceEqDiff,and_true,if_true,if_false,reduceIte,false_and,true_and,Nat.beq,cond_true,cond_false,
      dIndexAddr,dFieldAddr,dNilCheck,dLoad,dStore,nilCheck_ptr,Option.bind_some,natOf_int,addrAdd_free,drawS_nil',drawS_cons',dstep_pg,dstep_rg,dstep_eg,dstep_bg,wantedS_none,wantedS_some,readAgain_nil,readAgain_cons,valEq_tg,callOut_enter,callOut_value,simOp_run,outVal_val,List.getElem?_toArray,List.getElem?_cons_succ,List.getElem?_cons_zero,List.drop_succ_cons,List.drop_zero,dPick,pick_true,pick_false,opS_guard,dIndex,dBuild,dBuildSlice,dMakeIface,mi9,dCall,evParts,evList,bqa,bqb,bqc,bqd,Bool.and_self,Bool.not_true,Bool.not_false,not_b,afterS_enter,call_fn en32,call_fn en33,call_fn en34,alloc24,build24,allocOf_bs,ab2,mkAV_slc,t0,ti,tn,tl,hj'] at hr
  subst hr
  refine ⟨_,rfl,rfl,?_,?_,?_,?_,sd,hnx⟩
  · simp [get_put,lim,t0]
  · simp [get_put,lim,ti]
  · simp [get_put,lim,tn]
  · simp [get_put,lim,tl]
end Go.Proofs.YtaclddcneogolaaGreatDoor

set_option linter.unusedSimpArgs false
set_option linter.unusedVariables false
namespace Go.Proofs.YtaclddcneogolaaGreatDoor
open Go Go.Sim
set_option maxRecDepth 100000
set_option maxHeartbeats 1000000
variable {O : Nat → Option (List Value → SHeap → Except String (Value × SHeap))} {ih : K}

theorem tagLines_len : ∀ (l : List Tg) (b : Nat),(∀ t ∈ l,t.fits) → b + l.length ≤ 1000 → (tagLines b l).length ≤ 200 * l.length
  | [],_,_,_ => by simp [tagLines]
  | t :: r,b,hf,hb => by
    simp only [List.length_cons] at hb
    have i1 := tagLines_len r (b + 1) (fun u hu => hf u (List.mem_cons_of_mem _ hu)) (by omega)
    have hft := hf t (List.mem_cons_self ..)
    have i2 := (tagParts_len (v := Int.ofNat b) (t := t) (by show (-9223372036854775808 : Int) ≤ (b : Int); omega) (by show (b : Int) ≤ 9223372036854775807; omega) hft).2
    simp only [tagLines,List.length_append,List.length_cons]
    have i3 : (tagLine (Int.ofNat b) t).length ≤ 132 := by
      unfold tagLine
      cases tgZ t with
      | true => simp
      | false => simp only [cond_false,List.length_append,List.length_cons,List.length_nil]; omega
    omega
theorem conLines_len : ∀ (l : List Tg),(∀ t ∈ l,t.fits) → (conLines l).length ≤ 200 * l.length
  | [],_ => by simp [conLines]
  | c :: r,hf => by
    have i1 := conLines_len r (fun u hu => hf u (List.mem_cons_of_mem _ hu))
    have i2 := (bound_len (hf c (List.mem_cons_self ..))).2
    simp only [conLines,conLine,List.length_append,List.length_cons,List.length_nil]
    omega

/-- a claim's cells,and its text -/
def clV (d : Bool) (rs ss : List Tg) (cv : Value) : List Value := .bool d :: (tgVs rs ++ (tgVs ss ++ [cv]))
def claimT (d : Bool) (rs ss cs : List Tg) : List UInt8 := bif d then [100,101,97,100,10] else tagLines 2 rs ++ tagLines 12 ss ++ conLines cs

theorem clV_len {d : Bool} {rs ss : List Tg} {cv : Value} (hr : rs.length = 10) (hs : ss.length = 32) : (clV d rs ss cv).length = 128 := by
  simp only [clV,List.length_cons,List.length_append,tgVs_len,hr,hs,List.length_nil]
theorem clV_regs {d : Bool} {rs ss : List Tg} {cv : Value} (hr : rs.length = 10) : ((clV d rs ss cv).drop 1).take 30 = tgVs rs := by
  simp only [clV,List.drop_succ_cons,List.drop_zero]
  rw [List.take_append_of_le_length (by rw [tgVs_len,hr]; decide),List.take_of_length_le (by rw [tgVs_len,hr]; decide)]
theorem clV_stack {d : Bool} {rs ss : List Tg} {cv : Value} (hr : rs.length = 10) (hs : ss.length = 32) : ((clV d rs ss cv).drop 31).take 96 = tgVs ss := by
  simp only [clV]
  rw [show (31 : Nat) = 30 + 1 from rfl,List.drop_succ_cons,show (30 : Nat) = (tgVs rs).length by rw [tgVs_len,hr],List.drop_left,List.take_append_of_le_length (by rw [tgVs_len,hs]; decide),List.take_of_length_le (by rw [tgVs_len,hs]; decide)]
theorem clV_cons {d : Bool} {rs ss : List Tg} {cv : Value} (hr : rs.length = 10) (hs : ss.length = 32) : (clV d rs ss cv)[127]? = some cv := by
  simp only [clV]
  rw [show (127 : Nat) = 126 + 1 from rfl,List.getElem?_cons_succ,List.getElem?_append_right (by rw [tgVs_len,hr]; decide),tgVs_len,hr,List.getElem?_append_right (by rw [tgVs_len,hs]; decide),tgVs_len,hs]
  rfl

theorem bi_len27 {ev : Ev} {o : Oper} {ar : Array Operand} {x : Value} {h : SHeap} : opBuiltin (Eo O) ev o ⟨.builtin .len,ar,#[27]⟩ .len (some [x]) h = opLen (Eo O) ev o ((Eo O).T 27) x h := (id rfl)
theorem len27c {ev : Ev} {op : Oper} {a : Option Addr} {n c : Nat} {h : SHeap} : opLen (Eo O) ev op ((Eo O).T 27) (.slice a n c) h = .ok (.value (.int .i64 (.ofNat n)),h) := by
  rw [E27]; rfl
theorem E4a : (Eo O).T 4 = some ⟨.bool,1,Tab.t4.bytes,Tab.t4.zero⟩ := by show Tab.types.get 4 = _; kernel_rfl

/-- the constraints' row -/
def ConsAt (h : SHeap) (B L : Nat) (cv : Value) (l : List Tg) : Prop := (∃ a c,cv = .slice a 0 c ∧ l = []) ∨ ∃ S o cap x,cv = .slice (some ⟨S,o,none⟩) l.length cap ∧ S < h.next ∧ S ≠ B ∧ S ≠ L ∧ h.t.get S = some x ∧ ∀ j c,l[j]? = some c → rowHas x (o + j * 3) [.int .i64 c.1,.int .i64 c.2.1,.int .i64 c.2.2]

theorem cl_dead {k : Nat} (o65 : O 65 = none) (o28 : O 28 = none) (o29 : O 29 = none) {h1 : SHeap} {B L D C : Nat} {tt : Tr Value} (F : ClF h1 B L D tt) (hlim : h1.next + 8000 ≤ lim) {cb : Tr Value} {n e : Nat} {q r : Bool} (hC : h1.t.get C = some (.cells cb n e q r)) (hd : cb.get 0 = some (.bool true))
    (sd : Said h1 h1 B L D tt []) {tm : Tr Value} (t0 : tm.get 0 = some (.func (.yield L) #[] #[])) (t1 : tm.get 1 = some (.pointer (some ⟨C,0,none⟩))) :
    ∃ tm' h',codeS (cF Tryz.f31) (Eo O) (run (Eo O) (k + 3)) ⟨31,74,.normal,none⟩ ⟨tm,h1,[]⟩ = .ok (.ret,⟨tm',h',[]⟩) ∧ Said h1 h' B L D tt [100,101,97,100,10] ∧ h'.next = h1.next + 3 := by
  obtain ⟨G,n1⟩ := h1
  obtain ⟨h3,r1,r2,r3⟩ := sd.round (k := k) o65 o28 o29 F.hB F.hL F.t3 (s := [100,101,97,100]) (by omega) (by decide) (by decide) (by decide)
  have l0 := load_one (E := Eo O) (h := ⟨G,n1⟩) E4a rfl hC (show cb.get (0 + 0) = _ from hd)
  have hpz : (lp tt D .ready).params.size = 1 := rfl
  have hLo := sd.loop
  have cy : ∀ (tm : Tr Value) (o : Oper) (ats : Array TypeId),tm.get 11 = some (.func (.yield L) #[] #[]) → opCall (Eo O) (evT (Eo O).G tm) o ⟨.value (.tmp 11),#[.const (.string ⟨#[100,101,97,100]⟩)],ats⟩ ⟨G,n1⟩ = .ok (.round L (lp tt D .ready) #[.string ⟨#[100,101,97,100]⟩],⟨G,n1⟩) := fun tm o ats ha => by
    simp only [opCall,resolveS,evList,evT_str,evT_tmp,ha,invokeS,Array.append_empty,Array.empty_append,hLo]
    rfl
  generalize hr : codeS (cF Tryz.f31) (Eo O) (run (Eo O) (k + 3)) ⟨31,74,.normal,none⟩ ⟨tm,⟨G,n1⟩,[]⟩ = r
  simp only [Tryz.f31,cF,Option.getD,cA,cB,cI,codeS,cSeq_run,cLoop_run,cCond_run,cRegion_run,cRegion_draw,cBlock_run,cSkip_run,cRet_run,cExit_run,opsS_nil,opsS_run,opS_free,thenS_normal,thenS_ret,thenS_exit,exitBlock_normal,exitBlock_ret,exitBlock_exit,normalS_ok,dispatch,dMove,opMove,evT_tmp,evT_int,evT_bool,evT_str,dBin,dUn,dAlloc,lss_i64,add_i64,valR,afterS_value,afterS_round,putT_some,putT_none,get_put,lim,Nat.reduceLT,Nat.reduceEqDiff,and_true,if_true,if_false,reduceIte,false_and,true_and,Nat.beq,cond_true,cond_false,
      dIndexAddr,dFieldAddr,dNilCheck,dLoad,dStore,nilCheck_ptr,Option.bind_some,natOf_int,addrAdd_free,drawS_nil',drawS_cons',dstep_pg,dstep_rg,dstep_eg,dstep_bg,wantedS_none,wantedS_some,readAgain_nil,readAgain_cons,valEq_tg,callOut_enter,callOut_value,simOp_run,outVal_val,List.getElem?_toArray,List.getElem?_cons_succ,List.getElem?_cons_zero,List.drop_succ_cons,List.drop_zero,dPick,pick_true,pick_false,opS_guard,dIndex,dBuild,dBuildSlice,dMakeIface,mi9,dCall,evParts,evList,bqa,bqb,bqc,bqd,Bool.and_self,Bool.not_true,Bool.not_false,not_b,afterS_enter,call_fn en32,call_fn en33,call_fn en34,alloc24,build24,allocOf_bs,ab2,mkAV_slc,fa29a,t0,t1,l0,cy,r1] at hr
  subst hr
  exact ⟨_,h3,rfl,r3,r2⟩

theorem cl_live {k : Nat} (o65 : O 65 = none) (o28 : O 28 = none) (o29 : O 29 = none) (hW : WordsIH (run (Eo O) (k + 3))) (hN : NameIH (run (Eo O) (k + 3))) (hK : KindIH (run (Eo O) (k + 3))) (hBd : BoundIH (run (Eo O) (k + 3)))
    {h1 : SHeap} {B L D C : Nat} {tt : Tr Value} (F : ClF h1 B L D tt) {rs ss cs : List Tg} {cv : Value} (hrs : rs.length = 10) (hss : ss.length = 32) (frs : ∀ t ∈ rs,t.fits) (fss : ∀ t ∈ ss,t.fits) (fcs : ∀ t ∈ cs,t.fits) (hcs : cs.length ≤ 300000) (hlim : h1.next + 40 * cs.length + 20000 ≤ lim)
    {cb : Tr Value} {e : Nat} {q r : Bool} (hC : h1.t.get C = some (.cells cb 128 e q r)) (hcb : cb.toL 32 128 = some (clV false rs ss cv)) (hC1 : C < h1.next) (hCB : C ≠ B) (hCL : C ≠ L) (hcons : ConsAt h1 B L cv cs)
    (sd : Said h1 h1 B L D tt []) {tm : Tr Value} (t0 : tm.get 0 = some (.func (.yield L) #[] #[])) (t1 : tm.get 1 = some (.pointer (some ⟨C,0,none⟩))) :
    ∃ tm' h',codeS (cF Tryz.f31) (Eo O) (run (Eo O) (k + 3)) ⟨31,74,.normal,none⟩ ⟨tm,h1,[]⟩ = .ok (.normal,⟨tm',h',[]⟩) ∧ Said h1 h' B L D tt (claimT false rs ss cs) ∧ h'.next ≤ h1.next + 40 * cs.length + 1680 := by
  obtain ⟨G,n1⟩ := h1
  replace hlim : n1 + 40 * cs.length + 20000 ≤ lim := hlim
  obtain ⟨_,hget⟩ := toL_get hcb
  have c0 : cb.get 0 = some (.bool false) := by rw [← hget 0 (by decide) (by decide)]; rfl
  have c127 : cb.get 127 = some cv := by rw [← hget 127 (by decide) (by decide)]; exact clV_cons hrs hss
  have l0 := load_one (E := Eo O) (h := ⟨G,n1⟩) E4a rfl hC (show cb.get (0 + 0) = _ from c0)
  have l25 := load_many (O := O) (k := 1) (h := ⟨G,n1⟩) E25 (by decide) rfl hC hcb (by decide) (by decide)
  rw [clV_regs hrs] at l25
  replace l25 : opLoad (Eo O) 25 (some (.pointer (some ⟨C,0 + 1,none⟩))) ⟨G,n1⟩ = .ok (.value (.agg (tgVs rs).toArray),⟨G,n1⟩) := l25
  -- the registers
  obtain ⟨tmx,hx⟩ : ∃ tmx,tmx = ((((tm.put 9 (some (.pointer (some ⟨C,0 + 0,none⟩)))).put 10 (some (.bool false))).put 13 (some (.pointer (some ⟨C,0 + 1,none⟩)))).put 14 (some (.agg (tgVs rs).toArray))).put 15 (some (.int .i64 0)) := ⟨_,rfl⟩
  have hx0 : ClX ⟨G,n1⟩ B L D C tt [] rs n1 0 ⟨tmx,⟨G,n1⟩,[]⟩ := by
    subst hx
    refine ⟨rfl,?_,?_,?_,?_,?_,by simp⟩
    · simp [get_put,lim,t0]
    · simp [get_put,lim,t1]
    · simp [get_put,lim]
    · simp [get_put,lim]
    · simpa [tagLines] using sd
  obtain ⟨⟨tm1,⟨Gx,nx⟩,dd1⟩,ex,ix⟩ := loopS_inv (f := codeS clX (Eo O) (run (Eo O) (k + 3)) ⟨31,74,.normal,none⟩) (I := ClX ⟨G,n1⟩ B L D C tt [] rs n1) (N := 10) (id := 0) (Q := ClX ⟨G,n1⟩ B L D C tt [] rs n1 10)
    (fun j st hj hI => clX_in o65 o28 o29 hW hN hK F hrs frs (by omega) (by decide) (fun j hj => by
      have := tagLines_len (rs.take j) 2 (fun t ht => frs t (List.mem_of_mem_take ht)) (by rw [List.length_take]; omega)
      rw [List.length_take,Nat.min_eq_left (by omega)] at this
      simp only [List.nil_append,List.length_nil]
      omega) j hj st hI) (fun st hI => clX_end (k := k) st hI) 10 1000000 0 _ (by omega) (by omega) hx0
  obtain ⟨hd1,u0,u1,_,_,sd1,nx1⟩ := ix
  simp only at hd1 u0 u1 sd1 nx1
  subst hd1
  rw [List.nil_append,List.take_of_length_le (by omega)] at sd1
  -- the stack
  have gCx : Gx.get C = some (.cells cb 128 e q r) := by
    have := sd1.keep C hC1 hCB hCL
    rw [hC] at this
    exact this
  have l26 := load_many (O := O) (k := 31) (h := ⟨Gx,nx⟩) E26 (by decide) rfl gCx hcb (by decide) (by decide)
  rw [clV_stack hrs hss] at l26
  replace l26 : opLoad (Eo O) 26 (some (.pointer (some ⟨C,0 + 31,none⟩))) ⟨Gx,nx⟩ = .ok (.value (.agg (tgVs ss).toArray),⟨Gx,nx⟩) := l26
  obtain ⟨tmy,hy⟩ : ∃ tmy,tmy = (((tm1.put 37 (some (.pointer (some ⟨C,0 + 31,none⟩)))).put 38 (some (.agg (tgVs ss).toArray))).put 39 (some (.int .i64 0))) := ⟨_,rfl⟩
  have hy0 : ClY ⟨G,n1⟩ B L D C tt (tagLines 2 rs) ss (n1 + 400) 0 ⟨tmy,⟨Gx,nx⟩,[]⟩ := by
    subst hy
    refine ⟨rfl,?_,?_,?_,?_,?_,by show nx ≤ _; omega⟩
    · simp [get_put,lim,u0]
    · simp [get_put,lim,u1]
    · simp [get_put,lim]
    · simp [get_put,lim]
    · simpa [tagLines] using sd1
  have lr := tagLines_len rs 2 frs (by omega)
  rw [hrs] at lr
  obtain ⟨⟨tm2,⟨Gy,ny⟩,dd2⟩,ey,iy⟩ := loopS_inv (f := codeS clY (Eo O) (run (Eo O) (k + 3)) ⟨31,74,.normal,none⟩) (I := ClY ⟨G,n1⟩ B L D C tt (tagLines 2 rs) ss (n1 + 400)) (N := 32) (id := 2) (Q := ClY ⟨G,n1⟩ B L D C tt (tagLines 2 rs) ss (n1 + 400) 32)
    (fun j st hj hI => clY_in o65 o28 o29 hW hN hK F hss fss (by omega) (by omega) (fun j hj => by
      have := tagLines_len (ss.take j) 12 (fun t ht => fss t (List.mem_of_mem_take ht)) (by rw [List.length_take]; omega)
      rw [List.length_take,Nat.min_eq_left (by omega)] at this
      rw [List.length_append]
      omega) j hj st hI) (fun st hI => clY_end (k := k) st hI) 32 1000000 0 _ (by omega) (by omega) hy0
  obtain ⟨hd2,v0,v1,_,_,sd2,ny2⟩ := iy
  simp only at hd2 v0 v1 sd2 ny2
  subst hd2
  rw [List.take_of_length_le (by omega)] at sd2
  -- the constraints
  have gCy : Gy.get C = some (.cells cb 128 e q r) := by
    have := sd2.keep C hC1 hCB hCL
    rw [hC] at this
    exact this
  have l27 := load_one (E := Eo O) (h := ⟨Gy,ny⟩) E27 rfl gCy (show cb.get (0 + 127) = _ from c127)
  obtain ⟨a,cap,hcv⟩ : ∃ a cap,cv = .slice a cs.length cap := by
    rcases hcons with ⟨a,c,h1,h2⟩ | ⟨S,o,cap,x,h1,_⟩
    · exact ⟨a,c,by rw [h1,h2]; rfl⟩
    · exact ⟨_,cap,h1⟩
  have ls := tagLines_len ss 12 fss (by omega)
  rw [hss] at ls
  have hlen : (tagLines 2 rs ++ tagLines 12 ss).length ≤ 8400 := by rw [List.length_append]; omega
  obtain ⟨tmz,hz⟩ : ∃ tmz,tmz = ((((tm2.put 61 (some (.pointer (some ⟨C,0 + 127,none⟩)))).put 62 (some cv)).put 63 (some (.int .i64 (.ofNat cs.length)))).put 64 (some (.int .i64 0))) := ⟨_,rfl⟩
  have hz0 : ClZ ⟨G,n1⟩ B L D C tt (tagLines 2 rs ++ tagLines 12 ss) cs cv (n1 + 1680) 0 ⟨tmz,⟨Gy,ny⟩,[]⟩ := by
    subst hz
    refine ⟨rfl,?_,?_,?_,?_,?_,by show ny ≤ _; omega⟩
    · simp [get_put,lim,v0]
    · simp [get_put,lim]
    · simp [get_put,lim]
    · simp [get_put,lim]
    · simpa [conLines] using sd2
  have hac : ∀ j,j ≤ cs.length → ((tagLines 2 rs ++ tagLines 12 ss) ++ conLines (cs.take j)).length ≤ (tagLines 2 rs ++ tagLines 12 ss).length + 200 * j := fun j hj => by
    have := conLines_len (cs.take j) (fun t ht => fcs t (List.mem_of_mem_take ht))
    rw [List.length_take,Nat.min_eq_left hj] at this
    rw [List.length_append]
    omega
  obtain ⟨⟨tm3,⟨Gz,nz⟩,dd3⟩,ez,iz⟩ := loopS_inv (f := codeS clZ (Eo O) (run (Eo O) (k + 3)) ⟨31,74,.normal,none⟩) (I := ClZ ⟨G,n1⟩ B L D C tt (tagLines 2 rs ++ tagLines 12 ss) cs cv (n1 + 1680)) (N := cs.length) (id := 4) (Q := ClZ ⟨G,n1⟩ B L D C tt (tagLines 2 rs ++ tagLines 12 ss) cs cv (n1 + 1680) cs.length)
    (fun j st hj hI => by
      rcases hcons with ⟨a,c,h1,h2⟩ | ⟨S,o,cap2,x,h1,h2,h3,h4,h5,h6⟩
      · rw [h2] at hj; simp at hj
      · exact clZ_in o65 o28 o29 hBd h1 F (by omega) fcs (by omega) (by omega) hac h2 h3 h4 h5 h6 j hj st hI) (fun st hI => clZ_end st hI) cs.length 1000000 0 _ (by omega) (by omega) hz0
  obtain ⟨hd3,_,_,_,_,sd3,nz3⟩ := iz
  simp only at hd3 sd3 nz3
  subst hd3
  rw [List.take_of_length_le (by omega)] at sd3
  subst hx hy hz hcv
  generalize hr : codeS (cF Tryz.f31) (Eo O) (run (Eo O) (k + 3)) ⟨31,74,.normal,none⟩ ⟨tm,⟨G,n1⟩,[]⟩ = r
  unfold clX at ex
  unfold clY at ey
  unfold clZ at ez
  simp only [Tryz.f31,cF,Option.getD,cA,cB,cI,codeS] at ex ey ez
  simp only [Tryz.f31,cF,Option.getD,cA,cB,cI,codeS,cSeq_run,cLoop_run,cCond_run,cRegion_run,cRegion_draw,cBlock_run,cSkip_run,cRet_run,cExit_run,opsS_nil,opsS_run,opS_free,thenS_normal,thenS_ret,thenS_exit,exitBlock_normal,exitBlock_ret,exitBlock_exit,normalS_ok,dispatch,dMove,opMove,evT_tmp,evT_int,evT_bool,evT_str,dBin,dUn,dAlloc,lss_i64,add_i64,valR,afterS_value,afterS_round,putT_some,putT_none,get_put,lim,Nat.reduceLT,Nat.reduceEqDiff,and_true,if_true,if_false,reduceIte,false_and,true_and,Nat.beq,cond_true,cond_false,
      dIndexAddr,dFieldAddr,dNilCheck,dLoad,dStore,nilCheck_ptr,Option.bind_some,natOf_int,addrAdd_free,drawS_nil',drawS_cons',dstep_pg,dstep_rg,dstep_eg,dstep_bg,wantedS_none,wantedS_some,readAgain_nil,readAgain_cons,valEq_tg,callOut_enter,callOut_value,simOp_run,outVal_val,List.getElem?_toArray,List.getElem?_cons_succ,List.getElem?_cons_zero,List.drop_succ_cons,List.drop_zero,dPick,pick_true,pick_false,opS_guard,dIndex,dBuild,dBuildSlice,dMakeIface,mi9,dCall,evParts,evList,bqa,bqb,bqc,bqd,Bool.and_self,Bool.not_true,Bool.not_false,not_b,afterS_enter,call_fn en32,call_fn en33,call_fn en34,alloc24,build24,allocOf_bs,ab2,mkAV_slc,opCall_len,fa29a,fa29b,fa29c,fa29d,bi_len27,len27c,t0,t1,l0,l25,l26,l27,u0,u1,v0,v1,ex,ey,ez] at hr
  subst hr
  exact ⟨_,_,rfl,sd3,by show nz ≤ n1 + 40 * cs.length + 1680; omega⟩
end Go.Proofs.YtaclddcneogolaaGreatDoor

set_option linter.unusedSimpArgs false
set_option linter.unusedVariables false
namespace Go.Proofs.YtaclddcneogolaaGreatDoor
open Go Go.Sim
set_option maxRecDepth 100000
set_option maxHeartbeats 1000000
variable {O : Nat → Option (List Value → SHeap → Except String (Value × SHeap))} {ih : K}

theorem body31 : Tryz.f31.body = some (cF Tryz.f31) := rfl
theorem fn31 : (Eo O).F 31 = some Tryz.f31 := by show Tab.funcs.get 31 = _; kernel_rfl
theorem nt31 {a b : Value} : max Tryz.f31.ntmps (#[a,b] : Array Value).size = 74 := rfl
theorem res31 : Tryz.f31.results.toList = [] := rfl

/-- THE CLOSURE -/
theorem cl_run {k : Nat} (o65 : O 65 = none) (o28 : O 28 = none) (o29 : O 29 = none) (o31 : O 31 = none) (o32 : O 32 = some wordsQ) (o33 : O 33 = some nameQ) (o34 : O 34 = some kindQ) (o35 : O 35 = some boundQ)
    {h1 : SHeap} {B L D C : Nat} {tt : Tr Value} (F : ClF h1 B L D tt) {d : Bool} {rs ss cs : List Tg} {cv : Value} (hrs : rs.length = 10) (hss : ss.length = 32) (frs : ∀ t ∈ rs,t.fits) (fss : ∀ t ∈ ss,t.fits) (fcs : ∀ t ∈ cs,t.fits) (hcs : cs.length ≤ 300000) (hlim : h1.next + 40 * cs.length + 20000 ≤ lim)
    {cb : Tr Value} {e : Nat} {q r : Bool} (hC : h1.t.get C = some (.cells cb 128 e q r)) (hcb : cb.toL 32 128 = some (clV d rs ss cv)) (hC1 : C < h1.next) (hCB : C ≠ B) (hCL : C ≠ L) (hcons : ConsAt h1 B L cv cs) (sd : Said h1 h1 B L D tt []) :
    ∃ h',run (Eo O) (k + 4) (.call 31 #[.func (.yield L) #[] #[],.pointer (some ⟨C,0,none⟩)] .normal) h1 = .ok (.tuple #[],h') ∧ Said h1 h' B L D tt (claimT d rs ss cs) ∧ h'.next ≤ h1.next + 40 * cs.length + 1680 := by
  cases d with
  | true =>
    obtain ⟨_,hget⟩ := toL_get hcb
    have c0 : cb.get 0 = some (.bool true) := by rw [← hget 0 (by decide) (by decide)]; rfl
    obtain ⟨tm',h',k1,k2,k3⟩ := cl_dead (k := k) o65 o28 o29 F (by omega) hC c0 sd (tm := Tr.ofL 33 [.func (.yield L) #[] #[],.pointer (some ⟨C,0,none⟩)]) rfl rfl
    exact ⟨h',(run_call (show (Eo O).O 31 = none from o31)).trans (enterS_end (vs := []) fn31 body31 nt31 rfl res31 (.inr rfl) k1 rfl),k2,by omega⟩
  | false =>
    obtain ⟨tm',h',k1,k2,k3⟩ := cl_live (k := k) o65 o28 o29 (words_at (k := k + 2) o32) (name_at (k := k + 2) o33) (kind_at (k := k + 2) o34) (bound_at (k := k + 2) o35) F hrs hss frs fss fcs hcs hlim hC hcb hC1 hCB hCL hcons sd (tm := Tr.ofL 33 [.func (.yield L) #[] #[],.pointer (some ⟨C,0,none⟩)]) rfl rfl
    exact ⟨h',(run_call (show (Eo O).O 31 = none from o31)).trans (enterS_end (vs := []) fn31 body31 nt31 rfl res31 (.inl rfl) k1 rfl),k2,k3⟩

/-! ## claim -/
theorem body17 : Tryz.f17.body = some (cF Tryz.f17) := rfl
theorem fn17 : (Eo O).F 17 = some Tryz.f17 := by show Tab.funcs.get 17 = _; kernel_rfl
theorem nt17 {a : Value} : max Tryz.f17.ntmps (#[a] : Array Value).size = 4 := rfl
theorem res17 : Tryz.f17.results.toList = [.tmp 2] := rfl
theorem en17 : EntersS (Eo O) 17 := fun _ _ => by kernel_rfl
theorem evT_nilfunc {G : Nat} {tm : Tr Value} : evT G tm (.const .nilFunc) = some .nilFunc := (id rfl)
theorem mk31 {v : Value} {h : SHeap} : opMakeFunc (.func 31) (some []) (some [v]) h = .ok (.value (.func (.func 31) #[] #[v]),h) := (id rfl)

theorem c17xrun {k : Nat} (o17 : O 17 = none) {h : SHeap} {l : List Value} :
    run (Eo O) (k + 1) (.call 17 #[.agg l.toArray] .normal) h = .ok (.func (.func 31) #[] #[.pointer (some ⟨h.next,0,none⟩)],newCells h 29 l false) := by
  have hc : ∃ tm',codeS (cF Tryz.f17) (Eo O) (run (Eo O) k) ⟨17,4,.normal,none⟩ ⟨Tr.ofL 33 [.agg l.toArray],h,[]⟩ = .ok (.ret,⟨tm',newCells h 29 l false,[]⟩) ∧ tm'.get 2 = some (.func (.func 31) #[] #[.pointer (some ⟨h.next,0,none⟩)]) := by
    generalize hr : codeS (cF Tryz.f17) (Eo O) (run (Eo O) k) ⟨17,4,.normal,none⟩ ⟨Tr.ofL 33 [.agg l.toArray],h,[]⟩ = r
    have t0 : (Tr.ofL 33 [Value.agg l.toArray]).get 0 = some (.agg l.toArray) := rfl
    generalize Tr.ofL 33 [Value.agg l.toArray] = tm at hr t0
    simp only [Tryz.f17,cF,Option.getD,cA,cB,cI,codeS,cSeq_run,cRegion_run,cRet_run,opsS_nil,opsS_run,opS_free,thenS_normal,thenS_ret,normalS_ok,dispatch,dMove,opMove,evT_tmp,evT_nilfunc,valR,afterS_value,putT_some,putT_none,get_put,lim,Nat.reduceLT,Nat.reduceEqDiff,and_true,if_true,if_false,reduceIte,dBox,box_run,dMakeFunc,evList,mk31,t0] at hr
    subst hr
    exact ⟨_,rfl,by simp [get_put,lim]⟩
  obtain ⟨tm',k1,k2⟩ := hc
  exact (run_call (show (Eo O).O 17 = none from o17)).trans (enterS_ret (vs := [_]) fn17 body17 nt17 rfl res17 k1 (by simp only [resultsS,k2,need]))

/-! ## Claim -/
theorem body9 : Tryz.f9.body = some (cF Tryz.f9) := rfl
theorem fn9 : (Eo O).F 9 = some Tryz.f9 := by show Tab.funcs.get 9 = _; kernel_rfl
theorem nt9 {a : Value} : max Tryz.f9.ntmps (#[a] : Array Value).size = 6 := rfl
theorem res9 : Tryz.f9.results.toList = [.tmp 2] := rfl
theorem en9 : EntersS (Eo O) 9 := fun _ _ => by kernel_rfl

/-- the constraints' row,before the call -/
def ConsIn (h : SHeap) (cv : Value) (l : List Tg) : Prop := (∃ a c,cv = .slice a 0 c ∧ l = []) ∨ ∃ S o cap x,cv = .slice (some ⟨S,o,none⟩) l.length cap ∧ S < h.next ∧ h.t.get S = some x ∧ ∀ j c,l[j]? = some c → rowHas x (o + j * 3) [.int .i64 c.1,.int .i64 c.2.1,.int .i64 c.2.2]

/-- THE WHOLE CLAIM -/
theorem claim_run {k : Nat} (o65 : O 65 = none) (o28 : O 28 = none) (o29 : O 29 = none) (o30 : O 30 = none) (o31 : O 31 = none) (o16 : O 16 = none) (o17 : O 17 = none) (o9 : O 9 = none) (o32 : O 32 = some wordsQ) (o33 : O 33 = some nameQ) (o34 : O 34 = some kindQ) (o35 : O 35 = some boundQ)
    {h : SHeap} {d : Bool} {rs ss cs : List Tg} {cv : Value} (hrs : rs.length = 10) (hss : ss.length = 32) (frs : ∀ t ∈ rs,t.fits) (fss : ∀ t ∈ ss,t.fits) (fcs : ∀ t ∈ cs,t.fits) (hcs : cs.length ≤ 300000) (hlim : h.next + 40 * cs.length + 30000 ≤ lim)
    (hcons : ConsIn h cv cs) (htab : tabOK (h.t.get 0) = true) (h0 : 0 < h.next) :
    ∃ h',run (Eo O) (k + 6) (.call 9 #[.agg (clV d rs ss cv).toArray] .normal) h = .ok (.string ⟨(claimT d rs ss cs).toArray⟩,h') ∧ h.next ≤ h'.next ∧ h'.next ≤ h.next + 40 * cs.length + 2000 ∧ ∀ x,x < h.next → h'.t.get x = h.t.get x := by
  -- the two boxes
  obtain ⟨hA,eA⟩ : ∃ hA,hA = newCells h 29 (clV d rs ss cv) false := ⟨_,rfl⟩
  obtain ⟨hB,eB⟩ : ∃ hB,hB = newCells hA 29 (clV d rs ss cv) false := ⟨_,rfl⟩
  have nA : hA.next = h.next + 1 := by rw [eA]; rfl
  have nB : hB.next = h.next + 2 := by rw [eB]; show hA.next + 1 = _; omega
  have lowA : ∀ x,x < h.next → hA.t.get x = h.t.get x := fun x hx => by rw [eA]; exact new_low (by omega)
  have lowB : ∀ x,x < hA.next → hB.t.get x = hA.t.get x := fun x hx => by rw [eB]; exact new_low (by omega)
  have l128 := clV_len (d := d) (cv := cv) hrs hss
  have toL128 : (Tr.ofL 33 (clV d rs ss cv)).toL 32 128 = some (clV d rs ss cv) := by
    have := toL_of_ofL 31 32 (clV d rs ss cv) (by decide) (by rw [l128]; decide)
    rw [l128] at this
    exact this
  have gA : hA.t.get h.next = some (.cells (Tr.ofL 33 (clV d rs ss cv)) 128 29 false false) := by
    rw [eA]
    have := box_get (t := 29) (l := clV d rs ss cv) (o := false) (h := h) (by omega)
    rw [l128] at this
    exact this
  have gB : hB.t.get (h.next + 1) = some (.cells (Tr.ofL 33 (clV d rs ss cv)) 128 29 false false) := by
    rw [eB]
    have := box_get (t := 29) (l := clV d rs ss cv) (o := false) (h := hA) (by omega)
    rw [l128,nA] at this
    exact this
  -- the text
  obtain ⟨tt,htt⟩ : ∃ tt,tt = txTm (Tr.ofL 33 [.func (.func 31) #[] #[.pointer (some ⟨h.next + 1,0,none⟩)]]) hB (.func (.func 31) #[] #[.pointer (some ⟨h.next + 1,0,none⟩)]) := ⟨_,rfl⟩
  have nT : (txH hB tt).next = h.next + 5 := by show hB.next + 3 = _; omega
  have lowT : ∀ x,x < hB.next → (txH hB tt).t.get x = hB.t.get x := fun x hx => by
    unfold txH
    simp only [SHeap.new,get_put,show (newCells hB 84 [.pointer none,.slice none 0 0] false).next = hB.next + 1 from rfl]
    rw [if_neg (by omega),if_neg (by omega),new_low (by omega)]
  have gT : (txH hB tt).t.get hB.next = some (.cells (Tr.ofL 33 [.pointer none,.slice none 0 0]) 2 84 false false) := by
    unfold txH
    simp only [SHeap.new,get_put,show (newCells hB 84 [.pointer none,.slice none 0 0] false).next = hB.next + 1 from rfl]
    rw [if_neg (by omega),if_neg (by omega)]
    exact box_get (by omega)
  have gL : (txH hB tt).t.get (hB.next + 2) = some (.loop (lp tt (hB.next + 1) .ready)) := by
    unfold txH
    simp only [SHeap.new,get_put,show (newCells hB 84 [.pointer none,.slice none 0 0] false).next = hB.next + 1 from rfl]
    exact if_pos ⟨trivial,by omega⟩
  have F : ClF (txH hB tt) hB.next (hB.next + 2) (hB.next + 1) tt := by
    refine ⟨by omega,by omega,by omega,by omega,by omega,?_,?_⟩
    · rw [htt]; unfold txTm
      rw [get_put,if_neg (by simp),get_put,if_pos ⟨rfl,by decide⟩]
    · rw [lowT 0 (by omega),lowB 0 (by omega),lowA 0 h0]; exact htab
  have sd0 : Said (txH hB tt) (txH hB tt) hB.next (hB.next + 2) (hB.next + 1) tt [] := Said.refl (.fresh gT rfl rfl) gL
  have hcons' : ConsAt (txH hB tt) hB.next (hB.next + 2) cv cs := by
    rcases hcons with c | ⟨S,o,cap,x,c1,c2,c3,c4⟩
    · exact .inl c
    · exact .inr ⟨S,o,cap,x,c1,by omega,by omega,by omega,by rw [lowT S (by omega),lowB S (by omega),lowA S c2]; exact c3,c4⟩
  obtain ⟨h2,r1,r2,r3⟩ := cl_run (k := k) o65 o28 o29 o31 o32 o33 o34 o35 F hrs hss frs fss fcs hcs (by omega) (C := h.next + 1) (e := 29) (q := false) (r := false) (by rw [lowT _ (by omega)]; exact gB) toL128 (by omega) (by omega) (by omega) hcons' sd0
  obtain ⟨h3,s1,s2,s3⟩ := tx_run (k := k + 3) (C := h.next + 1) o16 o30 htt r1 r2 (by omega)
  -- the body
  have hc : ∃ tm',codeS (cF Tryz.f9) (Eo O) (run (Eo O) (k + 5)) ⟨9,6,.normal,none⟩ ⟨Tr.ofL 33 [.agg (clV d rs ss cv).toArray],h,[]⟩ = .ok (.ret,⟨tm',h3,[]⟩) ∧ tm'.get 2 = some (.string ⟨(claimT d rs ss cs).toArray⟩) := by
    have l29 := load_many (O := O) (k := 0) (h := hA) E29 (by decide) E29a gA toL128 (by decide) (by decide)
    replace l29 : opLoad (Eo O) 29 (some (.pointer (some ⟨h.next,0,none⟩))) hA = .ok (.value (.agg (clV d rs ss cv).toArray),hA) := by
      rw [List.drop_zero,List.take_of_length_le (by rw [l128]; decide)] at l29
      exact l29
    have c17 := c17xrun (k := k + 4) o17 (h := hA) (l := clV d rs ss cv)
    rw [← eB,nA] at c17
    have hbox : opBox 29 (some (.agg (clV d rs ss cv).toArray)) h = .ok (.value (.pointer (some ⟨h.next,0,none⟩)),hA) := by rw [eA]; rfl
    generalize hr : codeS (cF Tryz.f9) (Eo O) (run (Eo O) (k + 5)) ⟨9,6,.normal,none⟩ ⟨Tr.ofL 33 [.agg (clV d rs ss cv).toArray],h,[]⟩ = r
    have t0 : (Tr.ofL 33 [Value.agg (clV d rs ss cv).toArray]).get 0 = some (.agg (clV d rs ss cv).toArray) := rfl
    generalize Tr.ofL 33 [Value.agg (clV d rs ss cv).toArray] = tm at hr t0
    simp only [Tryz.f9,cF,Option.getD,cA,cB,cI,codeS,cSeq_run,cRegion_run,cRet_run,opsS_nil,opsS_run,opS_free,thenS_normal,thenS_ret,normalS_ok,dispatch,dMove,opMove,evT_tmp,evT_str,valR,afterS_value,putT_some,putT_none,get_put,lim,Nat.reduceLT,Nat.reduceEqDiff,and_true,if_true,if_false,reduceIte,dBox,hbox,dLoad,l29,dCall,evList,afterS_enter,call_fn en17,call_fn en16,c17,s1,t0] at hr
    subst hr
    exact ⟨_,rfl,by simp [get_put,lim]⟩
  obtain ⟨tm',k1,k2⟩ := hc
  refine ⟨h3,(run_call (show (Eo O).O 9 = none from o9)).trans (enterS_ret (vs := [_]) fn9 body9 nt9 rfl res9 k1 (by simp only [resultsS,k2,need])),?_,by omega,fun x hx => ?_⟩
  · have := r2.next; omega
  · rw [s3 x (by omega),lowB x (by omega),lowA x hx]
end Go.Proofs.YtaclddcneogolaaGreatDoor

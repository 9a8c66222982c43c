/- '==' of constraints in the simulator. '==' of rows of tags, '!=' of a constraint and itself, in the simulator. Copies of constraints, sameness of claims, in the simulator. (Written by gencpy.py.) The simulator on the law TellClaims: the whole. (Written by gentcl.py.) -/
import Derived.Test.YtaclddcneogolaaGreatDoorUnA
import Derived.Test.YtaclddcneogolaaGreatDoorClA
import Derived.Test.YtaclddcneogolaaGreatDoorRefA
set_option linter.unusedVariables false
set_option linter.unusedSimpArgs false
namespace Go.Proofs.YtaclddcneogolaaGreatDoor
open Go Go.Sim
set_option maxRecDepth 100000
theorem evalPure_bind {α β : Type} {P : Program} (f : α → Sem β) (a : α) (s : Sem α) (h : evalPure P s = some a) : evalPure P (s >>= f) = evalPure P (f a) := by
  induction s with
  | pure b => simp only [evalPure,Option.some.injEq] at h; subst h; rfl
  | program k ih => simp only [evalPure] at h; exact ih P h
  | _ => simp [evalPure] at h
theorem und32 : evalPure Tryz.prog (underlying 32) = some Tab.t32.desc := by kernel_rfl
theorem undi : evalPure Tryz.prog (underlying 3) = some (.int .i64) := by kernel_rfl
theorem eqI {d : Nat} {a b : Int} : evalPure Tryz.prog (Op.equalIn (d + 1) 3 (.int .i64 a) (.int .i64 b)) = some (a == b) := by
  unfold Op.equalIn
  rw [evalPure_bind _ _ _ undi]
  rfl
theorem part0 {a b c : Int} : evalPure Tryz.prog (part 3 #[.int .i64 a,.int .i64 b,.int .i64 c] 0) = some (.int .i64 a) := by kernel_rfl
theorem part1 {a b c : Int} : evalPure Tryz.prog (part 3 #[.int .i64 a,.int .i64 b,.int .i64 c] 1) = some (.int .i64 b) := by kernel_rfl
theorem part2 {a b c : Int} : evalPure Tryz.prog (part 3 #[.int .i64 a,.int .i64 b,.int .i64 c] 2) = some (.int .i64 c) := by kernel_rfl
theorem held32 : Tryz.prog.stoodInHeld 32 = false := by kernel_rfl
theorem prog_eval : evalPure Tryz.prog program = some Tryz.prog := rfl
/-- one field of the comparison -/
theorem eq_step {d o : Nat} {X Y : Array Value} {u v : Int} (h1 : evalPure Tryz.prog (part 3 X o) = some (.int .i64 u)) (h2 : evalPure Tryz.prog (part 3 Y o) = some (.int .i64 v)) :
    evalPure Tryz.prog (do
      let p ← part 3 X o
      let q ← part 3 Y o
      let r ← Op.equalIn (d + 1) 3 p q
      if (!r) = true then pure (ForInStep.done ((some false,()) : Option Bool × Unit)) else pure (ForInStep.yield ((none,()) : Option Bool × Unit))) = some (bif u == v then .yield (none,()) else .done (some false,())) := by
  rw [evalPure_bind _ _ _ h1,evalPure_bind _ _ _ h2,evalPure_bind _ _ _ eqI]
  cases u == v <;> rfl
theorem eq32 {d : Nat} {a b c x y z : Int} : evalPure Tryz.prog (Op.equalIn (d + 2) 32 (.agg #[.int .i64 a,.int .i64 b,.int .i64 c]) (.agg #[.int .i64 x,.int .i64 y,.int .i64 z])) = some ((a == x) && (b == y) && (c == z)) := by
  unfold Op.equalIn
  rw [evalPure_bind _ _ _ und32]
  simp only [Tab.t32,Tryz.t31]
  rw [evalPure_bind _ _ _ prog_eval,if_neg (by rw [held32]; decide)]
  simp only [List.forIn_toArray,List.forIn_cons,List.forIn_nil]
  rw [if_pos (by decide),if_pos (by decide),if_pos (by decide)]
  have s0 := eq_step (d := d) (part0 (a := a) (b := b) (c := c)) (part0 (a := x) (b := y) (c := z))
  have s1 := eq_step (d := d) (part1 (a := a) (b := b) (c := c)) (part1 (a := x) (b := y) (c := z))
  have s2 := eq_step (d := d) (part2 (a := a) (b := b) (c := c)) (part2 (a := x) (b := y) (c := z))
  cases e0 : a == x with
  | false =>
    rw [e0] at s0
    rw [evalPure_bind (a := (some false,()))]
    · rfl
    · rw [evalPure_bind _ _ _ s0]; rfl
  | true =>
    rw [e0] at s0
    cases e1 : b == y with
    | false =>
      rw [e1] at s1
      rw [evalPure_bind (a := (some false,()))]
      · rfl
      · rw [evalPure_bind _ _ _ s0]
        simp only [cond_true]
        rw [evalPure_bind _ _ _ s1]; rfl
    | true =>
      rw [e1] at s1
      cases e2 : c == z with
      | false =>
        rw [e2] at s2
        rw [evalPure_bind (a := (some false,()))]
        · rfl
        · rw [evalPure_bind _ _ _ s0]
          simp only [cond_true]
          rw [evalPure_bind _ _ _ s1]
          simp only [cond_true]
          rw [evalPure_bind _ _ _ s2]; rfl
      | true =>
        rw [e2] at s2
        rw [evalPure_bind (a := (none,()))]
        · rfl
        · rw [evalPure_bind _ _ _ s0]
          simp only [cond_true]
          rw [evalPure_bind _ _ _ s1]
          simp only [cond_true]
          rw [evalPure_bind _ _ _ s2]; rfl

theorem guard32 {x y : Operand} {p q : Tg} : evalPure Tryz.prog (Go.eqGuard .eql 32 x y (cnA p) (cnA q)) = some () := by kernel_rfl
def ev32 (x y : Value) : Ev := fun o => match o with | .tmp n => bif Nat.beq n 28 then some x else bif Nat.beq n 29 then some y else none | _ => none
theorem eql32 {O} {G : Nat} {tm : Tr Value} {p q : Tg} {dst : Option Tmp} {ty : TypeId} {pos : String} {after : Array Edge} {g : Option (Nat × Bool)} {h : SHeap} (h1 : tm.get 28 = some (cnA p)) (h2 : tm.get 29 = some (cnA q)) :
    opBin (Eo O) (evT G tm) ⟨dst,.binOp .eql 32 (.tmp 28) (.tmp 29) 32,ty,pos,after,g⟩ .eql 32 (some (cnA p)) (some (cnA q)) h = .ok (.value (.bool ((p.1 == q.1) && (p.2.1 == q.2.1) && (p.2.2 == q.2.2))),h) := by
  show pureOp Tryz.prog (evT G tm) _ h = _
  unfold pureOp
  rw [show (Op.binOp .eql 32 (.tmp 28) (.tmp 29) 32).operands.toList = [.tmp 28,.tmp 29] from rfl]
  simp only [List.all_cons,List.all_nil,evT_tmp,h1,h2]
  rw [if_pos (by rfl)]
  have he : evalPure Tryz.prog (execOp (fun x => (evT G tm x).getD (.tuple #[])) ⟨dst,.binOp .eql 32 (.tmp 28) (.tmp 29) 32,ty,pos,after,g⟩) = some (.value (.bool ((p.1 == q.1) && (p.2.1 == q.2.1) && (p.2.2 == q.2.2)))) := by
    show evalPure Tryz.prog ((do Go.eqGuard .eql 32 (.tmp 28) (.tmp 29) ((evT G tm (.tmp 28)).getD (.tuple #[])) ((evT G tm (.tmp 29)).getD (.tuple #[])); Go.binOp .eql 32 ((evT G tm (.tmp 28)).getD (.tuple #[])) ((evT G tm (.tmp 29)).getD (.tuple #[]))) >>= fun v => pure (Next.value v)) = _
    simp only [evT_tmp,h1,h2,Option.getD_some]
    rw [evalPure_bind (a := .bool ((p.1 == q.1) && (p.2.1 == q.2.1) && (p.2.2 == q.2.2)))]
    · rfl
    · rw [evalPure_bind (a := ()) (h := guard32)]
      show evalPure Tryz.prog (Op.equalIn (9998 + 2) 32 (.agg #[.int .i64 p.1,.int .i64 p.2.1,.int .i64 p.2.2]) (.agg #[.int .i64 q.1,.int .i64 q.2.1,.int .i64 q.2.2]) >>= fun b => pure (Value.bool b)) = _
      rw [evalPure_bind (a := ((p.1 == q.1) && (p.2.1 == q.2.1) && (p.2.2 == q.2.2))) (h := eq32 (d := 9998))]
      rfl
  rw [he]
  rfl
end Go.Proofs.YtaclddcneogolaaGreatDoor

set_option linter.unusedSimpArgs false
set_option linter.unusedVariables false
namespace Go.Proofs.YtaclddcneogolaaGreatDoor
open Go Go.Sim
set_option maxRecDepth 100000
variable {O : Nat → Option (List Value → SHeap → Except String (Value × SHeap))}

def fld (n : String) (o b : Nat) : Field := { name := n,type := 3,offset := o,embedded := false,tag := "",pkgPath := "",byteOffset := b }
theorem und24 : evalPure Tryz.prog (underlying 24) = some (.struct #[fld "Kind" 0 0,fld "Table" 1 8,fld "Mask" 2 16]) := by kernel_rfl
theorem und25 : evalPure Tryz.prog (underlying 25) = some (.array 10 24) := by kernel_rfl
theorem und26 : evalPure Tryz.prog (underlying 26) = some (.array 32 24) := by kernel_rfl
theorem held24 : Tryz.prog.stoodInHeld 24 = false := by kernel_rfl
theorem eq_same {d o : Nat} {X : Array Value} {u : Int} (h1 : evalPure Tryz.prog (part 3 X o) = some (.int .i64 u)) :
    evalPure Tryz.prog (do
      let p ← part 3 X o
      let q ← part 3 X o
      let r ← Op.equalIn (d + 1) 3 p q
      if (!r) = true then pure (ForInStep.done ((some false,()) : Option Bool × Unit)) else pure (ForInStep.yield ((none,()) : Option Bool × Unit))) = some (.yield (none,())) := by
  rw [evalPure_bind _ _ _ h1,evalPure_bind _ _ _ h1,evalPure_bind _ _ _ eqI,beq_self_eq_true]
  rfl
theorem eq24 {d : Nat} {a b c : Int} : evalPure Tryz.prog (Op.equalIn (d + 2) 24 (.agg #[.int .i64 a,.int .i64 b,.int .i64 c]) (.agg #[.int .i64 a,.int .i64 b,.int .i64 c])) = some true := by
  unfold Op.equalIn
  rw [evalPure_bind _ _ _ und24]
  simp only [fld]
  rw [evalPure_bind _ _ _ prog_eval,if_neg (by rw [held24]; decide)]
  simp only [List.forIn_toArray,List.forIn_cons,List.forIn_nil]
  rw [if_pos (by decide),if_pos (by decide),if_pos (by decide)]
  have s0 := eq_same (d := d) (part0 (a := a) (b := b) (c := c))
  have s1 := eq_same (d := d) (part1 (a := a) (b := b) (c := c))
  have s2 := eq_same (d := d) (part2 (a := a) (b := b) (c := c))
  rw [evalPure_bind (a := (none,()))]
  · rfl
  · rw [evalPure_bind _ _ _ s0]
    simp only
    rw [evalPure_bind _ _ _ s1]
    simp only
    rw [evalPure_bind _ _ _ s2]; rfl
theorem eq24t {d : Nat} {t : Tg} : evalPure Tryz.prog (Op.equalIn (d + 2) 24 (tgA t) (tgA t)) = some true := eq24
theorem agg24 : evalPure Tryz.prog (isAgg 24) = some true := by kernel_rfl
theorem size24 : evalPure Tryz.prog (sizeOf 24) = some 3 := by kernel_rfl
theorem part24 {l : List Tg} {i : Nat} {t : Tg} (h : l[i]? = some t) : evalPure Tryz.prog (part 24 (tgVs l).toArray (i * 3)) = some (tgA t) := by
  unfold part
  rw [evalPure_bind _ _ _ agg24]
  simp only [if_true]
  rw [evalPure_bind _ _ _ size24]
  have : (tgVs l).toArray.extract (i * 3) (i * 3 + 3) = #[.int .i64 t.1,.int .i64 t.2.1,.int .i64 t.2.2] := by
    apply Array.toList_inj.1
    rw [Array.toList_extract,List.extract_eq_take_drop]
    rw [show i * 3 + 3 - i * 3 = 3 by omega]
    exact tgVs_at l i t h
  show some (Value.agg ((tgVs l).toArray.extract (i * 3) (i * 3 + 3))) = _
  rw [this]
  rfl
theorem forIn_all {P : Program} {f : Nat → Option Bool × Unit → Sem (ForInStep (Option Bool × Unit))} : ∀ (l : List Nat),(∀ i ∈ l,evalPure P (f i (none,())) = some (.yield (none,()))) → evalPure P (forIn l ((none,()) : Option Bool × Unit) f) = some (none,())
  | [],_ => rfl
  | i :: r,h => by
    rw [List.forIn_cons,evalPure_bind _ _ _ (h i (List.mem_cons_self ..))]
    exact forIn_all r fun k hk => h k (List.mem_cons_of_mem _ hk)
theorem eqArr {d t n : Nat} {l : List Tg} (hu : evalPure Tryz.prog (underlying t) = some (.array n 24)) (hl : l.length = n) : evalPure Tryz.prog (Op.equalIn (d + 3) t (.agg (tgVs l).toArray) (.agg (tgVs l).toArray)) = some true := by
  unfold Op.equalIn
  rw [evalPure_bind _ _ _ hu]
  simp only
  rw [evalPure_bind _ _ _ size24]
  simp only [Std.Legacy.Range.forIn_eq_forIn_range']
  rw [evalPure_bind (a := (none,()))]
  · rfl
  · refine forIn_all _ fun i hi => ?_
    have hlt : i < n := by
      have := List.mem_range'.1 hi
      obtain ⟨k,hk,rfl⟩ := this
      simp [Std.Legacy.Range.size] at hk ⊢
      omega
    have ht : l[i]? = some (l[i]'(by omega)) := List.getElem?_eq_getElem (by omega)
    rw [evalPure_bind _ _ _ (part24 ht),evalPure_bind _ _ _ (part24 ht),evalPure_bind (a := true) (h := eq24t (d := d))]
    rfl

theorem plain_tags (l : List Tg) : plainV 12 (.agg (tgVs l).toArray) = true := by
  have : ∀ (l : List Tg) (v : Value),v ∈ tgVs l → ∃ z,v = .int .i64 z := by
    intro l
    induction l with
    | nil => intro v h; simp [tgVs] at h
    | cons t r ih =>
      intro v h
      simp only [tgVs,List.mem_cons] at h
      rcases h with rfl | rfl | rfl | h
      · exact ⟨_,rfl⟩
      · exact ⟨_,rfl⟩
      · exact ⟨_,rfl⟩
      · exact ih v h
  unfold plainV
  simp only [List.all_eq_true]
  intro v hv
  obtain ⟨z,rfl⟩ := this l v (by simpa using hv)
  rfl

theorem guard25 {x y : Operand} {a b : Array Value} : evalPure Tryz.prog (Go.eqGuard .eql 25 x y (.agg a) (.agg b)) = some () := by kernel_rfl
theorem eql25 {G : Nat} {tm : Tr Value} {l : List Tg} {dst : Option Tmp} {ty : TypeId} {pos : String} {after : Array Edge} {g : Option (Nat × Bool)} {h : SHeap} (hl : l.length = 10) (h1 : tm.get 12 = some (.agg (tgVs l).toArray)) (h2 : tm.get 14 = some (.agg (tgVs l).toArray)) :
    opBin (Eo O) (evT G tm) ⟨dst,.binOp .eql 25 (.tmp 12) (.tmp 14) 25,ty,pos,after,g⟩ .eql 25 (some (.agg (tgVs l).toArray)) (some (.agg (tgVs l).toArray)) h = .ok (.value (.bool true),h) := by
  show pureOp Tryz.prog (evT G tm) _ h = _
  unfold pureOp
  rw [show (Op.binOp .eql 25 (.tmp 12) (.tmp 14) 25).operands.toList = [.tmp 12,.tmp 14] from rfl]
  simp only [List.all_cons,List.all_nil,evT_tmp,h1,h2,plain_tags,Bool.and_self]
  rw [if_pos trivial]
  have he : evalPure Tryz.prog (execOp (fun x => (evT G tm x).getD (.tuple #[])) ⟨dst,.binOp .eql 25 (.tmp 12) (.tmp 14) 25,ty,pos,after,g⟩) = some (.value (.bool true)) := by
    show evalPure Tryz.prog ((do Go.eqGuard .eql 25 (.tmp 12) (.tmp 14) ((evT G tm (.tmp 12)).getD (.tuple #[])) ((evT G tm (.tmp 14)).getD (.tuple #[])); Go.binOp .eql 25 ((evT G tm (.tmp 12)).getD (.tuple #[])) ((evT G tm (.tmp 14)).getD (.tuple #[]))) >>= fun v => pure (Next.value v)) = _
    simp only [evT_tmp,h1,h2,Option.getD_some]
    rw [evalPure_bind (a := .bool true)]
    · rfl
    · rw [evalPure_bind (a := ()) (h := guard25)]
      show evalPure Tryz.prog (Op.equalIn (9997 + 3) 25 (.agg (tgVs l).toArray) (.agg (tgVs l).toArray) >>= fun b => pure (Value.bool b)) = _
      rw [evalPure_bind (a := true) (h := eqArr (d := 9997) und25 hl)]
      rfl
  rw [he]
  rfl

theorem guard26 {x y : Operand} {a b : Array Value} : evalPure Tryz.prog (Go.eqGuard .eql 26 x y (.agg a) (.agg b)) = some () := by kernel_rfl
theorem eql26 {G : Nat} {tm : Tr Value} {l : List Tg} {dst : Option Tmp} {ty : TypeId} {pos : String} {after : Array Edge} {g : Option (Nat × Bool)} {h : SHeap} (hl : l.length = 32) (h1 : tm.get 19 = some (.agg (tgVs l).toArray)) (h2 : tm.get 21 = some (.agg (tgVs l).toArray)) :
    opBin (Eo O) (evT G tm) ⟨dst,.binOp .eql 26 (.tmp 19) (.tmp 21) 26,ty,pos,after,g⟩ .eql 26 (some (.agg (tgVs l).toArray)) (some (.agg (tgVs l).toArray)) h = .ok (.value (.bool true),h) := by
  show pureOp Tryz.prog (evT G tm) _ h = _
  unfold pureOp
  rw [show (Op.binOp .eql 26 (.tmp 19) (.tmp 21) 26).operands.toList = [.tmp 19,.tmp 21] from rfl]
  simp only [List.all_cons,List.all_nil,evT_tmp,h1,h2,plain_tags,Bool.and_self]
  rw [if_pos trivial]
  have he : evalPure Tryz.prog (execOp (fun x => (evT G tm x).getD (.tuple #[])) ⟨dst,.binOp .eql 26 (.tmp 19) (.tmp 21) 26,ty,pos,after,g⟩) = some (.value (.bool true)) := by
    show evalPure Tryz.prog ((do Go.eqGuard .eql 26 (.tmp 19) (.tmp 21) ((evT G tm (.tmp 19)).getD (.tuple #[])) ((evT G tm (.tmp 21)).getD (.tuple #[])); Go.binOp .eql 26 ((evT G tm (.tmp 19)).getD (.tuple #[])) ((evT G tm (.tmp 21)).getD (.tuple #[]))) >>= fun v => pure (Next.value v)) = _
    simp only [evT_tmp,h1,h2,Option.getD_some]
    rw [evalPure_bind (a := .bool true)]
    · rfl
    · rw [evalPure_bind (a := ()) (h := guard26)]
      show evalPure Tryz.prog (Op.equalIn (9997 + 3) 26 (.agg (tgVs l).toArray) (.agg (tgVs l).toArray) >>= fun b => pure (Value.bool b)) = _
      rw [evalPure_bind (a := true) (h := eqArr (d := 9997) und26 hl)]
      rfl
  rw [he]
  rfl

theorem guardn {x y : Operand} {p q : Tg} : evalPure Tryz.prog (Go.eqGuard .neq 32 x y (cnA p) (cnA q)) = some () := by kernel_rfl
theorem neqc {G : Nat} {tm : Tr Value} {p : Tg} {dst : Option Tmp} {ty : TypeId} {pos : String} {after : Array Edge} {g : Option (Nat × Bool)} {h : SHeap} (h1 : tm.get 20 = some (cnA p)) (h2 : tm.get 24 = some (cnA p)) :
    opBin (Eo O) (evT G tm) ⟨dst,.binOp .neq 32 (.tmp 20) (.tmp 24) 32,ty,pos,after,g⟩ .neq 32 (some (cnA p)) (some (cnA p)) h = .ok (.value (.bool false),h) := by
  show pureOp Tryz.prog (evT G tm) _ h = _
  unfold pureOp
  rw [show (Op.binOp .neq 32 (.tmp 20) (.tmp 24) 32).operands.toList = [.tmp 20,.tmp 24] from rfl]
  simp only [List.all_cons,List.all_nil,evT_tmp,h1,h2]
  rw [if_pos (by rfl)]
  have he : evalPure Tryz.prog (execOp (fun x => (evT G tm x).getD (.tuple #[])) ⟨dst,.binOp .neq 32 (.tmp 20) (.tmp 24) 32,ty,pos,after,g⟩) = some (.value (.bool false)) := by
    show evalPure Tryz.prog ((do Go.eqGuard .neq 32 (.tmp 20) (.tmp 24) ((evT G tm (.tmp 20)).getD (.tuple #[])) ((evT G tm (.tmp 24)).getD (.tuple #[])); Go.binOp .neq 32 ((evT G tm (.tmp 20)).getD (.tuple #[])) ((evT G tm (.tmp 24)).getD (.tuple #[]))) >>= fun v => pure (Next.value v)) = _
    simp only [evT_tmp,h1,h2,Option.getD_some]
    rw [evalPure_bind (a := .bool false)]
    · rfl
    · rw [evalPure_bind (a := ()) (h := guardn)]
      have e := eq32 (d := 9998) (a := p.1) (b := p.2.1) (c := p.2.2) (x := p.1) (y := p.2.1) (z := p.2.2)
      simp only [beq_self_eq_true,Bool.and_self] at e
      show evalPure Tryz.prog (Op.equalIn (9998 + 2) 32 (.agg #[.int .i64 p.1,.int .i64 p.2.1,.int .i64 p.2.2]) (.agg #[.int .i64 p.1,.int .i64 p.2.1,.int .i64 p.2.2]) >>= fun b => pure (Value.bool (!b))) = _
      rw [evalPure_bind (a := true) (h := e)]
      rfl
  rw [he]
  rfl
end Go.Proofs.YtaclddcneogolaaGreatDoor

set_option linter.unusedSimpArgs false
set_option linter.unusedVariables false
namespace Go.Proofs.YtaclddcneogolaaGreatDoor
open Go Go.Sim
set_option maxRecDepth 100000
set_option maxHeartbeats 1000000
variable {O : Nat → Option (List Value → SHeap → Except String (Value × SHeap))} {ih : K}

theorem valEq_cn {c : Tg} : valEq 200 (cnA c) (cnA c) = true := valEq_tg
theorem valEq_row {a : Option Addr} {n c : Nat} : valEq 200 (.slice a n c) (.slice a n c) = true := by cases a <;> simp [valEq]
theorem neq_str {ev : Ev} {o : Oper} {t : TypeId} {x y : List UInt8} {h : SHeap} : opBin (Eo O) ev o .neq t (some (.string ⟨x.toArray⟩)) (some (.string ⟨y.toArray⟩)) h = .ok (.value (.bool (!(x == y))),h) := (id rfl)
theorem E32z : (Eo O).T 32 = some ⟨Tab.t32.desc,3,24,some (.agg #[.int .i64 0,.int .i64 0,.int .i64 0])⟩ := E32

/-- a row of constraints of its own,or none yet -/
def OpenRow (h : SHeap) (lo : Nat) (v : Value) (l : List Tg) : Prop :=
  (l = [] ∧ v = .slice none 0 0) ∨ ∃ r ct,v = .slice (some ⟨r,0,none⟩) l.length openCap ∧ lo ≤ r ∧ r < h.next ∧ h.t.get r = some (.cells ct (l.length * 3) 32 true false) ∧ ∀ (i : Nat) (x : Value),(tgVs l)[i]? = some x → ct.get i = some x
/-- what can be copied: all at once -/
def Whole3 (h : SHeap) (cv : Value) (l : List Tg) : Prop :=
  (l = [] ∧ ∃ c,cv = .slice none 0 c) ∨ ∃ S o cap ct n,0 < l.length ∧ S < h.next ∧ cv = .slice (some ⟨S,o,none⟩) l.length cap ∧ h.t.get S = some (.far ct n o) ∧ ct.toListFrom 0 (l.length * 3) = some (tgVs l)

theorem ap_copy {cal : Callee} {a : Array Operand} {h : SHeap} {cv : Value} {l : List Tg} (hw : Whole3 h cv l) (hl : l.length ≤ 300000) (hn : h.next < lim) :
    ∃ v h',appendS (Eo O) ⟨cal,a,#[27,27]⟩ [.slice none 0 0,cv] h = .ok (v,h') ∧ OpenRow h' h.next v l ∧ h.next ≤ h'.next ∧ h'.next ≤ h.next + 1 ∧ ∀ x,x < h.next → h'.t.get x = h.t.get x := by
  have hlim : lim = 4294967296 := rfl
  rcases hw with ⟨rfl,c,rfl⟩ | ⟨S,o,cap,ct,n,hpos,_,rfl,hg,hct⟩
  · refine ⟨.slice none 0 0,h,?_,.inl ⟨rfl,rfl⟩,Nat.le_refl _,by omega,fun _ _ => rfl⟩
    unfold appendS
    simp only [show (#[27,27] : Array TypeId).toList = [27,27] from rfl,plain27,cond_true,E27,E32,lenV,firstC]
    rfl
  · refine ⟨.slice (some ⟨h.next,0,none⟩) l.length openCap,newCells h 32 (tgVs l) true,?_,.inr ⟨h.next,Tr.ofL 33 (tgVs l),rfl,Nat.le_refl _,by show h.next < h.next + 1; omega,?_,fun i x hx => ?_⟩,by show h.next ≤ h.next + 1; omega,Nat.le_refl _,fun x hx => new_low (by omega)⟩
    · unfold appendS
      have h1 : Nat.ble o o = true := Nat.ble_self_eq_true o
      simp only [show (#[27,27] : Array TypeId).toList = [27,27] from rfl,plain27,cond_true,E27,E32,lenV,firstC,hg,h1,Nat.sub_self,hct,need]
      unfold appendTo
      have h2 : Nat.beq (tgVs l).length (l.length * 3) = true := by rw [tgVs_len]; exact Nat.beq_refl _
      have h3 : Nat.ble ((0 + l.length) * (24 + 1)) 70368744177664 = true := by rw [Nat.ble_eq]; omega
      have h4 : Nat.ble (0 + l.length) 0 = false := by
        cases hx : Nat.ble (0 + l.length) 0 with
        | false => rfl
        | true => have := Nat.le_of_ble_eq_true hx; omega
      rw [h2,h3,Bool.and_self,cond_true,show Nat.beq 0 openCap = false from rfl,cond_false,show Nat.blt 0 openCap = true from rfl,cond_true,h4,cond_false]
      show Except.ok (Value.slice (some ⟨h.next,0,none⟩) (0 + l.length) openCap,newCells h 32 ([] ++ tgVs l) true) = _
      rw [Nat.zero_add,List.nil_append]
    · have := box_get (t := 32) (l := tgVs l) (o := true) hn
      rw [tgVs_len] at this
      exact this
    · have hi : i < (tgVs l).length := (List.getElem?_eq_some_iff.1 hx).1
      rw [tgVs_len] at hi
      rw [ofL_get_eq (by omega)]
      exact hx
theorem sixOf {x y : Tg} {b : Nat} {h : SHeap} (hb : h.t.get b = some (.cells (Tr.ofL 33 (tgVs [x,y])) 6 32 false false)) : firstC (Eo O) h 3 2 (.slice (some ⟨b,0,none⟩) 2 2) = .ok (tgVs [x,y]) := by
  simp only [firstC,hb]
  rfl
theorem ap_two {cal : Callee} {a : Array Operand} {h : SHeap} {lo b : Nat} {v : Value} {l : List Tg} {x y : Tg} (k : OpenRow h lo v l) (hb : h.t.get b = some (.cells (Tr.ofL 33 (tgVs [x,y])) 6 32 false false)) (hl : l.length ≤ 300000) (hn : h.next < lim) (hlo : lo ≤ h.next) :
    ∃ h' ct,appendS (Eo O) ⟨cal,a,#[27,27]⟩ [v,.slice (some ⟨b,0,none⟩) 2 2] h = .ok (.slice (some ⟨h.next,0,none⟩) (l.length + 2) openCap,h') ∧ h'.t.get h.next = some (.cells ct ((l.length + 2) * 3) 32 true false) ∧ (∀ (i : Nat) (z : Value),(tgVs (l ++ [x,y]))[i]? = some z → ct.get i = some z) ∧ h'.next = h.next + 1 ∧ ∀ z,z < lo → h'.t.get z = h.t.get z := by
  have hlim : lim = 4294967296 := rfl
  have l6 : (tgVs [x,y]).length = 6 := rfl
  have tapp : tgVs (l ++ [x,y]) = tgVs l ++ tgVs [x,y] := by
    clear k hl
    induction l with
    | nil => rfl
    | cons t r ih => simp only [List.cons_append,tgVs,ih]
  rcases k with ⟨rfl,rfl⟩ | ⟨r,ct,rfl,k2,k3,k4,k5⟩
  · refine ⟨newCells h 32 (tgVs [x,y]) true,Tr.ofL 33 (tgVs [x,y]),?_,box_get (t := 32) (l := tgVs [x,y]) (o := true) hn,fun i z hz => ?_,rfl,fun z hz => new_low (by omega)⟩
    · unfold appendS
      simp only [show (#[27,27] : Array TypeId).toList = [27,27] from rfl,plain27,cond_true,E27,E32,lenV,sixOf hb]
      rfl
    · have hi : i < 6 := (List.getElem?_eq_some_iff.1 hz).1
      rw [ofL_get_eq (by omega)]
      exact hz
  · have hsc : allScalar (tgVs [x,y]) = true := rfl
    obtain ⟨c',s1,s2⟩ := storeList_some (vs := tgVs [x,y]) (c := ct) (n := l.length * 3 + (tgVs [x,y]).length) (i := l.length * 3) hsc (Nat.le_refl _) (by rw [l6]; omega)
    refine ⟨(h.set r none).new (.cells c' (l.length * 3 + (tgVs [x,y]).length) 32 true false),c',?_,?_,fun i z hz => ?_,rfl,fun z hz => ?_⟩
    · unfold appendS
      simp only [show (#[27,27] : Array TypeId).toList = [27,27] from rfl,plain27,cond_true,E27,E32,lenV,sixOf hb]
      unfold appendTo
      have h2 : Nat.beq (tgVs [x,y]).length (2 * 3) = true := rfl
      have h3 : Nat.ble ((l.length + 2) * (24 + 1)) 70368744177664 = true := by rw [Nat.ble_eq]; omega
      rw [h2,h3,Bool.and_self,cond_true,show Nat.beq openCap openCap = true from rfl,cond_true]
      unfold appendOpen
      simp only [k4]
      have h4 : Nat.beq (l.length * 3) (l.length * 3) = true := Nat.beq_refl _
      rw [h4,show (Nat.beq 0 0 && Nat.beq 32 32 && true) = true from rfl,cond_true,s1]
    · simp only [SHeap.new,SHeap.set,get_put]
      rw [if_pos ⟨trivial,hn⟩,l6,show (l.length + 2) * 3 = l.length * 3 + 6 by omega]
    · rw [s2]
      rw [tapp] at hz
      by_cases e : i < l.length * 3
      · rw [if_neg (by omega)]
        rw [List.getElem?_append_left (by rw [tgVs_len]; exact e)] at hz
        exact k5 i z hz
      · rw [List.getElem?_append_right (by rw [tgVs_len]; omega),tgVs_len] at hz
        have hi := (List.getElem?_eq_some_iff.1 hz).1
        rw [if_pos ⟨by omega,by omega⟩]
        exact hz
    · simp only [SHeap.new,SHeap.set,get_put]
      rw [if_neg (by omega),if_neg (by omega)]

/-! ## CopyCons -/
theorem body8 : Tryz.f8.body = some (cF Tryz.f8) := rfl
theorem fn8 : (Eo O).F 8 = some Tryz.f8 := by show Tab.funcs.get 8 = _; kernel_rfl
theorem nt8 {a : Value} : max Tryz.f8.ntmps (#[a] : Array Value).size = 5 := rfl
theorem res8 : Tryz.f8.results.toList = [.tmp 2] := rfl
theorem en8 : EntersS (Eo O) 8 := fun _ _ => by kernel_rfl
theorem copy_run {k : Nat} (o8 : O 8 = none) {h : SHeap} {cv : Value} {l : List Tg} (hw : Whole3 h cv l) (hl : l.length ≤ 300000) (hn : h.next < lim) :
    ∃ v h',run (Eo O) (k + 1) (.call 8 #[cv] .normal) h = .ok (v,h') ∧ OpenRow h' h.next v l ∧ h.next ≤ h'.next ∧ h'.next ≤ h.next + 1 ∧ ∀ x,x < h.next → h'.t.get x = h.t.get x := by
  obtain ⟨v,h',a1,a2⟩ := ap_copy (O := O) (cal := .builtin .append) (a := #[.const (.slice none 0 0),.tmp 3]) hw hl hn
  suffices hc : ∃ tm',codeS (cF Tryz.f8) (Eo O) (run (Eo O) k) ⟨8,5,.normal,none⟩ ⟨Tr.ofL 33 [cv],h,[]⟩ = .ok (.ret,⟨tm',h',[]⟩) ∧ tm'.get 2 = some v by
    obtain ⟨tm',k1,k2⟩ := hc
    exact ⟨v,h',(run_call (show (Eo O).O 8 = none from o8)).trans (enterS_ret (vs := [_]) fn8 body8 nt8 rfl res8 k1 (by simp only [resultsS,k2,need])),a2⟩
  generalize hr : codeS (cF Tryz.f8) (Eo O) (run (Eo O) k) ⟨8,5,.normal,none⟩ ⟨Tr.ofL 33 [cv],h,[]⟩ = res
  have t0 : (Tr.ofL 33 [cv]).get 0 = some cv := rfl
  generalize Tr.ofL 33 [cv] = tm at hr t0
  simp only [Tryz.f8,cF,Option.getD,cA,cB,cI,codeS,cSeq_run,cCond_run,cRegion_run,cRegion_draw,cBlock_run,cSkip_run,cRet_run,cExit_run,opsS_nil,opsS_run,opS_free,thenS_normal,thenS_ret,thenS_exit,exitBlock_normal,exitBlock_ret,exitBlock_exit,normalS_ok,dispatch,dMove,opMove,evT_tmp,evT_int,evT_bool,evT_str,dBin,dUn,dAlloc,lss_i64,geq_i64,eql_i64,neq_i64,add_i64,valR,afterS_value,putT_some,putT_none,get_put,lim,Nat.reduceLT,Nat.reduceEqDiff,and_true,if_true,if_false,reduceIte,false_and,true_and,Nat.beq,cond_true,cond_false,cLoop_run,
      dIndexAddr,dFieldAddr,dLoad,dStore,dBox,Option.bind_some,natOf_int,addrAdd_free,drawS_nil',drawS_cons',dstep_pg,dstep_rg,dstep_eg,dstep_bg,wantedS_none,wantedS_some,callOut_value,valEq_tg,readAgain_nil,readAgain_cons,valEq_int,callOut_enter,simOp_run,outVal_val,List.getElem?_toArray,List.getElem?_cons_succ,List.getElem?_cons_zero,List.drop_succ_cons,List.drop_zero,dPick,pick_true,pick_false,opS_guard,dIndex,dBuild,dBuildSlice,dCall,evParts,evList,bqa,bqb,bqc,bqd,Bool.and_self,Bool.not_true,Bool.not_false,not_b,afterS_enter,call_fn en36,call_fn en37,call_fn en38,call_fn en67,call_fn en56,sub_i64,build24,allocOf_bs,ab62,mkAV_one,opCall_app,opBuiltin,opCall_len,bi_len27,len27c,pick_true,pick_false,valEq_cn,evT_nilslice,a1,t0] at hr
  subst hr
  exact ⟨_,rfl,by simp [get_put,lim]⟩

/-! ## SameCons -/
noncomputable def scX : Code := cI (cI (cB (cA (cB (cB (cF Tryz.f20))))))
theorem pl20 : planOf (Eo O) (nthD (drawsOf (cF Tryz.f20)) 0).toList = some ⟨[⟨0,.pure,0⟩,⟨1,.pure,0⟩,⟨2,.pure,0⟩,⟨3,.read,0⟩,⟨4,.pure,0⟩,⟨5,.pure,0⟩,⟨6,.pure,0⟩,⟨7,.read,0⟩],8,0⟩ := by kernel_rfl
structure ScI (h : SHeap) (a b : Value) (j : Nat) (st : St) : Prop where
  ds : st.defers = []
  hp : st.h = h
  t0 : st.tm.get 0 = some a
  t1 : st.tm.get 1 = some b
  tv : st.tm.get 5 = some (.int .i64 (.ofNat j))
theorem scX_in {h : SHeap} {a b : Value} {l : List Tg} {S o cap S' o' cap' : Nat} {x x' : SObj} (ha : a = .slice (some ⟨S,o,none⟩) l.length cap) (hS : h.t.get S = some x) (hx : ∀ j c,l[j]? = some c → rowHas x (o + j * 3) [.int .i64 c.1,.int .i64 c.2.1,.int .i64 c.2.2])
    (hb : b = .slice (some ⟨S',o',none⟩) l.length cap') (hS' : h.t.get S' = some x') (hx' : ∀ j c,l[j]? = some c → rowHas x' (o' + j * 3) [.int .i64 c.1,.int .i64 c.2.1,.int .i64 c.2.2]) (hl : l.length ≤ 300000) (hn : h.next ≤ lim)
    (j : Nat) (hj : j < l.length) (st : St) (hI : ScI h a b j st) :
    ∃ st',codeS scX (Eo O) ih ⟨20,26,.normal,none⟩ st = .ok (.normal,st') ∧ ScI h a b (j + 1) st' := by
  obtain ⟨tm,g,dd⟩ := st
  obtain ⟨hd,hp,t0,t1,tv⟩ := hI
  simp only at hd hp t0 t1 tv
  subst hd hp
  obtain ⟨c,hc⟩ : ∃ c,l[j]? = some c := ⟨l[j],List.getElem?_eq_getElem hj⟩
  have hj' : decide (Int.ofNat j < Int.ofNat l.length) = true := decide_eq_true (by show (j : Int) < (l.length : Int); omega)
  have hj2 : wrapF .i64 (Int.ofNat j + 1) = Int.ofNat (j + 1) := Go.Sim.wrap_small (m := j + 1) (by omega)
  have l1 : opLoad (Eo O) 32 (some (.pointer (some ⟨S,o + j * 3,none⟩))) g = .ok (.value (cnA c),g) := load_row T32l hS (hx j c hc)
  have l2 : opLoad (Eo O) 32 (some (.pointer (some ⟨S',o' + j * 3,none⟩))) g = .ok (.value (cnA c),g) := load_row T32l hS' (hx' j c hc)
  have ia := fun (h : SHeap) => ia27 (O := O) (S := S) (o := o) (cap := cap) (h := h) hj
  have ia' := fun (h : SHeap) => ia27 (O := O) (S := S') (o := o') (cap := cap') (h := h) hj
  have nq := fun (G : Nat) (tm : Tr Value) (dst : Option Tmp) (ty : TypeId) (pos : String) (after : Array Edge) (g : Option (Nat × Bool)) (h : SHeap) (a) (b) => neqc (O := O) (G := G) (tm := tm) (p := c) (dst := dst) (ty := ty) (pos := pos) (after := after) (g := g) (h := h) a b
  subst ha hb
  have hp := pl20 (O := O)
  simp only [Tryz.f20,cF,Option.getD,drawsOf,nthD,List.append_nil,List.nil_append,List.cons_append,List.singleton_append] at hp
  generalize hr : codeS scX (Eo O) ih ⟨20,26,.normal,none⟩ ⟨tm,g,[]⟩ = res
  unfold scX at hr
  simp only [Tryz.f20,cF,Option.getD,cA,cB,cI,codeS,cSeq_run,cCond_run,cRegion_run,cRegion_draw,cBlock_run,cSkip_run,cRet_run,cExit_run,opsS_nil,opsS_run,opS_free,thenS_normal,thenS_ret,thenS_exit,exitBlock_normal,exitBlock_ret,exitBlock_exit,normalS_ok,dispatch,dMove,opMove,evT_tmp,evT_int,evT_bool,evT_str,dBin,dUn,dAlloc,lss_i64,geq_i64,eql_i64,neq_i64,add_i64,valR,afterS_value,putT_some,putT_none,get_put,lim,Nat.reduceLT,Nat.reduceEqDiff,and_true,if_true,if_false,reduceIte,false_and,true_and,Nat.beq,cond_true,cond_false,cLoop_run,
      dIndexAddr,dFieldAddr,dLoad,dStore,dBox,Option.bind_some,natOf_int,addrAdd_free,drawS_nil',drawS_cons',dstep_pg,dstep_rg,dstep_eg,dstep_bg,wantedS_none,wantedS_some,callOut_value,valEq_tg,readAgain_nil,readAgain_cons,valEq_int,callOut_enter,simOp_run,outVal_val,List.getElem?_toArray,List.getElem?_cons_succ,List.getElem?_cons_zero,List.drop_succ_cons,List.drop_zero,dPick,pick_true,pick_false,opS_guard,dIndex,dBuild,dBuildSlice,dCall,evParts,evList,bqa,bqb,bqc,bqd,Bool.and_self,Bool.not_true,Bool.not_false,not_b,afterS_enter,call_fn en36,call_fn en37,call_fn en38,call_fn en67,call_fn en56,sub_i64,build24,allocOf_bs,ab62,mkAV_one,opCall_app,opBuiltin,opCall_len,bi_len27,len27c,pick_true,pick_false,valEq_cn,bDraw_list hp hn,l1,l2,ia,ia',nq,t0,t1,tv,hj',hj2] at hr
  subst hr
  refine ⟨_,rfl,rfl,rfl,?_,?_,?_⟩
  · simp [get_put,lim,t0]
  · simp [get_put,lim,t1]
  · simp [get_put,lim]
theorem scX_end {h : SHeap} {a b : Value} {n cap : Nat} {ad : Option Addr} (ha : a = .slice ad n cap) (st : St) (hI : ScI h a b n st) :
    ∃ st',codeS scX (Eo O) ih ⟨20,26,.normal,none⟩ st = .ok (.exit 0,st') ∧ ScI h a b n st' := by
  obtain ⟨tm,g,dd⟩ := st
  obtain ⟨hd,hp,t0,t1,tv⟩ := hI
  simp only at hd hp t0 t1 tv
  subst hd hp
  have hj' : decide (Int.ofNat n < Int.ofNat n) = false := by simp
  subst ha
  generalize hr : codeS scX (Eo O) ih ⟨20,26,.normal,none⟩ ⟨tm,g,[]⟩ = res
  unfold scX at hr
  simp only [Tryz.f20,cF,Option.getD,cA,cB,cI,codeS,cSeq_run,cCond_run,cRegion_run,cRegion_draw,cBlock_run,cSkip_run,cRet_run,cExit_run,opsS_nil,opsS_run,opS_free,thenS_normal,thenS_ret,thenS_exit,exitBlock_normal,exitBlock_ret,exitBlock_exit,normalS_ok,dispatch,dMove,opMove,evT_tmp,evT_int,evT_bool,evT_str,dBin,dUn,dAlloc,lss_i64,geq_i64,eql_i64,neq_i64,add_i64,valR,afterS_value,putT_some,putT_none,get_put,lim,Nat.reduceLT,Nat.reduceEqDiff,and_true,if_true,if_false,reduceIte,false_and,true_and,Nat.beq,cond_true,cond_false,cLoop_run,
      dIndexAddr,dFieldAddr,dLoad,dStore,dBox,Option.bind_some,natOf_int,addrAdd_free,drawS_nil',drawS_cons',dstep_pg,dstep_rg,dstep_eg,dstep_bg,wantedS_none,wantedS_some,callOut_value,valEq_tg,readAgain_nil,readAgain_cons,valEq_int,callOut_enter,simOp_run,outVal_val,List.getElem?_toArray,List.getElem?_cons_succ,List.getElem?_cons_zero,List.drop_succ_cons,List.drop_zero,dPick,pick_true,pick_false,opS_guard,dIndex,dBuild,dBuildSlice,dCall,evParts,evList,bqa,bqb,bqc,bqd,Bool.and_self,Bool.not_true,Bool.not_false,not_b,afterS_enter,call_fn en36,call_fn en37,call_fn en38,call_fn en67,call_fn en56,sub_i64,build24,allocOf_bs,ab62,mkAV_one,opCall_app,opBuiltin,opCall_len,bi_len27,len27c,pick_true,pick_false,valEq_cn,t0,t1,tv,hj'] at hr
  subst hr
  refine ⟨_,rfl,rfl,rfl,?_,?_,?_⟩
  · simp [get_put,lim,t0]
  · simp [get_put,lim,t1]
  · simp [get_put,lim,tv]
theorem body20 : Tryz.f20.body = some (cF Tryz.f20) := rfl
theorem fn20 : (Eo O).F 20 = some Tryz.f20 := by show Tab.funcs.get 20 = _; kernel_rfl
theorem nt20 {a b : Value} : max Tryz.f20.ntmps (#[a,b] : Array Value).size = 26 := rfl
theorem res20 : Tryz.f20.results.toList = [.tmp 4] := rfl
theorem en20 : EntersS (Eo O) 20 := fun _ _ => by kernel_rfl
theorem samecons_run {k : Nat} (o20 : O 20 = none) {h : SHeap} {a b : Value} {l : List Tg} (ca : ConsIn h a l) (cb : ConsIn h b l) (hl : l.length ≤ 300000) (hn : h.next ≤ lim) :
    run (Eo O) (k + 1) (.call 20 #[a,b] .normal) h = .ok (.bool true,h) := by
  obtain ⟨aa,ac,ha⟩ : ∃ d c,a = .slice d l.length c := by
    rcases ca with ⟨d,c,h1,h2⟩ | ⟨S,o,cap,x,h1,_⟩
    · exact ⟨d,c,by rw [h1,h2]; rfl⟩
    · exact ⟨_,cap,h1⟩
  obtain ⟨ba,bc,hb⟩ : ∃ d c,b = .slice d l.length c := by
    rcases cb with ⟨d,c,h1,h2⟩ | ⟨S,o,cap,x,h1,_⟩
    · exact ⟨d,c,by rw [h1,h2]; rfl⟩
    · exact ⟨_,cap,h1⟩
  suffices hc : ∃ tm',codeS (cF Tryz.f20) (Eo O) (run (Eo O) k) ⟨20,26,.normal,none⟩ ⟨Tr.ofL 33 [a,b],h,[]⟩ = .ok (.ret,⟨tm',h,[]⟩) ∧ tm'.get 4 = some (.bool true) by
    obtain ⟨tm',k1,k2⟩ := hc
    exact (run_call (show (Eo O).O 20 = none from o20)).trans (enterS_ret (vs := [_]) fn20 body20 nt20 rfl res20 k1 (by simp only [resultsS,k2,need]))
  generalize hr : codeS (cF Tryz.f20) (Eo O) (run (Eo O) k) ⟨20,26,.normal,none⟩ ⟨Tr.ofL 33 [a,b],h,[]⟩ = res
  have t0 : (Tr.ofL 33 [a,b]).get 0 = some a := rfl
  have t1 : (Tr.ofL 33 [a,b]).get 1 = some b := rfl
  generalize Tr.ofL 33 [a,b] = tm at hr t0 t1
  have ne : (Int.ofNat l.length != Int.ofNat l.length) = false := by simp
  obtain ⟨tmx,hx⟩ : ∃ tmx,tmx = ((((((((tm.put 4 (some (.bool false))).put 6 (some a)).put 7 (some (.int .i64 (.ofNat l.length)))).put 8 (some b)).put 9 (some (.int .i64 (.ofNat l.length)))).put 10 (some (.bool false)))).put 5 (some (.int .i64 0))) := ⟨_,rfl⟩
  have hx0 : ScI h a b 0 ⟨tmx,h,[]⟩ := by
    subst hx
    refine ⟨rfl,rfl,?_,?_,?_⟩
    · simp [get_put,lim,t0]
    · simp [get_put,lim,t1]
    · simp [get_put,lim]
  obtain ⟨⟨tm1,h1,dd1⟩,ex,ix⟩ := loopS_inv (f := codeS scX (Eo O) (run (Eo O) k) ⟨20,26,.normal,none⟩) (I := fun j => ScI h a b j) (N := l.length) (id := 0) (Q := ScI h a b l.length)
    (fun j st hj hI => by
      rcases ca with ⟨d,c,h1,h2⟩ | ⟨S,o,cap,x,p1,p2,p3,p4⟩
      · rw [h2] at hj; simp at hj
      rcases cb with ⟨d,c,h1,h2⟩ | ⟨S',o',cap',x',q1,q2,q3,q4⟩
      · rw [h2] at hj; simp at hj
      exact scX_in p1 p3 p4 q1 q3 q4 hl hn j hj st hI) (fun st hI => scX_end ha st hI) l.length 1000000 0 _ (by omega) (by omega) hx0
  obtain ⟨hd,hh,u0,u1,_⟩ := ix
  simp only at hd hh u0 u1
  subst hd hh
  subst hx ha hb
  unfold scX at ex
  simp only [Tryz.f20,cF,Option.getD,cA,cB,cI,codeS] at ex
  simp only [Tryz.f20,cF,Option.getD,cA,cB,cI,codeS,cSeq_run,cCond_run,cRegion_run,cRegion_draw,cBlock_run,cSkip_run,cRet_run,cExit_run,opsS_nil,opsS_run,opS_free,thenS_normal,thenS_ret,thenS_exit,exitBlock_normal,exitBlock_ret,exitBlock_exit,normalS_ok,dispatch,dMove,opMove,evT_tmp,evT_int,evT_bool,evT_str,dBin,dUn,dAlloc,lss_i64,geq_i64,eql_i64,neq_i64,add_i64,valR,afterS_value,putT_some,putT_none,get_put,lim,Nat.reduceLT,Nat.reduceEqDiff,and_true,if_true,if_false,reduceIte,false_and,true_and,Nat.beq,cond_true,cond_false,cLoop_run,
      dIndexAddr,dFieldAddr,dLoad,dStore,dBox,Option.bind_some,natOf_int,addrAdd_free,drawS_nil',drawS_cons',dstep_pg,dstep_rg,dstep_eg,dstep_bg,wantedS_none,wantedS_some,callOut_value,valEq_tg,readAgain_nil,readAgain_cons,valEq_int,callOut_enter,simOp_run,outVal_val,List.getElem?_toArray,List.getElem?_cons_succ,List.getElem?_cons_zero,List.drop_succ_cons,List.drop_zero,dPick,pick_true,pick_false,opS_guard,dIndex,dBuild,dBuildSlice,dCall,evParts,evList,bqa,bqb,bqc,bqd,Bool.and_self,Bool.not_true,Bool.not_false,not_b,afterS_enter,call_fn en36,call_fn en37,call_fn en38,call_fn en67,call_fn en56,sub_i64,build24,allocOf_bs,ab62,mkAV_one,opCall_app,opBuiltin,opCall_len,bi_len27,len27c,pick_true,pick_false,valEq_cn,ex,ne,t0,t1] at hr
  subst hr
  exact ⟨_,rfl,by simp [get_put,lim]⟩

/-! ## SameClaim -/
theorem body11 : Tryz.f11.body = some (cF Tryz.f11) := rfl
theorem fn11 : (Eo O).F 11 = some Tryz.f11 := by show Tab.funcs.get 11 = _; kernel_rfl
theorem nt11 {a b : Value} : max Tryz.f11.ntmps (#[a,b] : Array Value).size = 31 := rfl
theorem res11 : Tryz.f11.results.toList = [.tmp 4] := rfl
theorem en11 : EntersS (Eo O) 11 := fun _ _ => by kernel_rfl
theorem eql_bool2 {ev : Ev} {o : Oper} {x y : Bool} {h : SHeap} : opBin (Eo O) ev o .eql 4 (some (.bool x)) (some (.bool y)) h = .ok (.value (.bool (x == y)),h) := eql_bool
theorem sameclaim_run {k : Nat} (o20 : O 20 = none) (o11 : O 11 = none) {h : SHeap} {d : Bool} {rs ss l : List Tg} {a b : Value} (hrs : rs.length = 10) (hss : ss.length = 32) (ca : ConsIn h a l) (cb : ConsIn h b l) (hl : l.length ≤ 300000) (hn : h.next + 100 ≤ lim) :
    ∃ h',run (Eo O) (k + 2) (.call 11 #[.agg (clV d rs ss a).toArray,.agg (clV d rs ss b).toArray] .normal) h = .ok (.bool true,h') ∧ h'.next = h.next + 2 ∧ ∀ x,x < h.next → h'.t.get x = h.t.get x := by
  obtain ⟨hA,eA⟩ : ∃ hA,hA = newCells h 29 (clV d rs ss a) false := ⟨_,rfl⟩
  obtain ⟨hB,eB⟩ : ∃ hB,hB = newCells hA 29 (clV d rs ss b) false := ⟨_,rfl⟩
  have nA : hA.next = h.next + 1 := by rw [eA]; rfl
  have nB : hB.next = h.next + 2 := by rw [eB]; show hA.next + 1 = _; omega
  have lowA : ∀ x,x < h.next → hA.t.get x = h.t.get x := fun x hx => by rw [eA]; exact new_low (by omega)
  have lowB : ∀ x,x < hA.next → hB.t.get x = hA.t.get x := fun x hx => by rw [eB]; exact new_low (by omega)
  have la := clV_len (d := d) (cv := a) hrs hss
  have lb := clV_len (d := d) (cv := b) hrs hss
  have ta := clV_toL (d := d) (cv := a) hrs hss
  have tb := clV_toL (d := d) (cv := b) hrs hss
  have gA : hB.t.get h.next = some (.cells (Tr.ofL 33 (clV d rs ss a)) 128 29 false false) := by
    rw [lowB _ (by omega),eA]
    have := box_get (t := 29) (l := clV d rs ss a) (o := false) (h := h) (by omega)
    rw [la] at this
    exact this
  have gB : hB.t.get (h.next + 1) = some (.cells (Tr.ofL 33 (clV d rs ss b)) 128 29 false false) := by
    rw [eB]
    have := box_get (t := 29) (l := clV d rs ss b) (o := false) (h := hA) (by omega)
    rw [lb,nA] at this
    exact this
  have bA : opBox 29 (some (.agg (clV d rs ss a).toArray)) h = .ok (.value (.pointer (some ⟨h.next,0,none⟩)),hA) := by rw [eA]; rfl
  have bB : opBox 29 (some (.agg (clV d rs ss b).toArray)) hA = .ok (.value (.pointer (some ⟨h.next + 1,0,none⟩)),hB) := by rw [eB,← nA]; rfl
  have rd : ∀ (B : Nat) (cv : Value),hB.t.get B = some (.cells (Tr.ofL 33 (clV d rs ss cv)) 128 29 false false) →
      opLoad (Eo O) 4 (some (.pointer (some ⟨B,0 + 0,none⟩))) hB = .ok (.value (.bool d),hB) ∧ opLoad (Eo O) 25 (some (.pointer (some ⟨B,0 + 1,none⟩))) hB = .ok (.value (.agg (tgVs rs).toArray),hB) ∧ opLoad (Eo O) 26 (some (.pointer (some ⟨B,0 + 31,none⟩))) hB = .ok (.value (.agg (tgVs ss).toArray),hB) ∧ opLoad (Eo O) 27 (some (.pointer (some ⟨B,0 + 127,none⟩))) hB = .ok (.value cv,hB) := fun B cv hg => by
    have tl := clV_toL (d := d) (cv := cv) hrs hss
    obtain ⟨_,hget⟩ := toL_get tl
    have r1 := load_one (E := Eo O) (h := hB) E4a rfl hg (show (Tr.ofL 33 (clV d rs ss cv)).get (0 + 0) = some (.bool d) by rw [← hget 0 (by decide) (by decide)]; rfl)
    have r2 := load_many (O := O) (k := 1) (h := hB) E25 (by decide) rfl hg tl (by decide) (by decide)
    rw [clV_regs hrs] at r2
    have r3 := load_many (O := O) (k := 31) (h := hB) E26 (by decide) rfl hg tl (by decide) (by decide)
    rw [clV_stack hrs hss] at r3
    have r4 := load_one (E := Eo O) (h := hB) E27 rfl hg (show (Tr.ofL 33 (clV d rs ss cv)).get (0 + 127) = some cv by rw [← hget 127 (by decide) (by decide)]; exact clV_cons hrs hss)
    exact ⟨r1,r2,r3,r4⟩
  obtain ⟨a1,a2,a3,a4⟩ := rd _ _ gA
  obtain ⟨b1,b2,b3,b4⟩ := rd _ _ gB
  have mv : ∀ {v : Value},ConsIn h v l → ConsIn hB v l := fun c => by
    rcases c with c | ⟨S,o,cap,x,c1,c2,c3,c4⟩
    · exact .inl c
    · exact .inr ⟨S,o,cap,x,c1,by omega,by rw [lowB S (by omega),lowA S c2]; exact c3,c4⟩
  have sc := samecons_run (O := O) (k := k) o20 (mv ca) (mv cb) hl (by omega)
  have e25 := fun (G : Nat) (tm : Tr Value) (dst : Option Tmp) (ty : TypeId) (pos : String) (after : Array Edge) (g : Option (Nat × Bool)) (h : SHeap) (a) (b) => eql25 (O := O) (G := G) (tm := tm) (l := rs) (dst := dst) (ty := ty) (pos := pos) (after := after) (g := g) (h := h) hrs a b
  have e26 := fun (G : Nat) (tm : Tr Value) (dst : Option Tmp) (ty : TypeId) (pos : String) (after : Array Edge) (g : Option (Nat × Bool)) (h : SHeap) (a) (b) => eql26 (O := O) (G := G) (tm := tm) (l := ss) (dst := dst) (ty := ty) (pos := pos) (after := after) (g := g) (h := h) hss a b
  suffices hc : ∃ tm',codeS (cF Tryz.f11) (Eo O) (run (Eo O) (k + 1)) ⟨11,31,.normal,none⟩ ⟨Tr.ofL 33 [.agg (clV d rs ss a).toArray,.agg (clV d rs ss b).toArray],h,[]⟩ = .ok (.ret,⟨tm',hB,[]⟩) ∧ tm'.get 4 = some (.bool true) by
    obtain ⟨tm',k1,k2⟩ := hc
    exact ⟨hB,(run_call (show (Eo O).O 11 = none from o11)).trans (enterS_ret (vs := [_]) fn11 body11 nt11 rfl res11 k1 (by simp only [resultsS,k2,need])),nB,fun x hx => by rw [lowB x (by omega),lowA x hx]⟩
  generalize hr : codeS (cF Tryz.f11) (Eo O) (run (Eo O) (k + 1)) ⟨11,31,.normal,none⟩ ⟨Tr.ofL 33 [.agg (clV d rs ss a).toArray,.agg (clV d rs ss b).toArray],h,[]⟩ = res
  have t0 : (Tr.ofL 33 [Value.agg (clV d rs ss a).toArray,.agg (clV d rs ss b).toArray]).get 0 = some (.agg (clV d rs ss a).toArray) := rfl
  have t1 : (Tr.ofL 33 [Value.agg (clV d rs ss a).toArray,.agg (clV d rs ss b).toArray]).get 1 = some (.agg (clV d rs ss b).toArray) := rfl
  generalize Tr.ofL 33 [Value.agg (clV d rs ss a).toArray,.agg (clV d rs ss b).toArray] = tm at hr t0 t1
  have dd : (d == d) = true := beq_self_eq_true d
  simp only [Tryz.f11,cF,Option.getD,cA,cB,cI,codeS,cSeq_run,cCond_run,cRegion_run,cRegion_draw,cBlock_run,cSkip_run,cRet_run,cExit_run,opsS_nil,opsS_run,opS_free,thenS_normal,thenS_ret,thenS_exit,exitBlock_normal,exitBlock_ret,exitBlock_exit,normalS_ok,dispatch,dMove,opMove,evT_tmp,evT_int,evT_bool,evT_str,dBin,dUn,dAlloc,lss_i64,geq_i64,eql_i64,neq_i64,add_i64,valR,afterS_value,putT_some,putT_none,get_put,lim,Nat.reduceLT,Nat.reduceEqDiff,and_true,if_true,if_false,reduceIte,false_and,true_and,Nat.beq,cond_true,cond_false,cLoop_run,
      dIndexAddr,dFieldAddr,dLoad,dStore,dBox,Option.bind_some,natOf_int,addrAdd_free,drawS_nil',drawS_cons',dstep_pg,dstep_rg,dstep_eg,dstep_bg,wantedS_none,wantedS_some,callOut_value,valEq_tg,readAgain_nil,readAgain_cons,valEq_int,callOut_enter,simOp_run,outVal_val,List.getElem?_toArray,List.getElem?_cons_succ,List.getElem?_cons_zero,List.drop_succ_cons,List.drop_zero,dPick,pick_true,pick_false,opS_guard,dIndex,dBuild,dBuildSlice,dCall,evParts,evList,bqa,bqb,bqc,bqd,Bool.and_self,Bool.not_true,Bool.not_false,not_b,afterS_enter,call_fn en36,call_fn en37,call_fn en38,call_fn en67,call_fn en56,sub_i64,build24,allocOf_bs,ab62,mkAV_one,opCall_app,opBuiltin,opCall_len,bi_len27,len27c,pick_true,pick_false,valEq_cn,call_fn en20,bA,bB,fa29a,fa29b,fa29c,fa29d,a1,a2,a3,a4,b1,b2,b3,b4,eql_bool2,dd,e25,e26,sc,t0,t1] at hr
  subst hr
  exact ⟨_,rfl,by simp [get_put,lim]⟩
end Go.Proofs.YtaclddcneogolaaGreatDoor

set_option linter.unusedSimpArgs false
set_option linter.unusedVariables false
namespace Go.Proofs.YtaclddcneogolaaGreatDoor
open Go Go.Sim
set_option maxRecDepth 100000
set_option maxHeartbeats 2000000
variable {O : Nat → Option (List Value → SHeap → Except String (Value × SHeap))} {ih : K}

def m7 : Tg := (-7,0,0)
def m8 : Tg := (-8,0,0)
theorem en10 : EntersS (Eo O) 10 := fun _ _ => by kernel_rfl
theorem build7 {h : SHeap} : opBuild (Eo O) ((Eo O).T 32) (some [(0,.int .i64 (-7))]) h = .ok (.value (cnA m7),h) := by kernel_rfl
theorem build8 {h : SHeap} : opBuild (Eo O) ((Eo O).T 32) (some [(0,.int .i64 (-8))]) h = .ok (.value (cnA m8),h) := by kernel_rfl
theorem ab27 : allocBuild (Eo O) ((Eo O).T 27) 2 (some [(0,cnA m7),(1,cnA m8)]) = some (32,tgVs [m7,m8],.slc 2 2) := by kernel_rfl
theorem sl27 {ev : Ev} {op : Oper} {r n N : Nat} {h : SHeap} (hn : n ≤ N) : opSlice (Eo O) ev op 27 (some (.slice (some ⟨r,0,none⟩) N openCap)) none (some (some (.int .i64 (.ofNat n)))) none h = .ok (.value (.slice (some ⟨r,0,none⟩) n openCap),h) := by
  simp only [opSlice,sliceS,boundOf,natOf_int,E27,sliceGo,E32,Option.getD]
  rw [if_pos (Nat.le_refl _),if_neg (by simp; omega),if_pos trivial]
  rfl
theorem up27 {ev : Ev} {op : Oper} {r n m k : Nat} {ct : Tr Value} {h : SHeap} (hn : n < m) (hr : h.t.get r = some (.cells ct k 32 true false)) (hk : m * 3 ≤ k) : opSlice (Eo O) ev op 27 (some (.slice (some ⟨r,0,none⟩) n openCap)) none (some (some (.int .i64 (.ofNat m)))) none h = .ok (.value (.slice (some ⟨r,0,none⟩) m openCap),h) := by
  have h1 : Nat.ble (m * 3) k = true := by rw [Nat.ble_eq]; exact hk
  simp only [opSlice,sliceS,boundOf,natOf_int,E27,sliceGo,E32,Option.getD]
  rw [if_pos (Nat.le_refl _),if_pos (by simp; omega)]
  simp only [upS,boundOf,natOf_int,show Nat.beq openCap openCap = true from rfl,cond_true,E27,hr,E32,show (Nat.blt 0 3 && Nat.beq 32 32) = true from rfl,h1,Bool.and_self]
  rfl
theorem dstep_r2 {E : Env} {ih : K} {l : List Oper} {nt base i : Nat} {hh a b : SHeap} {tm : Tr Value} {h : SHeap} {cur : List Nat} :
    dstepS E ih l.toArray nt base ⟨i,.read,2⟩ ⟨[hh,a,b],tm,h,cur⟩ = (match l[i]? with
      | none => .error "draw  no operation"
      | some ⟨dst,op,ty,pos,after,g⟩ => match wantedS l.toArray tm g with
        | none => .error "draw  guard"
        | some false => .ok ⟨[hh,a,b],putT tm nt dst (.tuple #[]),h,cur⟩
        | some true => match outVal (dispatch op E (evT E.G tm) ⟨dst,op,ty,pos,after,g⟩ hh) with
          | .ok v => .ok ⟨[hh,a,b],putT tm nt dst v,h,cur⟩
          | .error e => .error e) := by
  rcases ho : l[i]? with _ | ⟨dst,op,ty,pos,after,g⟩
  · simp only [dstepS,List.getElem?_toArray,ho]
  · simp only [dstepS,List.getElem?_toArray,ho]
    cases wantedS l.toArray tm g with
    | none => rfl
    | some b => cases b with
      | false => rfl
      | true =>
        simp only [PKind.isEff,cond_false,floatS,simOp]
        cases outVal (dispatch op E (evT E.G tm) ⟨dst,op,ty,pos,after,g⟩ hh) with
        | error e => rfl
        | ok v => rfl
theorem put1xlist {c : Tr Value} {l : List Value} {n k : Nat} {x : Value} (h : c.toL 32 n = some l) (hk : k < n) (hn : n ≤ lim) : (c.put k (some x)).toL 32 n = some (l.set k x) := by
  have hs : ((c.put k (some x)).toL 32 n).isSome = true := toL_put (by rw [h]; rfl)
  obtain ⟨h1,h2⟩ := toL_get h
  cases hr : (c.put k (some x)).toL 32 n with
  | none => rw [hr] at hs; simp at hs
  | some l' =>
    obtain ⟨k1,k2⟩ := toL_get hr
    refine congrArg some (List.ext_getElem? fun i => ?_)
    by_cases hi : i < n
    · rw [k2 i hi (by omega),get_put,List.getElem?_set]
      by_cases e : i = k
      · rw [if_pos ⟨e,by omega⟩,if_pos e.symm,if_pos (by omega)]
      · rw [if_neg (fun h => e h.1),if_neg (fun h => e h.symm),h2 i hi (by omega)]
    · rw [List.getElem?_eq_none (by omega),List.getElem?_eq_none (by rw [List.length_set]; omega)]
theorem clV_last {d : Bool} {rs ss : List Tg} {a b : Value} (hr : rs.length = 10) (hs : ss.length = 32) : (clV d rs ss a).set 127 b = clV d rs ss b := by
  have e : ∀ x,clV d rs ss x = (.bool d :: (tgVs rs ++ tgVs ss)) ++ [x] := fun x => by simp [clV]
  have l : (Value.bool d :: (tgVs rs ++ tgVs ss)).length = 127 := by simp [tgVs_len,hr,hs]
  rw [e,e,List.set_append_right _ _ (by omega),l]
  rfl
theorem clV_each {d : Bool} {rs ss : List Tg} {cv : Value} {p : Value → Bool} (h1 : p (.bool d) = true) (h2 : ∀ z,p (.int .i64 z) = true) (h3 : p cv = true) : ∀ v ∈ clV d rs ss cv,p v = true := by
  have ints : ∀ (l : List Tg) (v : Value),v ∈ tgVs l → p v = true := by
    intro l
    induction l with
    | nil => intro v h; simp [tgVs] at h
    | cons t r ih =>
      intro v h
      simp only [tgVs,List.mem_cons] at h
      rcases h with rfl | rfl | rfl | h
      · exact h2 _
      · exact h2 _
      · exact h2 _
      · exact ih v h
  intro v hv
  simp only [clV,List.mem_cons,List.mem_append,List.not_mem_nil,or_false] at hv
  rcases hv with rfl | hv | hv | rfl
  · exact h1
  · exact ints _ v hv
  · exact ints _ v hv
  · exact h3
theorem scalar_all : ∀ (l : List Value),(∀ v ∈ l,scalarV v = true) → allScalar l = true
  | [],_ => rfl
  | v :: r,h => by
    simp only [allScalar,h v (List.mem_cons_self ..),scalar_all r fun u hu => h u (List.mem_cons_of_mem _ hu),Bool.and_self]
theorem valsEq_all : ∀ (l : List Value) (n : Nat),l.length < n → (∀ v ∈ l,∀ m,valEq (m + 1) v v = true) → valEq.valsEq n l l = true
  | [],n,_,_ => by cases n <;> simp [valEq.valsEq]
  | v :: r,n + 1,hn,h => by
    simp only [List.length_cons] at hn
    simp only [valEq.valsEq,valsEq_all r n (by omega) fun u hu => h u (List.mem_cons_of_mem _ hu),Bool.and_true]
    obtain ⟨m,rfl⟩ : ∃ m,n = m + 1 := ⟨n - 1,by omega⟩
    exact h v (List.mem_cons_self ..) m
theorem valEq_clv {d : Bool} {rs ss : List Tg} {a : Option Addr} {n c : Nat} (hr : rs.length = 10) (hs : ss.length = 32) : valEq 200 (.agg (clV d rs ss (.slice a n c)).toArray) (.agg (clV d rs ss (.slice a n c)).toArray) = true := by
  show valEq.valsEq 199 (clV d rs ss (.slice a n c)) (clV d rs ss (.slice a n c)) = true
  refine valsEq_all _ _ (by rw [clV_len hr hs]; decide) fun v hv m => ?_
  exact clV_each (p := fun v => valEq (m + 1) v v) (by simp [valEq]) (fun z => by simp [valEq]) (by cases a <;> simp [valEq]) v hv
theorem store_all {d : Bool} {rs ss : List Tg} {a : Option Addr} {n c b e : Nat} {ct : Tr Value} {o : Bool} {h : SHeap} (hr : rs.length = 10) (hs : ss.length = 32) (hb : h.t.get b = some (.cells ct 128 e o false)) :
    opStore (Eo O) 29 (some (.pointer (some ⟨b,0,none⟩))) (some (.agg (clV d rs ss (.slice a n c)).toArray)) h = .ok (.value (.tuple #[]),h.set b (some (.cells (Tr.ofL 33 (clV d rs ss (.slice a n c))) 128 e o false))) := by
  have l128 := clV_len (d := d) (cv := .slice a n c) hr hs
  have sc : allScalar (clV d rs ss (.slice a n c)) = true := scalar_all _ (clV_each rfl (fun _ => rfl) rfl)
  unfold opStore storeAt
  simp only [E29,hb]
  rw [show (Value.agg (clV d rs ss (.slice a n c)).toArray).cells = (clV d rs ss (.slice a n c)).toArray from rfl]
  rw [if_neg (by simp [l128])]
  simp only [storeRange,l128,sc,show Nat.ble 128 12 = false from rfl,cond_false,show (true && Nat.ble (0 + 128) 128 && Nat.ble 128 lim) = true from rfl,cond_true,show (Nat.beq 0 0 && Nat.beq 128 128) = true from rfl]
theorem store_cv {b e : Nat} {v : Value} {ct : Tr Value} {o : Bool} {h : SHeap} {ad : Option Addr} {n c : Nat} (hv : v = .slice ad n c) (hb : h.t.get b = some (.cells ct 128 e o false)) :
    opStore (Eo O) 27 (some (.pointer (some ⟨b,0 + 127,none⟩))) (some v) h = .ok (.value (.tuple #[]),h.set b (some (.cells (ct.put 127 (some v)) 128 e o false))) := by
  subst hv
  unfold opStore storeAt
  simp only [E27,Nat.zero_add,hb]
  rw [show (Value.slice ad n c).cells = #[Value.slice ad n c] from rfl,if_neg (by simp)]
  have : storeRange ct 128 127 (#[Value.slice ad n c] : Array Value).toList = some (ct.put 127 (some (.slice ad n c))) := by
    show storeList ct 128 127 [Value.slice ad n c] = _
    simp only [storeList,force_eq,forceN_eq,show Nat.blt 127 128 = true from rfl,cond_true]
  rw [this]

theorem pl4a : planOf (Eo O) (nthD (drawsOf (cF Tryz.f4)) 0).toList = some ⟨[⟨0,.pure,0⟩,⟨1,.read,0⟩,⟨2,.eff,0⟩,⟨3,.pure,0⟩,⟨4,.pure,0⟩,⟨5,.alloc,0⟩,⟨6,.eff,1⟩,⟨7,.pure,0⟩,⟨8,.read,0⟩,⟨9,.read,0⟩],10,10⟩ := by kernel_rfl
theorem pl4b : planOf (Eo O) (nthD (drawsOf (cF Tryz.f4)) 1).toList = some ⟨[⟨0,.read,0⟩,⟨1,.eff,0⟩,⟨2,.read,0⟩,⟨3,.eff,1⟩,⟨4,.pure,2⟩,⟨5,.pure,2⟩,⟨6,.read,2⟩,⟨7,.read,2⟩],8,0⟩ := by kernel_rfl
theorem body4 : Tryz.f4.body = some (cF Tryz.f4) := rfl
theorem fn4 : (Eo O).F 4 = some Tryz.f4 := by show Tab.funcs.get 4 = _; kernel_rfl
theorem nt4 {a : Value} : max Tryz.f4.ntmps (#[a] : Array Value).size = 57 := rfl
theorem res4 : Tryz.f4.results.toList = [.tmp 2] := rfl
theorem fa32z {a : Addr} {h : SHeap} : opFieldAddr (Eo O) ((Eo O).T 32) (some (.pointer (some a))) 0 h = .ok (.value (.pointer (some (addrAdd a 0))),h) := fa32

/-- THE WHOLE: the law returns true -/
theorem claims_run {k : Nat} {h : SHeap} {d : Bool} {rs ss cs : List Tg} {cv : Value} (hrs : rs.length = 10) (hss : ss.length = 32) (frs : ∀ t ∈ rs,t.fits) (fss : ∀ t ∈ ss,t.fits) (fcs : ∀ t ∈ cs,t.fits) (hcs : cs.length ≤ 300000) (hlim : h.next + 300 * cs.length + 500000 ≤ lim)
    (hw : Whole3 h cv cs) (hcons : ConsIn h cv cs) (htab : h.t.get 0 = h0.t.get 0) (hp : 0 < h.next) :
    ∃ h',run (Eo OU) (k + 7) (.call 4 #[.agg (clV d rs ss cv).toArray] .normal) h = .ok (.bool true,h') := by
  have hlim' : lim = 4294967296 := rfl
  obtain ⟨cva,cvc,hcv⟩ : ∃ a c,cv = .slice a cs.length c := by
    rcases hcons with ⟨a,c,h1,h2⟩ | ⟨S,o,cap,x,h1,_⟩
    · exact ⟨a,c,by rw [h1,h2]; rfl⟩
    · exact ⟨_,cap,h1⟩
  -- the argument's box
  obtain ⟨hA,eA⟩ : ∃ hA,hA = newCells h 29 (clV d rs ss cv) false := ⟨_,rfl⟩
  have nA : hA.next = h.next + 1 := by rw [eA]; rfl
  have lowA : ∀ x,x < h.next → hA.t.get x = h.t.get x := fun x hx => by rw [eA]; exact new_low (by omega)
  have l128 := clV_len (d := d) (cv := cv) hrs hss
  have hcb := clV_toL (d := d) (cv := cv) hrs hss
  have gA : hA.t.get h.next = some (.cells (Tr.ofL 33 (clV d rs ss cv)) 128 29 false false) := by
    rw [eA]
    have := box_get (t := 29) (l := clV d rs ss cv) (o := false) (h := h) (by omega)
    rw [l128] at this
    exact this
  have tabA : hA.t.get 0 = h0.t.get 0 := by rw [lowA 0 hp]; exact htab
  have bA : opBox 29 (some (.agg (clV d rs ss cv).toArray)) h = .ok (.value (.pointer (some ⟨h.next,0,none⟩)),hA) := by rw [eA]; rfl
  have hk := known_at (k := k + 5) (h := hA) (by rw [tabA]; kernel_rfl)
  replace hk : run (Eo OU) (k + 6) (.call 7 #[] .normal) hA = .ok (.bool true,hA) := hk
  have ldC : ∀ g : SHeap,g.t.get h.next = some (.cells (Tr.ofL 33 (clV d rs ss cv)) 128 29 false false) →
      opLoad (Eo OU) 29 (some (.pointer (some ⟨h.next,0,none⟩))) g = .ok (.value (.agg (clV d rs ss cv).toArray),g) ∧ opLoad (Eo OU) 27 (some (.pointer (some ⟨h.next,0 + 127,none⟩))) g = .ok (.value cv,g) := fun g hg => by
    have r := load_many (O := OU) (k := 0) (h := g) E29 (by decide) E29a hg hcb (by decide) (by decide)
    rw [List.drop_zero,List.take_of_length_le (by rw [l128]; decide)] at r
    obtain ⟨_,hget⟩ := toL_get hcb
    exact ⟨r,load_one (E := Eo OU) (h := g) E27 rfl hg (show (Tr.ofL 33 (clV d rs ss cv)).get (0 + 127) = some cv by rw [← hget 127 (by decide) (by decide)]; exact clV_cons hrs hss)⟩
  -- 'in'
  obtain ⟨hI,eI⟩ : ∃ hI,hI = newCells hA 29 (clV false rs0 ss0 nilS) false := ⟨_,rfl⟩
  have nI : hI.next = h.next + 2 := by rw [eI]; show hA.next + 1 = _; omega
  have lowI : ∀ x,x < hA.next → hI.t.get x = hA.t.get x := fun x hx => by rw [eI]; exact new_low (by omega)
  have gI : hI.t.get (h.next + 1) = some (.cells (Tr.ofL 33 (clV false rs0 ss0 nilS)) 128 29 false false) := by
    rw [eI]
    have := box_get (t := 29) (l := clV false rs0 ss0 nilS) (o := false) (h := hA) (by omega)
    rw [nA] at this
    exact this
  have aI : opAlloc ((Eo OU).T 29) 29 hA = .ok (.value (.pointer (some ⟨h.next + 1,0,none⟩)),hI) := by rw [eI,← nA]; exact alloc29
  obtain ⟨a1,_⟩ := ldC hA gA
  obtain ⟨hS,eS⟩ : ∃ hS,hS = hI.set (h.next + 1) (some (.cells (Tr.ofL 33 (clV d rs ss cv)) 128 29 false false)) := ⟨_,rfl⟩
  have sI : opStore (Eo OU) 29 (some (.pointer (some ⟨h.next + 1,0,none⟩))) (some (.agg (clV d rs ss cv).toArray)) hI = .ok (.value (.tuple #[]),hS) := by
    rw [eS]; subst hcv; exact store_all hrs hss gI
  have nS : hS.next = h.next + 2 := by rw [eS]; exact nI
  have gS : hS.t.get (h.next + 1) = some (.cells (Tr.ofL 33 (clV d rs ss cv)) 128 29 false false) := by
    rw [eS]; simp only [SHeap.set,get_put]; exact if_pos ⟨trivial,by omega⟩
  have lowS : ∀ x,x < h.next + 1 → hS.t.get x = hA.t.get x := fun x hx => by
    rw [eS]; simp only [SHeap.set,get_put]; rw [if_neg (by omega)]; exact lowI x (by omega)
  -- the copy,and two more
  obtain ⟨G,n⟩ := hS
  simp only at nS gS lowS
  subst nS
  have lowG : ∀ x,x < h.next → G.get x = h.t.get x := fun x hx => by rw [lowS x (by omega),lowA x hx]
  have gC0 : G.get h.next = some (.cells (Tr.ofL 33 (clV d rs ss cv)) 128 29 false false) := by rw [lowS _ (by omega)]; exact gA
  have hw0 : Whole3 ⟨G,h.next + 2 + 10⟩ cv cs := by
    rcases hw with c | ⟨S,o,cap,ct,n,c1,c2,c3,c4,c5⟩
    · exact .inl c
    · exact .inr ⟨S,o,cap,ct,n,c1,by show S < h.next + 2 + 10; omega,c3,by show G.get S = _; rw [lowG S c2]; exact c4,c5⟩
  obtain ⟨v1,g1,r1,r2,r3,r4,r5⟩ := copy_run (O := OU) (k := k + 5) rfl hw0 hcs (by show h.next + 2 + 10 < lim; omega)
  simp only at r2 r3 r4 r5
  replace r1 : run (Eo OU) (k + 6) (.call 8 #[cv] .normal) ⟨G,h.next + 2 + 10⟩ = .ok (v1,g1) := r1
  obtain ⟨g2,e2⟩ : ∃ g2,g2 = SHeap.set g1 (h.next + 2 + 5) (some (.cells (Tr.ofL 33 (tgVs [m7,m8])) 6 32 false false)) := ⟨_,rfl⟩
  have hset : SHeap.set g1 (h.next + 2 + 5) (some (.cells (Tr.ofL 33 (tgVs [m7,m8])) (tgVs [m7,m8]).length 32 false false)) = g2 := by rw [e2]; rfl
  have n2 : g2.next = g1.next := by rw [e2]; rfl
  have b2 : g2.t.get (h.next + 2 + 5) = some (.cells (Tr.ofL 33 (tgVs [m7,m8])) 6 32 false false) := by
    rw [e2]; simp only [SHeap.set,get_put]; exact if_pos ⟨trivial,by omega⟩
  have low2 : ∀ x,x ≠ h.next + 2 + 5 → g2.t.get x = g1.t.get x := fun x hx => by
    rw [e2]; simp only [SHeap.set,get_put]; exact if_neg (fun e => hx e.1)
  have or2 : OpenRow g2 (h.next + 2 + 10) v1 cs := by
    rcases r2 with c | ⟨r,ct,c1,c2,c3,c4,c5⟩
    · exact .inl c
    · exact .inr ⟨r,ct,c1,c2,by omega,by rw [low2 r (by omega)]; exact c4,c5⟩
  obtain ⟨g3,ct,ap0,row3,cell3,n3,low3⟩ := ap_two (O := OU) (cal := .builtin .append) (a := #[.tmp 10,.tmp 13]) or2 b2 hcs (by omega) (by omega)
  have l3 : ∀ x,x < h.next + 2 → g3.t.get x = G.get x := fun x hx => by rw [low3 x (by omega),low2 x (by omega),r5 x (by show x < h.next + 2 + 10; omega)]
  have gC1 : g1.t.get h.next = some (.cells (Tr.ofL 33 (clV d rs ss cv)) 128 29 false false) := by rw [r5 _ (by show h.next < h.next + 2 + 10; omega)]; exact gC0
  have gC3 : g3.t.get h.next = some (.cells (Tr.ofL 33 (clV d rs ss cv)) 128 29 false false) := by rw [l3 _ (by omega)]; exact gC0
  have gI3 : g3.t.get (h.next + 1) = some (.cells (Tr.ofL 33 (clV d rs ss cv)) 128 29 false false) := by rw [l3 _ (by omega)]; exact gS
  obtain ⟨_,c27a⟩ := ldC ⟨G,h.next + 2 + 10⟩ gC0
  obtain ⟨_,c27b⟩ := ldC g1 gC1
  obtain ⟨_,c27c⟩ := ldC g3 gC3
  -- the cut row is stored
  obtain ⟨cvI,hcvI⟩ : ∃ cvI : Value,cvI = .slice (some ⟨g2.next,0,none⟩) cs.length openCap := ⟨_,rfl⟩
  have cut := fun (ev : Ev) (op : Oper) => sl27 (O := OU) (ev := ev) (op := op) (r := g2.next) (n := cs.length) (N := cs.length + 2) (h := g3) (by omega)
  rw [← hcvI] at cut
  obtain ⟨g4,e4⟩ : ∃ g4,g4 = g3.set (h.next + 1) (some (.cells ((Tr.ofL 33 (clV d rs ss cv)).put 127 (some cvI)) 128 29 false false)) := ⟨_,rfl⟩
  have s4 : opStore (Eo OU) 27 (some (.pointer (some ⟨h.next + 1,0 + 127,none⟩))) (some cvI) g3 = .ok (.value (.tuple #[]),g4) := by rw [e4]; exact store_cv hcvI gI3
  have n4 : g4.next = g3.next := by rw [e4]; rfl
  have gI4 : g4.t.get (h.next + 1) = some (.cells ((Tr.ofL 33 (clV d rs ss cv)).put 127 (some cvI)) 128 29 false false) := by
    rw [e4]; simp only [SHeap.set,get_put]; exact if_pos ⟨trivial,by omega⟩
  have low4 : ∀ x,x ≠ h.next + 1 → g4.t.get x = g3.t.get x := fun x hx => by
    rw [e4]; simp only [SHeap.set,get_put]; exact if_neg (fun e => hx e.1)
  have tI : ((Tr.ofL 33 (clV d rs ss cv)).put 127 (some cvI)).toL 32 128 = some (clV d rs ss cvI) := by
    rw [put1xlist hcb (by decide) (by decide),clV_last hrs hss]
  have lI := clV_len (d := d) (cv := cvI) hrs hss
  have ldI : ∀ g : SHeap,g.t.get (h.next + 1) = some (.cells ((Tr.ofL 33 (clV d rs ss cv)).put 127 (some cvI)) 128 29 false false) →
      opLoad (Eo OU) 29 (some (.pointer (some ⟨h.next + 1,0,none⟩))) g = .ok (.value (.agg (clV d rs ss cvI).toArray),g) ∧ opLoad (Eo OU) 27 (some (.pointer (some ⟨h.next + 1,0 + 127,none⟩))) g = .ok (.value cvI,g) := fun g hg => by
    have r := load_many (O := OU) (k := 0) (h := g) E29 (by decide) E29a hg tI (by decide) (by decide)
    rw [List.drop_zero,List.take_of_length_le (by rw [lI]; decide)] at r
    obtain ⟨_,hget⟩ := toL_get tI
    exact ⟨r,load_one (E := Eo OU) (h := g) E27 rfl hg (show ((Tr.ofL 33 (clV d rs ss cv)).put 127 (some cvI)).get (0 + 127) = some cvI by rw [← hget 127 (by decide) (by decide)]; exact clV_cons hrs hss)⟩
  have gR4 : g4.t.get g2.next = some (.cells ct ((cs.length + 2) * 3) 32 true false) := by rw [low4 _ (by omega)]; exact row3
  have six : (tgVs (cs ++ [m7,m8])).length = (cs.length + 2) * 3 := by rw [tgVs_len,List.length_append]; rfl
  have rowI : ∀ j c,(cs ++ [m7,m8])[j]? = some c → ct.toListFrom (0 + j * 3) 3 = some [.int .i64 c.1,.int .i64 c.2.1,.int .i64 c.2.2] := fun j c hj => by
    have hlt : j < (cs ++ [m7,m8]).length := (List.getElem?_eq_some_iff.1 hj).1
    rw [List.length_append] at hlt
    have hlt : j < cs.length + 2 := hlt
    have ta := tgVs_at _ j c hj
    have get : ∀ r,r < 3 → ct.get (0 + j * 3 + r) = (tgV c)[r]? := fun r hr => by
      obtain ⟨z,hz⟩ : ∃ z,(tgVs (cs ++ [m7,m8]))[0 + j * 3 + r]? = some z := ⟨_,List.getElem?_eq_getElem (by rw [six]; omega)⟩
      rw [cell3 _ z hz,← ta,List.getElem?_take_of_lt hr,List.getElem?_drop,← hz,Nat.zero_add]
    have q0 : ct.get (0 + j * 3) = some (.int .i64 c.1) := get 0 (by decide)
    have q1 : ct.get (0 + j * 3 + 1) = some (.int .i64 c.2.1) := get 1 (by decide)
    have q2 : ct.get (0 + j * 3 + 1 + 1) = some (.int .i64 c.2.2) := get 2 (by decide)
    simp only [Tr.toListFrom,forceN_eq,q0,q1,q2]
  have consI : ∀ g : SHeap,g2.next < g.next → g.t.get g2.next = some (.cells ct ((cs.length + 2) * 3) 32 true false) → ConsIn g cvI cs := fun g q1 q2 =>
    .inr ⟨g2.next,0,openCap,_,hcvI,q1,q2,fun j c hj => rowI j c (by rw [List.getElem?_append_left (List.getElem?_eq_some_iff.1 hj).1]; exact hj)⟩
  have consC : ∀ g : SHeap,h.next ≤ g.next → (∀ x,x < h.next → g.t.get x = h.t.get x) → ConsIn g cv cs := fun g q1 q2 => by
    rcases hcons with c | ⟨S,o,cap,x,c1,c2,c3,c4⟩
    · exact .inl c
    · exact .inr ⟨S,o,cap,x,c1,by omega,by rw [q2 S c2]; exact c3,c4⟩
  have lowh4 : ∀ x,x < h.next → g4.t.get x = h.t.get x := fun x hx => by rw [low4 x (by omega),l3 x (by omega),lowG x hx]
  obtain ⟨i1,_⟩ := ldI g4 gI4
  -- the two texts
  obtain ⟨g5,p1,p2,p3,p4⟩ := claim_run (O := OU) (k := k) rfl rfl rfl rfl rfl rfl rfl rfl rfl rfl rfl rfl (h := g4) (d := d) (cv := cvI) hrs hss frs fss fcs hcs (by omega) (consI g4 (by omega) gR4) (tabOU (by rw [lowh4 0 hp]; exact htab)) (by omega)
  have gC4 : g4.t.get h.next = some (.cells (Tr.ofL 33 (clV d rs ss cv)) 128 29 false false) := by rw [low4 _ (by omega)]; exact gC3
  have gC5 : g5.t.get h.next = some (.cells (Tr.ofL 33 (clV d rs ss cv)) 128 29 false false) := by rw [p4 _ (by omega)]; exact gC4
  have lowh5 : ∀ x,x < h.next → g5.t.get x = h.t.get x := fun x hx => by rw [p4 x (by omega),lowh4 x hx]
  obtain ⟨c29a,_⟩ := ldC g4 gC4
  obtain ⟨c29b,_⟩ := ldC g5 gC5
  obtain ⟨g6,q1,q2,q3,q4⟩ := refclaim_run (O := OU) (k := k) rfl rfl rfl rfl rfl rfl rfl rfl (h := g5) (d := d) (cv := cv) hrs hss frs fss fcs hcs (by omega) (consC g5 (by omega) lowh5) (tabOU (by rw [lowh5 0 hp]; exact htab)) (by omega)
  have gC6 : g6.t.get h.next = some (.cells (Tr.ofL 33 (clV d rs ss cv)) 128 29 false false) := by rw [q4 _ (by omega)]; exact gC5
  have gI6 : g6.t.get (h.next + 1) = some (.cells ((Tr.ofL 33 (clV d rs ss cv)).put 127 (some cvI)) 128 29 false false) := by rw [q4 _ (by omega),p4 _ (by omega)]; exact gI4
  have gR6 : g6.t.get g2.next = some (.cells ct ((cs.length + 2) * 3) 32 true false) := by rw [q4 _ (by omega),p4 _ (by omega)]; exact gR4
  have lowh6 : ∀ x,x < h.next → g6.t.get x = h.t.get x := fun x hx => by rw [q4 x (by omega),lowh5 x hx]
  obtain ⟨c29c,_⟩ := ldC g6 gC6
  obtain ⟨i29c,_⟩ := ldI g6 gI6
  obtain ⟨g7,s1,s2,s3⟩ := sameclaim_run (O := OU) (k := k + 4) rfl rfl (h := g6) (d := d) hrs hss (consI g6 (by omega) gR6) (consC g6 (by omega) lowh6) hcs (by omega)
  replace s1 : run (Eo OU) (k + 6) (.call 11 #[.agg (clV d rs ss cvI).toArray,.agg (clV d rs ss cv).toArray] .normal) g6 = .ok (.bool true,g7) := s1
  have gI7 : g7.t.get (h.next + 1) = some (.cells ((Tr.ofL 33 (clV d rs ss cv)).put 127 (some cvI)) 128 29 false false) := by rw [s3 _ (by omega)]; exact gI6
  have gR7 : g7.t.get g2.next = some (.cells ct ((cs.length + 2) * 3) 32 true false) := by rw [s3 _ (by omega)]; exact gR6
  obtain ⟨_,i27⟩ := ldI g7 gI7
  -- the row,opened again
  have hadd2 : wrapF .i64 (Int.ofNat cs.length + 2) = Int.ofNat (cs.length + 2) := Go.Sim.wrap_small (m := cs.length + 2) (by omega)
  have hadd1 : wrapF .i64 (Int.ofNat cs.length + 1) = Int.ofNat (cs.length + 1) := Go.Sim.wrap_small (m := cs.length + 1) (by omega)
  have up := fun (ev : Ev) (op : Oper) => up27 (O := OU) (ev := ev) (op := op) (r := g2.next) (n := cs.length) (m := cs.length + 2) (h := g7) (by omega) gR7 (Nat.le_refl _)
  rw [← hcvI] at up
  have x7 := rowI cs.length m7 (by rw [List.getElem?_append_right (Nat.le_refl _),Nat.sub_self]; rfl)
  have x8 := rowI (cs.length + 1) m8 (by rw [List.getElem?_append_right (by omega),show cs.length + 1 - cs.length = 1 by omega]; rfl)
  have ia0 := ia27 (O := OU) (S := g2.next) (o := 0) (cap := openCap) (h := g7) (show cs.length < cs.length + 2 by omega)
  have ia1 := ia27 (O := OU) (S := g2.next) (o := 0) (cap := openCap) (h := g7) (show cs.length + 1 < cs.length + 2 by omega)
  have first : ∀ (j : Nat) (z : Int),(∃ u w,ct.toListFrom (0 + j * 3) 3 = some [.int .i64 z,u,w]) → ct.get (0 + j * 3 + 0) = some (.int .i64 z) := fun j z ⟨u,w,hz⟩ => by
    have := (toListFrom_spec ct 3 (0 + j * 3) _ hz).2 0 (by decide)
    rw [← this]; rfl
  have l7 : opLoad (Eo OU) 3 (some (.pointer (some ⟨g2.next,0 + cs.length * 3 + 0,none⟩))) g7 = .ok (.value (.int .i64 (-7)),g7) := load_one (E := Eo OU) (h := g7) E3 rfl gR7 (first _ _ ⟨_,_,x7⟩)
  have l8 : opLoad (Eo OU) 3 (some (.pointer (some ⟨g2.next,0 + (cs.length + 1) * 3 + 0,none⟩))) g7 = .ok (.value (.int .i64 (-8)),g7) := load_one (E := Eo OU) (h := g7) E3 rfl gR7 (first _ _ ⟨_,_,x8⟩)
  have ne := fun (ev : Ev) (o : Oper) (h : SHeap) => neq_str (O := OU) (ev := ev) (o := o) (t := 9) (x := claimT d rs ss cs) (y := claimT d rs ss cs) (h := h)
  rw [show (!(claimT d rs ss cs == claimT d rs ss cs)) = false by rw [beq_self_eq_true]; rfl] at ne
  have bl1 : Nat.ble g1.next 4294967296 = true := by rw [Nat.ble_eq]; omega
  have bl3 : Nat.ble g3.next 4294967296 = true := by rw [Nat.ble_eq]; omega
  have bl5 : Nat.ble g5.next 4294967296 = true := by rw [Nat.ble_eq]; omega
  have bl6 : Nat.ble g6.next 4294967296 = true := by rw [Nat.ble_eq]; omega
  have e77 : ((-7 : Int) == -7) = true := rfl
  have e88 : ((-8 : Int) == -8) = true := rfl
  have hp1 := pl4a (O := OU)
  have hp2 := pl4b (O := OU)
  simp only [Tryz.f4,cF,Option.getD,drawsOf,nthD,List.append_nil,List.nil_append,List.cons_append,List.singleton_append] at hp1 hp2
  suffices hc : ∃ tm' h',codeS (cF Tryz.f4) (Eo OU) (run (Eo OU) (k + 6)) ⟨4,57,.normal,none⟩ ⟨Tr.ofL 33 [.agg (clV d rs ss cv).toArray],h,[]⟩ = .ok (.ret,⟨tm',h',[]⟩) ∧ tm'.get 2 = some (.bool true) by
    obtain ⟨tm',h',k1,k2⟩ := hc
    exact ⟨h',(run_call (show (Eo OU).O 4 = none from rfl)).trans (enterS_ret (vs := [_]) fn4 body4 nt4 rfl res4 k1 (by simp only [resultsS,k2,need]))⟩
  generalize hr : codeS (cF Tryz.f4) (Eo OU) (run (Eo OU) (k + 6)) ⟨4,57,.normal,none⟩ ⟨Tr.ofL 33 [.agg (clV d rs ss cv).toArray],h,[]⟩ = res
  have t0 : (Tr.ofL 33 [Value.agg (clV d rs ss cv).toArray]).get 0 = some (.agg (clV d rs ss cv).toArray) := rfl
  generalize Tr.ofL 33 [Value.agg (clV d rs ss cv).toArray] = tm at hr t0
  have hg4 : g4.next ≤ lim := by omega
  subst hcv hcvI
  simp only [Tryz.f4,cF,Option.getD,cA,cB,cI,codeS,cSeq_run,cCond_run,cRegion_run,cRegion_draw,cBlock_run,cSkip_run,cRet_run,cExit_run,opsS_nil,opsS_run,opS_free,thenS_normal,thenS_ret,thenS_exit,exitBlock_normal,exitBlock_ret,exitBlock_exit,normalS_ok,dispatch,dMove,opMove,evT_tmp,evT_int,evT_bool,evT_str,dBin,dUn,dAlloc,lss_i64,geq_i64,eql_i64,neq_i64,add_i64,valR,afterS_value,putT_some,putT_none,get_put,lim,Nat.reduceLT,Nat.reduceEqDiff,and_true,if_true,if_false,reduceIte,false_and,true_and,Nat.beq,cond_true,cond_false,cLoop_run,
      dIndexAddr,dFieldAddr,dLoad,dStore,dBox,Option.bind_some,natOf_int,addrAdd_free,drawS_nil',drawS_cons',dstep_pg,dstep_rg,dstep_eg,dstep_bg,wantedS_none,wantedS_some,callOut_value,valEq_tg,readAgain_nil,readAgain_cons,valEq_int,callOut_enter,simOp_run,outVal_val,List.getElem?_toArray,List.getElem?_cons_succ,List.getElem?_cons_zero,List.drop_succ_cons,List.drop_zero,dPick,pick_true,pick_false,opS_guard,dIndex,dBuild,dBuildSlice,dCall,evParts,evList,bqa,bqb,bqc,bqd,Bool.and_self,Bool.not_true,Bool.not_false,not_b,afterS_enter,call_fn en36,call_fn en37,call_fn en38,call_fn en67,call_fn en56,sub_i64,build24,allocOf_bs,ab62,mkAV_one,opCall_app,opBuiltin,opCall_len,bi_len27,len27c,valEq_cn,valEq_row,valEq_clv hrs hss,ab27,mkAV_slc,dSlice,build7,build8,call_fn en7,call_fn en8,call_fn en9,call_fn en10,call_fn en11,dstep_r2,Option.map_none,Option.map_some,List.take_zero,bA,hk,aI,a1,sI,fa29a,fa29b,fa29c,fa29d,fa32,bDraw_res hp1 (show h.next + 2 + 10 ≤ lim by omega),r1,hset,ap0,c27a,c27b,c27c,bl1,bl3,cut,s4,bDraw_list hp2 hg4,i1,p1,c29a,c29b,q1,bl5,bl6,ne,c29c,i29c,s1,i27,hadd1,hadd2,up,ia0,ia1,l7,l8,e77,e88,t0] at hr
  subst hr
  exact ⟨_,_,rfl,by simp [get_put,lim]⟩
end Go.Proofs.YtaclddcneogolaaGreatDoor

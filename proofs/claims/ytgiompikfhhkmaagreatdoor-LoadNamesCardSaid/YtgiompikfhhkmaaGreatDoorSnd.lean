/- The oracles answer rightly, level by level; the whole call. -/
import Derived.Test.YtgiompikfhhkmaaGreatDoorBq
import Derived.Test.YtgiompikfhhkmaaGreatDoorMem
import Derived.Test.YtgiompikfhhkmaaGreatDoorDrwB
import Derived.Test.YtgiompikfhhkmaaGreatDoorMany
set_option linter.unusedVariables false
set_option linter.unusedSimpArgs false
namespace Go.Sim
theorem memoTab_ok {E : Env} {f : FuncId} : ∀ {ms : List Memo},(∀ m ∈ ms,OrcOK E f (memoO m)) → OrcOK E f (memoTab ms)
  | [],_ => by intro args h v h' hok; simp [memoTab] at hok
  | m :: r,hm => by
    intro args h v h' hok
    unfold memoTab at hok
    cases hb : Nat.beq h.next m.next with
    | true => rw [hb,cond_true] at hok; exact hm m (by simp) args h v h' hok
    | false => rw [hb,cond_false] at hok; exact memoTab_ok (fun m' hm' => hm m' (by simp [hm'])) args h v h' hok
end Go.Sim
namespace Go.Proofs.YtgiompikfhhkmaaGreatDoor
open Go Go.Sim
set_option maxRecDepth 100000
abbrev OT := Nat → Option (List Value → SHeap → Except String (Value × SHeap))
def AllOK (O : OT) : Prop := ∀ f g,(Eo O).O f = some g → OrcOK (Eo O) f g

theorem drawOK (O : OT) : DrawOK (Eo O) := bDraw_ok (envOK O) (show Tryz.prog.follows .mixedOrders = true from mixed)
theorem orc_to {O O' : OT} {f : FuncId} {g : List Value → SHeap → Except String (Value × SHeap)} (k : OrcOK (Eo O) f g) : OrcOK (Eo O') f g := orc_env (E := Eo O) (E' := Eo O') rfl rfl rfl k
theorem kok (O : OT) (h : AllOK O) (n : Nat) : KOK (Eo O) (run (Eo O) n) := run_ok (envOK O) (drawOK O) h n
theorem memo_lift {O O' : OT} (h : AllOK O) {n : Nat} {m : Memo} (hr : memoRun (run (Eo O) n) m = true) : OrcOK (Eo O') m.f (memoO m) := orc_to (memo_ok (kok O h n) hr)

theorem memoN_lift {O O' : OT} (h : AllOK O) {n : Nat} {m : Memo} (hr : memoRunN (Eo O) (run (Eo O) n) m = true) : OrcOK (Eo O') m.f (memoO m) := orc_to (memoN_ok (envOK O) (drawOK O) (kok O h n) hr)

/-- a table with one function more -/
theorem allOK_more {O : OT} (h : AllOK O) {f0 : Nat} {g0 : List Value → SHeap → Except String (Value × SHeap)} {O' : OT} (hO : ∀ f,O' f = bif Nat.beq f f0 then some g0 else O f) (hg : OrcOK (Eo O) f0 g0) : AllOK O' := by
  intro f g hf
  have hf : O' f = some g := hf
  rw [hO] at hf
  cases e : Nat.beq f f0 with
  | true =>
    rw [e,cond_true] at hf
    obtain rfl := Option.some.inj hf
    obtain rfl := Nat.eq_of_beq_eq_true e
    exact orc_to hg
  | false => rw [e,cond_false] at hf; exact orc_to (h f g hf)

theorem ok0 : AllOK O0 := by intro f g h; cases h
theorem ok1 : AllOK O1 := by
  have a : AllOK (fun f => bif Nat.beq f 218 then some consQ else O0 f) := allOK_more ok0 (fun _ => rfl) (cons_ok (envOK O0) (drawOK O0) ok0 rfl)
  have b := allOK_more (O' := fun f => bif Nat.beq f 149 then some withinQ else bif Nat.beq f 218 then some consQ else O0 f) a (fun _ => rfl) (orc_to (within_ok (envOK O0) (drawOK O0) ok0 rfl))
  have c := allOK_more (O' := fun f => bif Nat.beq f 199 then some (pureO [] (.agg topL.toArray)) else bif Nat.beq f 149 then some withinQ else bif Nat.beq f 218 then some consQ else O0 f) b (fun _ => rfl) (orc_to (top_ok (envOK O0) (drawOK O0) ok0 rfl))
  have d := allOK_more (O' := fun f => bif Nat.beq f 310 then some (zpQ 313) else bif Nat.beq f 199 then some (pureO [] (.agg topL.toArray)) else bif Nat.beq f 149 then some withinQ else bif Nat.beq f 218 then some consQ else O0 f) c (fun _ => rfl) (orc_to (put_ok (envOK O0) (drawOK O0) ok0 rfl rfl rfl rfl rfl rfl))
  have e := allOK_more (O' := fun f => bif Nat.beq f 203 then some sumQ else bif Nat.beq f 310 then some (zpQ 313) else bif Nat.beq f 199 then some (pureO [] (.agg topL.toArray)) else bif Nat.beq f 149 then some withinQ else bif Nat.beq f 218 then some consQ else O0 f) d (fun _ => rfl) (orc_to (sum_ok (envOK O0) (drawOK O0) ok0 rfl))
  have f := allOK_more (O' := fun f => bif Nat.beq f 306 then some lessQ else bif Nat.beq f 203 then some sumQ else bif Nat.beq f 310 then some (zpQ 313) else bif Nat.beq f 199 then some (pureO [] (.agg topL.toArray)) else bif Nat.beq f 149 then some withinQ else bif Nat.beq f 218 then some consQ else O0 f) e (fun _ => rfl) (orc_to (lesser_ok (envOK O0) (drawOK O0) ok0 rfl))
  have g := allOK_more (O' := fun f => bif Nat.beq f 307 then some plusQ else bif Nat.beq f 306 then some lessQ else bif Nat.beq f 203 then some sumQ else bif Nat.beq f 310 then some (zpQ 313) else bif Nat.beq f 199 then some (pureO [] (.agg topL.toArray)) else bif Nat.beq f 149 then some withinQ else bif Nat.beq f 218 then some consQ else O0 f) f (fun _ => rfl) (orc_to (plus_ok (envOK O0) (drawOK O0) ok0 rfl))
  exact allOK_more g (fun _ => rfl) (orc_to (bound_ok (envOK O0) (drawOK O0) ok0 rfl rfl))
end Go.Proofs.YtgiompikfhhkmaaGreatDoor

/- The simulator's tables over this program. -/
import Derived.Test.YtepgoadcigfnoaaGreatEnvA
set_option linter.unusedVariables false
set_option linter.unusedSimpArgs false
namespace Go.Proofs.YtepgoadcigfnoaaGreat
open Go Go.Sim
set_option maxRecDepth 100000

noncomputable def Eo (O : Nat → Option (List Value → SHeap → Except String (Value × SHeap))) : Env :=
  { P := Tryz.prog,T := Tab.types.get,F := Tab.funcs.get,X := fun _ => none,O,lies := fun _ _ _ _ => false,eqT := fun _ => none,bytesLie := fun _ _ => false,G := 2 }

theorem envOK (O : Nat → Option (List Value → SHeap → Except String (Value × SHeap))) : EnvOK (Eo O) where
  type := fun t ti h => by
    have h : (Tr.ofL 33 Tab.typeList).get t = some ti := by rw [← types_eq]; exact h
    have := tyAll.get t ti (ofL_get h)
    rw [Nat.zero_add] at this
    exact this
  func := fun f fn h => by
    have h : (Tr.ofL 33 Tab.funcList).get f = some fn := by rw [← funcs_eq]; exact h
    have := fnAll.get f fn (ofL_get h)
    rw [Nat.zero_add] at this
    exact this.1
  call := fun f fn h => by
    have h : (Tr.ofL 33 Tab.funcList).get f = some fn := by rw [← funcs_eq]; exact h
    have := fnAll.get f fn (ofL_get h)
    rw [Nat.zero_add] at this
    exact this.2
  same := fun f h x w => by cases h
  makeNoZero := fun f e h => by cases h
  lies := fun e n o u h => by cases h
  eqT := fun t ks h => by cases h
  bytesLie := fun e u h => by cases h

theorem mixed : Tryz.prog.follows .mixedOrders = true := by kernel_rfl

end Go.Proofs.YtepgoadcigfnoaaGreat

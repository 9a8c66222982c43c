/- The simulator's tables over this program. -/
import Derived.Test.YtaclddcneogolaaGreatDoorEnvA
import Derived.Lib.MakeNoZero
import Derived.Lib.Builder
set_option linter.unusedVariables false
set_option linter.unusedSimpArgs false
namespace Go.Proofs.YtaclddcneogolaaGreatDoor
open Go Go.Sim
set_option maxRecDepth 100000

def ext (f : Nat) : Option Ext := bif Nat.beq f 114 then some .same else bif Nat.beq f 224 then some (.makeNoZero 5) else none
noncomputable def Eo (O : Nat → Option (List Value → SHeap → Except String (Value × SHeap))) : Env :=
  { P := Tryz.prog,T := Tab.types.get,F := Tab.funcs.get,X := ext,O,lies := fun e n o u => Nat.beq e 84 && Nat.beq n 2 && Nat.beq o 0 && Nat.beq u 84,eqT := fun _ => none,bytesLie := fun e u => Nat.beq e 5 && Nat.beq u 5,G := 2 }

theorem ext_same {f : Nat} (h : ext f = some .same) : f = 114 := by
  unfold ext at h
  cases h1 : Nat.beq f 114 with
  | true => rw [beq_decide,decide_eq_true_eq] at h1; exact h1
  | false =>
    rw [h1,cond_false] at h
    cases h2 : Nat.beq f 224 with
    | true => rw [h2] at h; simp at h
    | false => rw [h2] at h; simp at h
theorem ext_make {f e : Nat} (h : ext f = some (.makeNoZero e)) : f = 224 ∧ e = 5 := by
  unfold ext at h
  cases h1 : Nat.beq f 114 with
  | true => rw [h1] at h; simp at h
  | false =>
    rw [h1,cond_false] at h
    cases h2 : Nat.beq f 224 with
    | true =>
      rw [h2,cond_true] at h
      rw [beq_decide,decide_eq_true_eq] at h2
      simp only [Option.some.injEq,Ext.makeNoZero.injEq] at h
      exact ⟨h2,h.symm⟩
    | false => rw [h2] at h; simp at h

theorem call_extern {P : Program} {f : FuncId} {fn : Func} (hf : P.funcs[f]? = some fn) (hname : (fn.name == "runtime.NumGoroutine") = false) (hb : fn.body.isNone = true) (hn : (Extern.findNext fn).isNone = true) {e : Array Value → Sem Value} (he : Extern.find fn = some e) (args : Array Value) (w : World) {v : Value} {w' : World}
    (hr : (e args).run P w = .ok v w') : (callFunc f args).run P w = .ok (.value v) w' := by
  have hn' : Extern.findNext fn = none := by simpa using hn
  unfold callFunc
  simp [hf,hn',he,hr]
  have h1 : fn.name ≠ "runtime.NumGoroutine" := by simpa using hname
  have h2 : fn.body = none := by simpa using hb
  rw [if_neg h1,if_pos h2]

theorem envOK (O : Nat → Option (List Value → SHeap → Except String (Value × SHeap))) : EnvOK (Eo O) where
  type := fun t ti h => by
    have h : (Tr.ofL 33 Tab.typeList).get t = some ti := by rw [← types_eq]; exact h
    have := tyAll.get t ti (ofL_get h)
    rw [Nat.zero_add] at this
    exact this
  func := fun f fn h => by
    have h : (Tr.ofL 33 Tab.funcList).get f = some fn := by rw [← funcs_eq]; exact h
    have := fnAll.get f fn (ofL_get h)
    rw [Nat.zero_add] at this
    exact this.1
  call := fun f fn h => by
    have h : (Tr.ofL 33 Tab.funcList).get f = some fn := by rw [← funcs_eq]; exact h
    have := fnAll.get f fn (ofL_get h)
    rw [Nat.zero_add] at this
    exact this.2
  same := fun f h x w => by
    obtain rfl := ext_same h
    exact call_extern Tryz.func114 (by kernel_rfl) (by kernel_rfl) (by kernel_rfl) (show Extern.find Tryz.f114 = some Extern.AbiNoEscape.same by kernel_rfl) _ w rfl
  makeNoZero := fun f e h => by
    obtain ⟨rfl,rfl⟩ := ext_make h
    refine ⟨⟨Tab.t5,by kernel_rfl,by kernel_rfl⟩,fun n w hn => ?_⟩
    obtain ⟨cs,h1,h2,_⟩ := Lib.run_makeNoZero (P := Tryz.prog) w Tryz.f224.params (Tryz.f224.resultTypes.getD 0 0) 5 (by kernel_rfl) n (by omega)
    refine ⟨cs.size,cs,h2,rfl,?_⟩
    exact call_extern Tryz.func224 (by kernel_rfl) (by kernel_rfl) (by kernel_rfl) (show Extern.find Tryz.f224 = some (Extern.BytealgMakeNoZero.makeNoZero Tryz.f224.params #[Tryz.f224.resultTypes.getD 0 0]) by kernel_rfl) _ w h1
  lies := fun e n o u h => by
    simp only [Eo,Bool.and_eq_true,beq_decide,decide_eq_true_eq] at h
    obtain ⟨⟨⟨rfl,rfl⟩,rfl⟩,rfl⟩ := h
    exact ⟨by kernel_rfl,by kernel_rfl⟩
  eqT := fun t ks h => by cases h
  bytesLie := fun e u h => by
    simp only [Eo,Bool.and_eq_true,beq_decide,decide_eq_true_eq] at h
    obtain ⟨rfl,rfl⟩ := h
    exact ⟨by kernel_rfl,by kernel_rfl⟩

theorem mixed : Tryz.prog.follows .mixedOrders = true := by kernel_rfl

end Go.Proofs.YtaclddcneogolaaGreatDoor

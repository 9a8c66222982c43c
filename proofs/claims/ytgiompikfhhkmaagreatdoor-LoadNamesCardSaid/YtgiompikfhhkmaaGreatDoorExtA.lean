/- The functions outside the program that LoadNames comes to. Values that lead to the types' block alone are themselves under every renaming. reflectlite.ValueOf, under the relation. reflectlite.Value.IsNil, Value.Elem, under the relation. reflectlite.Value.Set, under the relation. The methods that LoadNames calls through interfaces, the interfaces it asks for, the pointers it compares. -/
import Derived.Test.YtgiompikfhhkmaaGreatDoorEnvA
import Derived.Test.YtgiompikfhhkmaaGreatDoorOpsA
set_option linter.unusedVariables false
set_option linter.unusedSimpArgs false
namespace Go.Proofs.YtgiompikfhhkmaaGreatDoor
open Go Go.Sim
set_option maxRecDepth 100000

theorem call_extern {P : Program} {f : FuncId} {fn : Func} (hf : P.funcs[f]? = some fn) (hname : (fn.name == "runtime.NumGoroutine") = false) (hb : fn.body.isNone = true) (hn : (Extern.findNext fn).isNone = true) {e : Array Value → Sem Value} (he : Extern.find fn = some e) (args : Array Value) (w : World) {v : Value} {w' : World}
    (hr : (e args).run P w = .ok v w') : (callFunc f args).run P w = .ok (.value v) w' := by
  have hn' : Extern.findNext fn = none := by simpa using hn
  unfold callFunc
  simp [hf,hn',he,hr]
  have h1 : fn.name ≠ "runtime.NumGoroutine" := by simpa using hname
  have h2 : fn.body = none := by simpa using hb
  rw [if_neg h1,if_pos h2]
theorem cut_rtype (w : World) : (cutType "internal/reflectlite.rtype").run Tryz.prog w = .ok 69 w := by kernel_rfl
theorem handle_run (t : TypeId) (w : World) : (Extern.Rtype.handle t).run Tryz.prog w = .ok (.pointer (some ⟨9,t,none⟩)) w := by kernel_rfl
theorem toType_run (t : TypeId) (w : World) : (Extern.ReflectliteType.toType t).run Tryz.prog w = .ok (.iface 69 (.agg #[.pointer (some ⟨9,t,none⟩)])) w := by
  unfold Extern.ReflectliteType.toType
  rw [Sem.run_bind,cut_rtype]
  simp only [Result.andThen_ok]
  rw [Sem.run_bind,handle_run]
  rfl
theorem typeOf_run (t : TypeId) (x : Value) (w : World) : (callFunc 10 #[.iface t x]).run Tryz.prog w = .ok (.value (.iface 69 (.agg #[.pointer (some ⟨9,t,none⟩)]))) w :=
  call_extern Tryz.func10 (by kernel_rfl) (by kernel_rfl) (by kernel_rfl) (show Extern.find Tryz.f10 = some Extern.ReflectliteType.typeOf by kernel_rfl) _ w (toType_run t w)

theorem comparable_450 (w : World) : (callFunc 335 #[.agg #[.pointer (some ⟨9,450,none⟩)]]).run Tryz.prog w = .ok (.value (.bool true)) w :=
  call_extern Tryz.func335 (by kernel_rfl) (by kernel_rfl) (by kernel_rfl) (show Extern.find Tryz.f335 = some (Extern.ReflectliteType.method fun t => do Extern.Rtype.noPackHeld "Comparable" t; pure (.bool (← typeInfo t).comparable)) by kernel_rfl) _ w (by kernel_rfl)
theorem comparable_29 (w : World) : (callFunc 335 #[.agg #[.pointer (some ⟨9,29,none⟩)]]).run Tryz.prog w = .ok (.value (.bool true)) w :=
  call_extern Tryz.func335 (by kernel_rfl) (by kernel_rfl) (by kernel_rfl) (show Extern.find Tryz.f335 = some (Extern.ReflectliteType.method fun t => do Extern.Rtype.noPackHeld "Comparable" t; pure (.bool (← typeInfo t).comparable)) by kernel_rfl) _ w (by kernel_rfl)
theorem rtelem_46 (w : World) : (callFunc 336 #[.agg #[.pointer (some ⟨9,46,none⟩)]]).run Tryz.prog w = .ok (.value (.iface 69 (.agg #[.pointer (some ⟨9,44,none⟩)]))) w :=
  call_extern Tryz.func336 (by kernel_rfl) (by kernel_rfl) (by kernel_rfl) (show Extern.find Tryz.f336 = some (Extern.ReflectliteType.method Extern.ReflectliteType.elem) by kernel_rfl) _ w (by kernel_rfl)
theorem implements_44 (w : World) : (callFunc 337 #[.agg #[.pointer (some ⟨9,44,none⟩)],.iface 69 (.agg #[.pointer (some ⟨9,25,none⟩)])]).run Tryz.prog w = .ok (.value (.bool true)) w :=
  call_extern Tryz.func337 (by kernel_rfl) (by kernel_rfl) (by kernel_rfl) (show Extern.find Tryz.f337 = some (Extern.ReflectliteType.relation "Implements" Extern.ReflectliteType.implements_) by kernel_rfl) _ w (by kernel_rfl)
theorem assignable_44 (w : World) : (callFunc 334 #[.agg #[.pointer (some ⟨9,44,none⟩)],.iface 69 (.agg #[.pointer (some ⟨9,44,none⟩)])]).run Tryz.prog w = .ok (.value (.bool true)) w :=
  call_extern Tryz.func334 (by kernel_rfl) (by kernel_rfl) (by kernel_rfl) (show Extern.find Tryz.f334 = some (Extern.ReflectliteType.relation "AssignableTo" Extern.ReflectliteType.assignableTo) by kernel_rfl) _ w (by kernel_rfl)
theorem kind_44 (w : World) : (callFunc 327 #[.pointer (some ⟨9,44,none⟩)]).run Tryz.prog w = .ok (.value (.int .u8 22)) w :=
  call_extern Tryz.func327 (by kernel_rfl) (by kernel_rfl) (by kernel_rfl) (show Extern.find Tryz.f327 = some (Extern.ReflectliteType.abiMethod fun t => do pure (.int .u8 (← Extern.Rtype.kind t))) by kernel_rfl) _ w (by kernel_rfl)
theorem kind_46 (w : World) : (callFunc 327 #[.pointer (some ⟨9,46,none⟩)]).run Tryz.prog w = .ok (.value (.int .u8 22)) w :=
  call_extern Tryz.func327 (by kernel_rfl) (by kernel_rfl) (by kernel_rfl) (show Extern.find Tryz.f327 = some (Extern.ReflectliteType.abiMethod fun t => do pure (.int .u8 (← Extern.Rtype.kind t))) by kernel_rfl) _ w (by kernel_rfl)
theorem vtype_46 (a : Addr) (w : World) : (callFunc 26 #[.agg #[.pointer (some ⟨9,46,none⟩),.pointer (some a),.int .u64 150]]).run Tryz.prog w = .ok (.value (.iface 69 (.agg #[.pointer (some ⟨9,46,none⟩)]))) w :=
  call_extern Tryz.func26 (by kernel_rfl) (by kernel_rfl) (by kernel_rfl) (show Extern.find Tryz.f26 = some (Extern.ReflectliteValue.methodAny (Extern.ReflectliteValue.valueError "reflectlite.Value.Type" 0) fun t _ _ _ => Extern.ReflectliteType.toType t) by kernel_rfl) _ w (by kernel_rfl)

end Go.Proofs.YtgiompikfhhkmaaGreatDoor

namespace Go.Proofs.YtgiompikfhhkmaaGreatDoor
open Go Go.Sim
set_option maxRecDepth 100000

/-- a type's handle -/
abbrev hdl (t : Nat) : Value := .pointer (some ⟨9,t,none⟩)
abbrev rty (t : Nat) : Value := .agg #[hdl t]
variable {ρ : Ren} {κ : Nat}
theorem hdl_in (g : ρ 9 = some (9,κ)) (t : Nat) : VRel ρ (hdl t) (hdl t) := .ptr g
theorem hdl_eq (g : ρ 9 = some (9,κ)) {t : Nat} {w : Value} (k : VRel ρ (hdl t) w) : w = hdl t := by
  cases k with
  | ptr h =>
    rw [g] at h
    cases h
    rfl
theorem rty_in (g : ρ 9 = some (9,κ)) (t : Nat) : VRel ρ (rty t) (rty t) := by
  refine .agg rfl fun i v w h1 h2 => ?_
  rw [h1] at h2
  obtain rfl := Option.some.inj h2
  cases i with
  | zero => obtain rfl := Option.some.inj h1; exact hdl_in g t
  | succ i => simp at h1
theorem rty_eq (g : ρ 9 = some (9,κ)) {t : Nat} {w : Value} (k : VRel ρ (rty t) w) : w = rty t := by
  cases k with
  | agg hl hg =>
    rename_i c
    obtain ⟨l⟩ := c
    have hl : 1 = l.length := hl
    obtain ⟨x,rfl⟩ := List.length_eq_one_iff.mp hl.symm
    have := hdl_eq g (hg 0 _ x rfl rfl)
    rw [this]
theorem ity_in (g : ρ 9 = some (9,κ)) (u t : Nat) : VRel ρ (.iface u (rty t)) (.iface u (rty t)) := .iface (rty_in g t)
theorem ity_eq (g : ρ 9 = some (9,κ)) {u t : Nat} {w : Value} (k : VRel ρ (.iface u (rty t)) w) : w = .iface u (rty t) := by
  cases k with
  | iface h => rw [rty_eq g h]
theorem lrel_1 {a : Value} {m : List Value} (k : LRel ρ [a] m) : ∃ x,m = [x] ∧ VRel ρ a x := by
  have hl : 1 = m.length := k.len
  obtain ⟨x,rfl⟩ := List.length_eq_one_iff.mp hl.symm
  exact ⟨x,rfl,k.get 0 _ _ rfl rfl⟩
theorem lrel_2 {a b : Value} {m : List Value} (k : LRel ρ [a,b] m) : ∃ x y,m = [x,y] ∧ VRel ρ a x ∧ VRel ρ b y := by
  have hl : 2 = m.length := k.len
  match m,hl with
  | [x,y],_ => exact ⟨x,y,rfl,k.get 0 _ _ rfl rfl,k.get 1 _ _ rfl rfl⟩

/-- what EnvOK.outer asks of one call -/
def OutAt (E : Env) (f : Nat) (args : List Value) (h : SHeap) (v : Value) (h' : SHeap) : Prop := ∀ (rargs : Array Value) (ρ : Ren) (w : World),WRel E ρ h w → LRel ρ args rargs.toList →
    ∃ ρ' w' u,VRel ρ' v u ∧ WRel E ρ' h' w' ∧ Stp ρ h w ρ' h' w' ∧ (callFunc f rargs).run E.P w = .ok (.value u) w'
theorem out1 {E : Env} (hG : E.G = 10) (hP : E.P = Tryz.prog) {f : Nat} {a v : Value} {h : SHeap} (ha : ∀ (ρ : Ren) (κ : Nat) (w : Value),ρ 9 = some (9,κ) → VRel ρ a w → w = a) (hv : ∀ (ρ : Ren) (κ : Nat),ρ 9 = some (9,κ) → VRel ρ v v)
    (hr : ∀ w,(callFunc f #[a]).run Tryz.prog w = .ok (.value v) w) : OutAt E f [a] h v h := by
  intro rargs ρ w hw hl
  obtain ⟨κ,g⟩ := hw.glob 9 (by rw [hG]; omega)
  obtain ⟨l⟩ := rargs
  obtain ⟨x,e,hx⟩ := lrel_1 hl
  have e : l = [x] := e
  subst e
  rw [ha ρ κ x g hx]
  exact ⟨ρ,w,v,hv ρ κ g,hw,Stp.refl _ _ _,by rw [hP]; exact hr w⟩
theorem out2 {E : Env} (hG : E.G = 10) (hP : E.P = Tryz.prog) {f : Nat} {a b v : Value} {h : SHeap} (ha : ∀ (ρ : Ren) (κ : Nat) (w : Value),ρ 9 = some (9,κ) → VRel ρ a w → w = a) (hb : ∀ (ρ : Ren) (κ : Nat) (w : Value),ρ 9 = some (9,κ) → VRel ρ b w → w = b) (hv : ∀ (ρ : Ren) (κ : Nat),ρ 9 = some (9,κ) → VRel ρ v v)
    (hr : ∀ w,(callFunc f #[a,b]).run Tryz.prog w = .ok (.value v) w) : OutAt E f [a,b] h v h := by
  intro rargs ρ w hw hl
  obtain ⟨κ,g⟩ := hw.glob 9 (by rw [hG]; omega)
  obtain ⟨l⟩ := rargs
  obtain ⟨x,y,e,hx,hy⟩ := lrel_2 hl
  have e : l = [x,y] := e
  subst e
  rw [ha ρ κ x g hx,hb ρ κ y g hy]
  exact ⟨ρ,w,v,hv ρ κ g,hw,Stp.refl _ _ _,by rw [hP]; exact hr w⟩
section
variable {E : Env} {h : SHeap}
theorem out_typeOf (hG : E.G = 10) (hP : E.P = Tryz.prog) (t : Nat) (x : Value) : OutAt E 10 [.iface t x] h (.iface 69 (rty t)) h := by
  intro rargs ρ w hw hl
  obtain ⟨κ,g⟩ := hw.glob 9 (by rw [hG]; omega)
  obtain ⟨l⟩ := rargs
  obtain ⟨y,e,hy⟩ := lrel_1 hl
  have e : l = [y] := e
  subst e
  cases hy with
  | iface hx => exact ⟨ρ,w,_,ity_in g 69 t,hw,Stp.refl _ _ _,by rw [hP]; exact typeOf_run t _ w⟩
theorem out_comparable (hG : E.G = 10) (hP : E.P = Tryz.prog) {t : Nat} (ht : t = 450 ∨ t = 29) : OutAt E 335 [rty t] h (.bool true) h :=
  out1 hG hP (fun ρ κ w g k => rty_eq g k) (fun ρ κ g => .bool true) (by rcases ht with rfl | rfl; exact comparable_450; exact comparable_29)
theorem out_elem (hG : E.G = 10) (hP : E.P = Tryz.prog) : OutAt E 336 [rty 46] h (.iface 69 (rty 44)) h :=
  out1 hG hP (fun ρ κ w g k => rty_eq g k) (fun ρ κ g => ity_in g 69 44) rtelem_46
theorem out_kind (hG : E.G = 10) (hP : E.P = Tryz.prog) {t : Nat} (ht : t = 44 ∨ t = 46) : OutAt E 327 [hdl t] h (.int .u8 22) h :=
  out1 hG hP (fun ρ κ w g k => hdl_eq g k) (fun ρ κ g => .int .u8 22) (by rcases ht with rfl | rfl; exact kind_44; exact kind_46)
theorem out_implements (hG : E.G = 10) (hP : E.P = Tryz.prog) : OutAt E 337 [rty 44,.iface 69 (rty 25)] h (.bool true) h :=
  out2 hG hP (fun ρ κ w g k => rty_eq g k) (fun ρ κ w g k => ity_eq g k) (fun ρ κ g => .bool true) implements_44
theorem out_assignable (hG : E.G = 10) (hP : E.P = Tryz.prog) : OutAt E 334 [rty 44,.iface 69 (rty 44)] h (.bool true) h :=
  out2 hG hP (fun ρ κ w g k => rty_eq g k) (fun ρ κ w g k => ity_eq g k) (fun ρ κ g => .bool true) assignable_44
theorem agg3 {a b c : Value} {w : Value} (k : VRel ρ (.agg #[a,b,c]) w) : ∃ x y z,w = .agg #[x,y,z] ∧ VRel ρ a x ∧ VRel ρ b y ∧ VRel ρ c z := by
  cases k with
  | agg hl hg =>
    rename_i d
    obtain ⟨l⟩ := d
    have hl : 3 = l.length := hl
    match l,hl,hg with
    | [x,y,z],_,hg => exact ⟨x,y,z,rfl,hg 0 _ _ rfl rfl,hg 1 _ _ rfl rfl,hg 2 _ _ rfl rfl⟩
theorem val_eq {κ : Nat} (g : ρ 9 = some (9,κ)) {t b o : Nat} {n : Int} {w : Value} (k : VRel ρ (.agg #[hdl t,.pointer (some ⟨b,o,none⟩),.int .u64 n]) w) : ∃ r κ',ρ b = some (r,κ') ∧ w = .agg #[hdl t,.pointer (some ⟨r,o,none⟩),.int .u64 n] := by
  obtain ⟨x,y,z,rfl,hx,hy,hz⟩ := agg3 k
  rw [hdl_eq g hx]
  cases hy with
  | ptr h => cases hz with
    | int => exact ⟨_,_,h,rfl⟩
theorem out_vtype (hG : E.G = 10) (hP : E.P = Tryz.prog) {b o : Nat} : OutAt E 26 [.agg #[hdl 46,.pointer (some ⟨b,o,none⟩),.int .u64 150]] h (.iface 69 (rty 46)) h := by
  intro rargs ρ w hw hl
  obtain ⟨κ,g⟩ := hw.glob 9 (by rw [hG]; omega)
  obtain ⟨l⟩ := rargs
  obtain ⟨y,e,hy⟩ := lrel_1 hl
  have e : l = [y] := e
  subst e
  obtain ⟨r,κ',hr,rfl⟩ := val_eq g hy
  exact ⟨ρ,w,_,ity_in g 69 46,hw,Stp.refl _ _ _,by rw [hP]; exact vtype_46 _ w⟩
end

end Go.Proofs.YtgiompikfhhkmaaGreatDoor

namespace Go.Proofs.YtgiompikfhhkmaaGreatDoor
open Go Go.Sim
set_option maxRecDepth 100000

theorem kind44 (w : World) : (Extern.Rtype.kind 44).run Tryz.prog w = .ok 22 w := by kernel_rfl
theorem kind46 (w : World) : (Extern.Rtype.kind 46).run Tryz.prog w = .ok 22 w := by kernel_rfl
theorem mk_run {t : Nat} (ht : t = 44 ∨ t = 46) (a : Addr) (w : World) : (Extern.ReflectliteValue.mk t a 0).run Tryz.prog w = .ok (.agg #[hdl t,.pointer (some a),.int .u64 150]) w := by
  unfold Extern.ReflectliteValue.mk
  rw [Sem.run_bind,handle_run]
  simp only [Result.andThen_ok]
  rw [Sem.run_bind]
  rcases ht with rfl | rfl
  · rw [kind44]; rfl
  · rw [kind46]; rfl
theorem valueOf_run {t : Nat} (ht : t = 44 ∨ t = 46) (x : Value) (w : World) : (callFunc 25 #[.iface t x]).run Tryz.prog w = .ok (.value (.agg #[hdl t,.pointer (some ⟨w.heap.size,0,none⟩),.int .u64 150])) { w with heap := w.heap.push (.cells x.cells t),drawn := w.drawn } := by
  refine call_extern Tryz.func25 (by kernel_rfl) (by kernel_rfl) (by kernel_rfl) (show Extern.find Tryz.f25 = some (fun args => Extern.ReflectliteValue.unpack (args.getD 0 (.tuple #[]))) by kernel_rfl) _ w ?_
  show (Extern.ReflectliteValue.unpack (.iface t x)).run Tryz.prog w = _
  unfold Extern.ReflectliteValue.unpack
  have h1 : (newVar t x).run Tryz.prog w = .ok ⟨w.heap.size,0,none⟩ { w with heap := w.heap.push (.cells x.cells t),drawn := w.drawn } := by simp [newVar,newRow]
  simp only
  rw [Sem.run_bind,h1]
  simp only [Result.andThen_ok]
  exact mk_run ht _ _
theorem out_valueOf {E : Env} {h : SHeap} (hG : E.G = 10) (hP : E.P = Tryz.prog) {t : Nat} (ht : t = 44 ∨ t = 46) {v : Value} : OutAt E 25 [.iface t v] h (.agg #[hdl t,.pointer (some ⟨h.next,0,none⟩),.int .u64 150]) (newCells h t v.cells.toList false) := by
  intro rargs ρ w hw hl
  obtain ⟨l⟩ := rargs
  obtain ⟨y,e,hy⟩ := lrel_1 hl
  have e : l = [y] := e
  subst e
  cases hy with
  | iface hx =>
    rename_i u
    have hc := hx.cells
    obtain ⟨h1,h2⟩ := new_cells hw v.cells.toList u.cells t false 0 w.drawn (by have := hc.len; simp at this; simp; omega) (fun _ => by have := hc.len; simp at this; simp; omega) (fun e => by simp at e)
      (fun i u hu => let ⟨a,ha,hr⟩ := hc.some hu; ⟨a,by rw [← Array.getElem?_toList]; exact ha,hr⟩)
    obtain ⟨κ,g⟩ := h1.glob 9 (by rw [hG]; omega)
    refine ⟨_,_,_,?_,h1,h2,by rw [hP]; exact valueOf_run ht u w⟩
    refine .agg rfl fun i a b ha hb => ?_
    match i,ha,hb with
    | 0,ha,hb =>
      obtain rfl := Option.some.inj ha
      obtain rfl := Option.some.inj hb
      exact hdl_in g t
    | 1,ha,hb =>
      obtain rfl := Option.some.inj ha
      obtain rfl := Option.some.inj hb
      exact newPtr _ _
    | 2,ha,hb =>
      obtain rfl := Option.some.inj ha
      obtain rfl := Option.some.inj hb
      exact .int _ _
    | i + 3,ha,_ => simp at ha

end Go.Proofs.YtgiompikfhhkmaaGreatDoor

namespace Go.Proofs.YtgiompikfhhkmaaGreatDoor
open Go Go.Sim
set_option maxRecDepth 100000

theorem isNil_step (a : Addr) (w : World) : (Extern.ReflectliteValue.method (Extern.ReflectliteValue.valueError "reflectlite.Value.IsNil" 0) Extern.ReflectliteValue.isNil #[.agg #[hdl 46,.pointer (some a),.int .u64 150]]).run Tryz.prog w = (Extern.ReflectliteValue.isNil 46 a 150 22).run Tryz.prog w := by kernel_rfl
theorem isNil_run {a : Addr} {q : Addr} {w : World} (hl : (loadVar 46 a).run Tryz.prog w = .ok (.pointer (some q)) w) : (callFunc 27 #[.agg #[hdl 46,.pointer (some a),.int .u64 150]]).run Tryz.prog w = .ok (.value (.bool false)) w := by
  refine call_extern Tryz.func27 (by kernel_rfl) (by kernel_rfl) (by kernel_rfl) (show Extern.find Tryz.f27 = some (Extern.ReflectliteValue.method (Extern.ReflectliteValue.valueError "reflectlite.Value.IsNil" 0) Extern.ReflectliteValue.isNil) by kernel_rfl) _ w ?_
  rw [isNil_step]
  unfold Extern.ReflectliteValue.isNil
  simp [hl]
theorem out_isNil {E : Env} (K : EnvOK E) {h : SHeap} (hG : E.G = 10) (hP : E.P = Tryz.prog) {b o : Nat} {q : Addr} (hl : loadAt E h 46 ⟨b,o,none⟩ = .ok (.pointer (some q))) : OutAt E 27 [.agg #[hdl 46,.pointer (some ⟨b,o,none⟩),.int .u64 150]] h (.bool false) h := by
  intro rargs ρ w hw hr
  obtain ⟨κ,g⟩ := hw.glob 9 (by rw [hG]; omega)
  obtain ⟨l⟩ := rargs
  obtain ⟨y,e,hy⟩ := lrel_1 hr
  have e : l = [y] := e
  subst e
  obtain ⟨r,κ',hb,rfl⟩ := val_eq g hy
  obtain ⟨u,hu,hrun⟩ := loadAt_ok K hw hl hb
  cases hu with
  | ptr hq => exact ⟨ρ,w,_,.bool false,hw,Stp.refl _ _ _,by rw [hP] at hrun ⊢; exact isNil_run hrun⟩
theorem elem_step (a : Addr) (w : World) : (Extern.ReflectliteValue.method (Extern.ReflectliteValue.valueError "reflectlite.Value.Elem" 0) Extern.ReflectliteValue.elem #[.agg #[hdl 46,.pointer (some a),.int .u64 150]]).run Tryz.prog w = (Extern.ReflectliteValue.elem 46 a 150 22).run Tryz.prog w := by kernel_rfl
theorem elemq (w : World) : (Extern.Rtype.elem? 46).run Tryz.prog w = .ok (some 44) w := by kernel_rfl
theorem mk44 (a : Addr) (w : World) : (Extern.ReflectliteValue.mk 44 a Extern.ReflectliteValue.flagAddr).run Tryz.prog w = .ok (.agg #[hdl 44,.pointer (some a),.int .u64 406]) w := by
  unfold Extern.ReflectliteValue.mk
  rw [Sem.run_bind,handle_run]
  simp only [Result.andThen_ok]
  rw [Sem.run_bind,kind44]
  rfl
theorem elem_run {a : Addr} {q : Addr} {w : World} (hl : (loadVar 46 a).run Tryz.prog w = .ok (.pointer (some q)) w) : (callFunc 77 #[.agg #[hdl 46,.pointer (some a),.int .u64 150]]).run Tryz.prog w = .ok (.value (.agg #[hdl 44,.pointer (some q),.int .u64 406])) w := by
  refine call_extern Tryz.func77 (by kernel_rfl) (by kernel_rfl) (by kernel_rfl) (show Extern.find Tryz.f77 = some (Extern.ReflectliteValue.method (Extern.ReflectliteValue.valueError "reflectlite.Value.Elem" 0) Extern.ReflectliteValue.elem) by kernel_rfl) _ w ?_
  rw [elem_step]
  unfold Extern.ReflectliteValue.elem
  simp [hl,elemq,mk44]
theorem out_velem {E : Env} (K : EnvOK E) {h : SHeap} (hG : E.G = 10) (hP : E.P = Tryz.prog) {b o c p : Nat} (hl : loadAt E h 46 ⟨b,o,none⟩ = .ok (.pointer (some ⟨c,p,none⟩))) : OutAt E 77 [.agg #[hdl 46,.pointer (some ⟨b,o,none⟩),.int .u64 150]] h (.agg #[hdl 44,.pointer (some ⟨c,p,none⟩),.int .u64 406]) h := by
  intro rargs ρ w hw hr
  obtain ⟨κ,g⟩ := hw.glob 9 (by rw [hG]; omega)
  obtain ⟨l⟩ := rargs
  obtain ⟨y,e,hy⟩ := lrel_1 hr
  have e : l = [y] := e
  subst e
  obtain ⟨r,κ',hb,rfl⟩ := val_eq g hy
  obtain ⟨u,hu,hrun⟩ := loadAt_ok K hw hl hb
  have hu' := hu
  cases hu with
  | ptr hq =>
    refine ⟨ρ,w,_,?_,hw,Stp.refl _ _ _,by rw [hP] at hrun ⊢; exact elem_run hrun⟩
    refine .agg rfl fun i a b ha hb => ?_
    match i,ha,hb with
    | 0,ha,hb =>
      obtain rfl := Option.some.inj ha
      obtain rfl := Option.some.inj hb
      exact hdl_in g 44
    | 1,ha,hb =>
      obtain rfl := Option.some.inj ha
      obtain rfl := Option.some.inj hb
      exact hu'
    | 2,ha,hb =>
      obtain rfl := Option.some.inj ha
      obtain rfl := Option.some.inj hb
      exact .int _ _
    | i + 3,ha,_ => simp at ha

end Go.Proofs.YtgiompikfhhkmaaGreatDoor

namespace Go.Proofs.YtgiompikfhhkmaaGreatDoor
open Go Go.Sim
set_option maxRecDepth 100000

theorem parts_d (a : Addr) (w : World) : (Extern.ReflectliteValue.parts (.agg #[hdl 44,.pointer (some a),.int .u64 406])).run Tryz.prog w = .ok (some (44,a,406)) w := by kernel_rfl
theorem parts_s (a : Addr) (w : World) : (Extern.ReflectliteValue.parts (.agg #[hdl 44,.pointer (some a),.int .u64 150])).run Tryz.prog w = .ok (some (44,a,150)) w := by kernel_rfl
theorem dir44 (w : World) : (Extern.Rtype.directlyAssignable 44 44).run Tryz.prog w = .ok true w := by kernel_rfl
theorem set_step (d s : Addr) (w : World) : (Extern.ReflectliteValue.set #[.agg #[hdl 44,.pointer (some d),.int .u64 406],.agg #[hdl 44,.pointer (some s),.int .u64 150]]).run Tryz.prog w =
    (loadVar 44 s >>= fun u => storeVar 44 d u >>= fun _ => pure (.tuple #[]) : Sem Value).run Tryz.prog w := by kernel_rfl
theorem set_run {d s : Addr} {u : Value} {w w' : World} (hl : (loadVar 44 s).run Tryz.prog w = .ok u w) (hs : (storeVar 44 d u).run Tryz.prog w = .ok () w') :
    (callFunc 78 #[.agg #[hdl 44,.pointer (some d),.int .u64 406],.agg #[hdl 44,.pointer (some s),.int .u64 150]]).run Tryz.prog w = .ok (.value (.tuple #[])) w' := by
  refine call_extern Tryz.func78 (by kernel_rfl) (by kernel_rfl) (by kernel_rfl) (show Extern.find Tryz.f78 = some Extern.ReflectliteValue.set by kernel_rfl) _ w ?_
  rw [set_step]
  simp [hl,hs]
theorem out_set {E : Env} (K : EnvOK E) {h h' : SHeap} (hG : E.G = 10) (hP : E.P = Tryz.prog) {d od s os : Nat} {v : Value} (hl : loadAt E h 44 ⟨s,os,none⟩ = .ok v) (hst : storeAt E h 44 ⟨d,od,none⟩ v = .ok h') :
    OutAt E 78 [.agg #[hdl 44,.pointer (some ⟨d,od,none⟩),.int .u64 406],.agg #[hdl 44,.pointer (some ⟨s,os,none⟩),.int .u64 150]] h (.tuple #[]) h' := by
  intro rargs ρ w hw hr
  obtain ⟨κ,g⟩ := hw.glob 9 (by rw [hG]; omega)
  obtain ⟨l⟩ := rargs
  obtain ⟨y,z,e,hy,hz⟩ := lrel_2 hr
  have e : l = [y,z] := e
  subst e
  obtain ⟨r,κ1,hb,rfl⟩ := val_eq g hy
  obtain ⟨r2,κ2,hb2,rfl⟩ := val_eq g hz
  obtain ⟨u,hu,hrun⟩ := loadAt_ok K hw hl hb2
  unfold storeAt at hst
  split at hst
  · rename_i ti c m e op ht hg
    split at hst
    · simp at hst
    · rename_i hsz
      split at hst
      · rename_i c' hc
        injection hst with hst
        subst hst
        have hl := hu.cells
        obtain ⟨⟨_,rfl,hrun2⟩,h1,h2⟩ := store_cells hw hg hb (storeRange_spec hc) hl
        have hsz' : u.cells.size = ti.size := by
          have := hl.len
          rw [cells_size_list] at hsz ⊢
          omega
        have hsv : (storeVar 44 ⟨r,od,none⟩ u).run E.P w = .ok () (w.setCells r od u.cells.toList) := by
          simp only [storeVar,Sem.run_bind,K.sizeOf ht w,Result.andThen_ok,hsz',ne_eq,not_true_eq_false,if_false,hrun2]
        refine ⟨ρ,_,_,.tuple rfl (fun i a b ha => by simp at ha),h1,h2,?_⟩
        rw [hP] at hrun hsv ⊢
        exact set_run hrun hsv
      · simp at hst
  · simp at hst
  · simp at hst
  · simp at hst

end Go.Proofs.YtgiompikfhhkmaaGreatDoor

namespace Go.Proofs.YtgiompikfhhkmaaGreatDoor
open Go Go.Sim
set_option maxRecDepth 100000

theorem m69xcomparable (v : Value) (w : World) : (method (Tryz.prog.types.size + Made.depth) 69 v "Comparable").run Tryz.prog w = .ok (335,v) w := by kernel_rfl
theorem m69ximplements (v : Value) (w : World) : (method (Tryz.prog.types.size + Made.depth) 69 v "Implements").run Tryz.prog w = .ok (337,v) w := by kernel_rfl
theorem m69xelem (v : Value) (w : World) : (method (Tryz.prog.types.size + Made.depth) 69 v "Elem").run Tryz.prog w = .ok (336,v) w := by kernel_rfl
theorem m69xassignable (v : Value) (w : World) : (method (Tryz.prog.types.size + Made.depth) 69 v "AssignableTo").run Tryz.prog w = .ok (334,v) w := by kernel_rfl
theorem m450xerror (v : Value) (w : World) : (method (Tryz.prog.types.size + Made.depth) 450 v "Error").run Tryz.prog w = .ok (348,v) w := by kernel_rfl
theorem m44xunwrap (v : Value) (w : World) : (method (Tryz.prog.types.size + Made.depth) 44 v "Unwrap").run Tryz.prog w = .ok (332,v) w := by kernel_rfl
theorem m69xkind (x : Value) (w : World) : (method (Tryz.prog.types.size + Made.depth) 69 (.agg #[x]) "Kind").run Tryz.prog w = .ok (327,x) w := by kernel_rfl

noncomputable def askP (t a : Nat) : Option Bool := match Tryz.prog.underlying a with
  | some (.interface want) => match Tryz.prog.info? t with
    | some i => some (Instr.missingMethod want i.methods).isNone
    | none => none
  | _ => none
theorem ask_of {t a : Nat} {b : Bool} (h : askP t a = some b) : ∃ want i,Tryz.prog.underlying a = some (.interface want) ∧ Tryz.prog.info? t = some i ∧ (Instr.missingMethod want i.methods).isNone = b := by
  unfold askP at h
  split at h
  · rename_i want h1
    split at h
    · rename_i i h2
      exact ⟨want,i,h1,h2,Option.some.inj h⟩
    · simp at h
  · simp at h
theorem least_some {l : List String} (h : l ≠ []) : (Instr.least l).isSome = true := by
  unfold Instr.least
  cases l with
  | nil => exact absurd rfl h
  | cons a l => simp
theorem part_nil {α : Type} {p : α → Bool} {m : List α} (h1 : m.filter p = []) (h2 : m.filter (not ∘ p) = []) : m = [] := by
  rw [List.filter_eq_nil_iff] at h1 h2
  refine List.eq_nil_iff_forall_not_mem.mpr fun a ha => ?_
  have q1 := h1 a ha
  have q2 := h2 a ha
  cases q : p a <;> simp [q] at q1 q2
theorem missing_some {want : Array (String × TypeId)} {got : Array Method} {m : List String}
    (h : ((want.toList.filter fun x => match x with | (name,sig) => !got.any fun m => m.name == name && m.sig == sig).map (·.1)) = m) (hm : m ≠ []) : (Instr.missingMethod want got).isNone = false := by
  unfold Instr.missingMethod
  simp only [h]
  cases hp : List.partition (fun x => x.contains '.') m with
  | mk u e =>
    simp only
    by_cases he : e = []
    · have hu : u ≠ [] := by
        intro hu
        apply hm
        simp only [List.partition_eq_filter_filter,Prod.mk.injEq] at hp
        obtain ⟨h1,h2⟩ := hp
        rw [hu] at h1
        rw [he] at h2
        exact part_nil h1 h2
      have := least_some (l := u.map (fun id => (id.splitOn ".").getLastD id)) (by simpa using hu)
      rw [he]
      have e0 : Instr.least [] = none := rfl
      rw [e0]
      cases q : Instr.least (u.map (fun id => (id.splitOn ".").getLastD id)) with
      | none => rw [q] at this; simp at this
      | some s => rfl
    · have := least_some he
      cases q : Instr.least e with
      | none => rw [q] at this; simp at this
      | some s => rfl

noncomputable def askM (t a : Nat) : Option (List String) := match Tryz.prog.underlying a with
  | some (.interface want) => match Tryz.prog.info? t with
    | some i => some ((want.toList.filter fun x => match x with | (name,sig) => !i.methods.any fun m => m.name == name && m.sig == sig).map (·.1))
    | none => none
  | _ => none
theorem ask_no {t a : Nat} {s : String} {l : List String} (h : askM t a = some (s :: l)) : askP t a = some false := by
  unfold askM at h
  unfold askP
  split at h
  · rename_i want h1
    split at h
    · rename_i i h2
      rw [missing_some (Option.some.inj h) (by simp)]
    · simp at h
  · simp at h
theorem ask_450x76 : askP 450 76 = some false := ask_no (s := "Unwrap") (l := []) (by kernel_rfl)
theorem ask_450x74 : askP 450 74 = some false := ask_no (s := "Unwrap") (l := []) (by kernel_rfl)
theorem ask_450x71 : askP 450 71 = some false := ask_no (s := "Is") (l := []) (by kernel_rfl)
theorem ask_44x74 : askP 44 74 = some true := by kernel_rfl
theorem ask_29x71 : askP 29 71 = some false := ask_no (s := "Is") (l := []) (by kernel_rfl)

end Go.Proofs.YtgiompikfhhkmaaGreatDoor

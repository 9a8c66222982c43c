/- Drawn regions with effects, calls: laws for symbolic runs. -/
import Derived.Test.YtgiompikfhhkmaaGreatDoorSum
set_option linter.unusedVariables false
set_option linter.unusedSimpArgs false
set_option linter.unusedSimpArgs false
set_option linter.unusedVariables false
namespace Go.Sim
open Go
def drawsOf : Code → List (Array Oper)
  | .seq a b => drawsOf a ++ drawsOf b
  | .cond _ a b => drawsOf a ++ drawsOf b
  | .block _ b => drawsOf b
  | .loop b => drawsOf b
  | .scope b => drawsOf b
  | .region _ ops d => match d with
    | true => [ops]
    | false => []
  | _ => []
def nthD : List (Array Oper) → Nat → Array Oper
  | [],_ => #[]
  | x :: _,0 => x
  | _ :: r,n + 1 => nthD r n

theorem callOut_enter {ih : K} {g : FuncId} {args : Array Value} {h : SHeap} : callOut ih (.enter g args,h) = ih (.call g args .normal) h := (id rfl)
theorem dstep_eff' {E : Env} {ih : K} {l : List Oper} {nt base i lo : Nat} {heaps : List SHeap} {tm : Tr Value} {h : SHeap} {cur : List Nat} :
    dstepS E ih l.toArray nt base ⟨i,.eff,lo⟩ ⟨heaps,tm,h,cur⟩ = (match l[i]? with
      | none => .error "draw  no operation"
      | some ⟨dst,op,ty,pos,after,g⟩ => match g with
        | none => (match dispatch op E (evT E.G tm) ⟨dst,op,ty,pos,after,none⟩ h with
          | .error e => .error e
          | .ok out => match callOut ih out with
            | .error e => .error e
            | .ok (v,h) => bif Nat.ble h.next lim then .ok ⟨h :: heaps,putT tm nt dst v,h,[]⟩ else .error "draw  too many names")
        | some _ => dstepS E ih l.toArray nt base ⟨i,.eff,lo⟩ ⟨heaps,tm,h,cur⟩) := by
  rcases ho : l[i]? with _ | ⟨dst,op,ty,pos,after,g⟩
  · simp only [dstepS,List.getElem?_toArray,ho]
  · cases g with
    | none =>
      simp only [dstepS,List.getElem?_toArray,ho,wantedS,PKind.isEff,cond_true,simOp]
      cases dispatch op E (evT E.G tm) ⟨dst,op,ty,pos,after,none⟩ h with
      | error e => rfl
      | ok out =>
        simp only
        cases callOut ih out with
        | error e => rfl
        | ok p => rfl
    | some _ => rfl
theorem dstep_reads' {E : Env} {ih : K} {l : List Oper} {nt base i : Nat} {hh : SHeap} {old : List SHeap} {tm : Tr Value} {h : SHeap} {cur : List Nat} :
    dstepS E ih l.toArray nt base ⟨i,.read,0⟩ ⟨hh :: old,tm,h,cur⟩ = (match l[i]? with
      | none => .error "draw  no operation"
      | some ⟨dst,op,ty,pos,after,g⟩ => match g with
        | none => (match outVal (dispatch op E (evT E.G tm) ⟨dst,op,ty,pos,after,none⟩ hh) with
          | .ok v => bif readAgain E (evT E.G tm) ⟨dst,op,ty,pos,after,none⟩ v old then .ok ⟨hh :: old,putT tm nt dst v,h,cur⟩ else .error "draw  a read that hangs on the order"
          | .error e => .error e)
        | some _ => dstepS E ih l.toArray nt base ⟨i,.read,0⟩ ⟨hh :: old,tm,h,cur⟩) := by
  rcases ho : l[i]? with _ | ⟨dst,op,ty,pos,after,g⟩
  · simp only [dstepS,List.getElem?_toArray,ho]
  · cases g with
    | none =>
      simp only [dstepS,List.getElem?_toArray,ho,wantedS,PKind.isEff,cond_false,floatS,simOp,Nat.sub_zero,List.take_length]
      cases outVal (dispatch op E (evT E.G tm) ⟨dst,op,ty,pos,after,none⟩ hh) with
      | error e => rfl
      | ok v =>
        simp only
        cases hR : readAgain E (evT E.G tm) ⟨dst,op,ty,pos,after,none⟩ v old <;> simp only [hR,cond_true,cond_false]
    | some _ => rfl
theorem readAgain_nil {E : Env} {ev : Ev} {o : Oper} {v : Value} : readAgain E ev o v [] = true := (id rfl)
theorem readAgain_cons {E : Env} {ev : Ev} {dst : Option Tmp} {op : Op} {ty : TypeId} {pos : String} {after : Array Edge} {g : Option (Nat × Bool)} {v : Value} {h : SHeap} {r : List SHeap} : readAgain E ev ⟨dst,op,ty,pos,after,g⟩ v (h :: r) = (match dispatch op E ev ⟨dst,op,ty,pos,after,g⟩ h with
    | .ok (.value u,_) => valEq 200 u v && readAgain E ev ⟨dst,op,ty,pos,after,g⟩ v r
    | _ => false) := by
  simp only [readAgain,simOp]
  rfl
theorem valEq_int {k : IntKind} {n : Int} : valEq 200 (.int k n) (.int k n) = true := by simp [valEq]
variable {ih : K}
theorem callOut_value {v : Value} {h : SHeap} : callOut ih (.value v,h) = .ok (v,h) := (id rfl)
theorem run_orc {E : Env} {n f : Nat} {args : Array Value} {h : SHeap} {g : List Value → SHeap → Except String (Value × SHeap)} (hO : E.O f = some g) : run E (n + 1) (.call f args .normal) h = g args.toList h := by
  show bodyR E (run E n) _ h = _
  unfold bodyR
  simp only [hO]
theorem afterS_enter {ih : K} {fx : Fx} {dst : Option Tmp} {tm : Tr Value} {ds : List Deferred} {g : FuncId} {args : Array Value} {h : SHeap} : afterS ih fx dst tm ds (.enter g args,h) = (match ih (.call g args .normal) h with
    | .error e => .error e
    | .ok (v,h') => .ok ⟨putT tm fx.nt dst v,h',ds⟩) := by
  simp only [afterS]
  cases ih (.call g args .normal) h with
  | error e => rfl
  | ok p =>
    obtain ⟨v,⟨t,n⟩⟩ := p
    simp only [forceV_eq,stOk,force_eq,forceN_eq]
def EntersS (E : Env) (f : FuncId) : Prop := ∀ args h,callF E f args h = .ok (.enter f args,h)
theorem call_fn {E : Env} {G : Nat} {tm : Tr Value} {o : Oper} {f : FuncId} {args : Array Operand} {ats : Array TypeId} {h : SHeap} (he : EntersS E f) : opCall E (evT G tm) o ⟨.value (.func f),args,ats⟩ h = (match evList (evT G tm) args.toList with
    | none => .error "call  args"
    | some l => .ok (.enter f l.toArray,h)) := by
  simp only [opCall,resolveS,evT]
  cases evList (evT G tm) args.toList with
  | none => rfl
  | some l => simp only [invokeS,Array.append_empty,Array.empty_append,he _ _]

theorem evT_func {G : Nat} {tm : Tr Value} {f : FuncId} : evT G tm (.func f) = some (.func (.func f) #[] #[]) := (id rfl)
theorem geq_i64 {E : Env} {ev : Ev} {o : Oper} {t : TypeId} {x y : Int} {h : SHeap} : opBin E ev o .geq t (some (.int .i64 x)) (some (.int .i64 y)) h = .ok (.value (.bool (decide (x ≥ y))),h) := bin_i64 (id rfl)
/-- the lesser of two -/
def minI (x y : Int) : Int := bif decide (y < x) then y else x
theorem call_min {E : Env} {G : Nat} {tm : Tr Value} {o : Oper} {a b : Operand} {ats : Array TypeId} {h : SHeap} : opCall E (evT G tm) o ⟨.builtin .min,#[a,b],ats⟩ h = (match evT G tm a,evT G tm b with
    | some (.int .i64 x),some (.int .i64 y) => .ok (.value (.int .i64 (minI x y)),h)
    | _,_ => opCall E (evT G tm) o ⟨.builtin .min,#[a,b],ats⟩ h) := by
  split
  · rename_i x y h1 h2
    simp only [opCall,evList,h1,h2]
    rfl
  · rfl
end Go.Sim

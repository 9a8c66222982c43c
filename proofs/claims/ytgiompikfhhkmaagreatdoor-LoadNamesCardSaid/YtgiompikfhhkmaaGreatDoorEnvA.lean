/- The tables of the simulator and the program: types. The tables of the simulator and the program: types. The tables of the simulator and the program: types. The tables of the simulator and the program: types. The tables of the simulator and the program: types. The tables of the simulator and the program: types. The tables of the simulator and the program: types. The tables of the simulator and the program: types. The tables of the simulator and the program: types. The tables of the simulator and the program: functions; the tables as lists. -/
import Derived.Test.YtgiompikfhhkmaaGreatDoorTab
import Derived.Test.YtgiompikfhhkmaaGreatDoorOpsA
set_option linter.unusedVariables false
set_option linter.unusedSimpArgs false
namespace Go.Proofs.YtgiompikfhhkmaaGreatDoor
open Go Go.Sim
set_option maxRecDepth 100000
def TyFact (t : Nat) (ti : TI) : Prop := (∃ i,Tryz.prog.info? t = some i ∧ i.size = ti.size ∧ i.bytes = ti.bytes ∧ ∀ z,ti.zero = some z → i.zero = some z) ∧ Tryz.prog.underlying t = some ti.desc ∧ zeroOK ti = true
def FnFact (f : Nat) (fn : Func) : Prop := Tryz.prog.funcs[f]? = some fn ∧ (fn.body.isSome = true → ∀ args w,(callFunc f args).run Tryz.prog w = .ok (.enter f args) w)
inductive AllFrom {α : Type} (Q : Nat → α → Prop) : Nat → List α → Prop
  | nil (i : Nat) : AllFrom Q i []
  | cons {i : Nat} {x : α} {l : List α} : Q i x → AllFrom Q (i + 1) l → AllFrom Q i (x :: l)
theorem AllFrom.get {α : Type} {Q : Nat → α → Prop} : ∀ {i : Nat} {l : List α},AllFrom Q i l → ∀ j x,l[j]? = some x → Q (i + j) x
  | _,_,.nil _,j,x,h => by simp at h
  | i,_,.cons hq hr,0,x,h => by simp only [List.getElem?_cons_zero,Option.some.injEq] at h; subst h; exact hq
  | i,_,.cons hq hr,j + 1,x,h => by
    have := hr.get j x (by simpa using h)
    rw [show i + (j + 1) = i + 1 + j by omega]
    exact this
theorem AllFrom.append {α : Type} {Q : Nat → α → Prop} : ∀ {i : Nat} {l m : List α},AllFrom Q i l → AllFrom Q (i + l.length) m → AllFrom Q i (l ++ m)
  | i,_,_,.nil _,h => by simpa using h
  | i,_,_,.cons (l := l) hq hr,h => .cons hq (hr.append (by
    rw [List.length_cons] at h
    have e : i + 1 + l.length = i + (l.length + 1) := by omega
    rw [e]
    exact h))
end Go.Proofs.YtgiompikfhhkmaaGreatDoor

namespace Go.Proofs.YtgiompikfhhkmaaGreatDoor
open Go Go.Sim
set_option maxRecDepth 100000
theorem ty0 : TyFact 0 Tab.t0 := ⟨⟨Tryz.t0,by kernel_rfl,by kernel_rfl,by kernel_rfl,fun z h => by cases h⟩,by kernel_rfl,by kernel_rfl⟩
theorem ty1 : TyFact 1 Tab.t1 := ⟨⟨Tryz.t1,by kernel_rfl,by kernel_rfl,by kernel_rfl,fun z h => h⟩,by kernel_rfl,by kernel_rfl⟩
theorem ty2 : TyFact 2 Tab.t2 := ⟨⟨Tryz.t2,by kernel_rfl,by kernel_rfl,by kernel_rfl,fun z h => h⟩,by kernel_rfl,by kernel_rfl⟩
theorem ty3 : TyFact 3 Tab.t3 := ⟨⟨Tryz.t3,by kernel_rfl,by kernel_rfl,by kernel_rfl,fun z h => h⟩,by kernel_rfl,by kernel_rfl⟩
theorem ty4 : TyFact 4 Tab.t4 := ⟨⟨Tryz.t4,by kernel_rfl,by kernel_rfl,by kernel_rfl,fun z h => h⟩,by kernel_rfl,by kernel_rfl⟩
theorem ty5 : TyFact 5 Tab.t5 := ⟨⟨Tryz.t5,by kernel_rfl,by kernel_rfl,by kernel_rfl,fun z h => h⟩,by kernel_rfl,by kernel_rfl⟩
theorem ty6 : TyFact 6 Tab.t6 := ⟨⟨Tryz.t6,by kernel_rfl,by kernel_rfl,by kernel_rfl,fun z h => h⟩,by kernel_rfl,by kernel_rfl⟩
theorem ty7 : TyFact 7 Tab.t7 := ⟨⟨Tryz.t7,by kernel_rfl,by kernel_rfl,by kernel_rfl,fun z h => h⟩,by kernel_rfl,by kernel_rfl⟩
theorem ty8 : TyFact 8 Tab.t8 := ⟨⟨Tryz.t8,by kernel_rfl,by kernel_rfl,by kernel_rfl,fun z h => h⟩,by kernel_rfl,by kernel_rfl⟩
theorem ty9 : TyFact 9 Tab.t9 := ⟨⟨Tryz.t9,by kernel_rfl,by kernel_rfl,by kernel_rfl,fun z h => h⟩,by kernel_rfl,by kernel_rfl⟩
theorem ty10 : TyFact 10 Tab.t10 := ⟨⟨Tryz.t10,by kernel_rfl,by kernel_rfl,by kernel_rfl,fun z h => h⟩,by kernel_rfl,by kernel_rfl⟩
theorem ty11 : TyFact 11 Tab.t11 := ⟨⟨Tryz.t11,by kernel_rfl,by kernel_rfl,by kernel_rfl,fun z h => h⟩,by kernel_rfl,by kernel_rfl⟩
theorem ty12 : TyFact 12 Tab.t12 := ⟨⟨Tryz.t12,by kernel_rfl,by kernel_rfl,by kernel_rfl,fun z h => h⟩,by kernel_rfl,by kernel_rfl⟩
theorem ty13 : TyFact 13 Tab.t13 := ⟨⟨Tryz.t13,by kernel_rfl,by kernel_rfl,by kernel_rfl,fun z h => h⟩,by kernel_rfl,by kernel_rfl⟩
theorem ty14 : TyFact 14 Tab.t14 := ⟨⟨Tryz.t14,by kernel_rfl,by kernel_rfl,by kernel_rfl,fun z h => h⟩,by kernel_rfl,by kernel_rfl⟩
theorem ty15 : TyFact 15 Tab.t15 := ⟨⟨Tryz.t15,by kernel_rfl,by kernel_rfl,by kernel_rfl,fun z h => h⟩,by kernel_rfl,by kernel_rfl⟩
theorem ty16 : TyFact 16 Tab.t16 := ⟨⟨Tryz.t16,by kernel_rfl,by kernel_rfl,by kernel_rfl,fun z h => h⟩,by kernel_rfl,by kernel_rfl⟩
theorem ty17 : TyFact 17 Tab.t17 := ⟨⟨Tryz.t17,by kernel_rfl,by kernel_rfl,by kernel_rfl,fun z h => h⟩,by kernel_rfl,by kernel_rfl⟩
theorem ty18 : TyFact 18 Tab.t18 := ⟨⟨Tryz.t18,by kernel_rfl,by kernel_rfl,by kernel_rfl,fun z h => h⟩,by kernel_rfl,by kernel_rfl⟩
theorem ty19 : TyFact 19 Tab.t19 := ⟨⟨Tryz.t19,by kernel_rfl,by kernel_rfl,by kernel_rfl,fun z h => h⟩,by kernel_rfl,by kernel_rfl⟩
theorem ty20 : TyFact 20 Tab.t20 := ⟨⟨Tryz.t20,by kernel_rfl,by kernel_rfl,by kernel_rfl,fun z h => h⟩,by kernel_rfl,by kernel_rfl⟩
theorem ty21 : TyFact 21 Tab.t21 := ⟨⟨Tryz.t21,by kernel_rfl,by kernel_rfl,by kernel_rfl,fun z h => h⟩,by kernel_rfl,by kernel_rfl⟩
theorem ty22 : TyFact 22 Tab.t22 := ⟨⟨Tryz.t22,by kernel_rfl,by kernel_rfl,by kernel_rfl,fun z h => h⟩,by kernel_rfl,by kernel_rfl⟩
theorem ty23 : TyFact 23 Tab.t23 := ⟨⟨Tryz.t23,by kernel_rfl,by kernel_rfl,by kernel_rfl,fun z h => h⟩,by kernel_rfl,by kernel_rfl⟩
theorem ty24 : TyFact 24 Tab.t24 := ⟨⟨Tryz.t24,by kernel_rfl,by kernel_rfl,by kernel_rfl,fun z h => h⟩,by kernel_rfl,by kernel_rfl⟩
theorem ty25 : TyFact 25 Tab.t25 := ⟨⟨Tryz.t25,by kernel_rfl,by kernel_rfl,by kernel_rfl,fun z h => h⟩,by kernel_rfl,by kernel_rfl⟩
theorem ty26 : TyFact 26 Tab.t26 := ⟨⟨Tryz.t26,by kernel_rfl,by kernel_rfl,by kernel_rfl,fun z h => h⟩,by kernel_rfl,by kernel_rfl⟩
theorem ty27 : TyFact 27 Tab.t27 := ⟨⟨Tryz.t27,by kernel_rfl,by kernel_rfl,by kernel_rfl,fun z h => h⟩,by kernel_rfl,by kernel_rfl⟩
theorem ty28 : TyFact 28 Tab.t28 := ⟨⟨Tryz.t28,by kernel_rfl,by kernel_rfl,by kernel_rfl,fun z h => h⟩,by kernel_rfl,by kernel_rfl⟩
theorem ty29 : TyFact 29 Tab.t29 := ⟨⟨Tryz.t29,by kernel_rfl,by kernel_rfl,by kernel_rfl,fun z h => h⟩,by kernel_rfl,by kernel_rfl⟩
theorem ty30 : TyFact 30 Tab.t30 := ⟨⟨Tryz.t30,by kernel_rfl,by kernel_rfl,by kernel_rfl,fun z h => h⟩,by kernel_rfl,by kernel_rfl⟩
theorem ty31 : TyFact 31 Tab.t31 := ⟨⟨Tryz.t31,by kernel_rfl,by kernel_rfl,by kernel_rfl,fun z h => h⟩,by kernel_rfl,by kernel_rfl⟩
theorem ty32 : TyFact 32 Tab.t32 := ⟨⟨Tryz.t32,by kernel_rfl,by kernel_rfl,by kernel_rfl,fun z h => h⟩,by kernel_rfl,by kernel_rfl⟩
theorem ty33 : TyFact 33 Tab.t33 := ⟨⟨Tryz.t33,by kernel_rfl,by kernel_rfl,by kernel_rfl,fun z h => by cases h⟩,by kernel_rfl,by kernel_rfl⟩
theorem ty34 : TyFact 34 Tab.t34 := ⟨⟨Tryz.t34,by kernel_rfl,by kernel_rfl,by kernel_rfl,fun z h => h⟩,by kernel_rfl,by kernel_rfl⟩
theorem ty35 : TyFact 35 Tab.t35 := ⟨⟨Tryz.t35,by kernel_rfl,by kernel_rfl,by kernel_rfl,fun z h => h⟩,by kernel_rfl,by kernel_rfl⟩
theorem ty36 : TyFact 36 Tab.t36 := ⟨⟨Tryz.t36,by kernel_rfl,by kernel_rfl,by kernel_rfl,fun z h => h⟩,by kernel_rfl,by kernel_rfl⟩
theorem ty37 : TyFact 37 Tab.t37 := ⟨⟨Tryz.t37,by kernel_rfl,by kernel_rfl,by kernel_rfl,fun z h => h⟩,by kernel_rfl,by kernel_rfl⟩
theorem ty38 : TyFact 38 Tab.t38 := ⟨⟨Tryz.t38,by kernel_rfl,by kernel_rfl,by kernel_rfl,fun z h => h⟩,by kernel_rfl,by kernel_rfl⟩
theorem ty39 : TyFact 39 Tab.t39 := ⟨⟨Tryz.t39,by kernel_rfl,by kernel_rfl,by kernel_rfl,fun z h => h⟩,by kernel_rfl,by kernel_rfl⟩
theorem ty40 : TyFact 40 Tab.t40 := ⟨⟨Tryz.t40,by kernel_rfl,by kernel_rfl,by kernel_rfl,fun z h => h⟩,by kernel_rfl,by kernel_rfl⟩
theorem ty41 : TyFact 41 Tab.t41 := ⟨⟨Tryz.t41,by kernel_rfl,by kernel_rfl,by kernel_rfl,fun z h => h⟩,by kernel_rfl,by kernel_rfl⟩
theorem ty42 : TyFact 42 Tab.t42 := ⟨⟨Tryz.t42,by kernel_rfl,by kernel_rfl,by kernel_rfl,fun z h => by cases h⟩,by kernel_rfl,by kernel_rfl⟩
theorem ty43 : TyFact 43 Tab.t43 := ⟨⟨Tryz.t43,by kernel_rfl,by kernel_rfl,by kernel_rfl,fun z h => h⟩,by kernel_rfl,by kernel_rfl⟩
theorem ty44 : TyFact 44 Tab.t44 := ⟨⟨Tryz.t44,by kernel_rfl,by kernel_rfl,by kernel_rfl,fun z h => h⟩,by kernel_rfl,by kernel_rfl⟩
theorem ty45 : TyFact 45 Tab.t45 := ⟨⟨Tryz.t45,by kernel_rfl,by kernel_rfl,by kernel_rfl,fun z h => h⟩,by kernel_rfl,by kernel_rfl⟩
theorem ty46 : TyFact 46 Tab.t46 := ⟨⟨Tryz.t46,by kernel_rfl,by kernel_rfl,by kernel_rfl,fun z h => h⟩,by kernel_rfl,by kernel_rfl⟩
theorem ty47 : TyFact 47 Tab.t47 := ⟨⟨Tryz.t47,by kernel_rfl,by kernel_rfl,by kernel_rfl,fun z h => h⟩,by kernel_rfl,by kernel_rfl⟩
theorem ty48 : TyFact 48 Tab.t48 := ⟨⟨Tryz.t48,by kernel_rfl,by kernel_rfl,by kernel_rfl,fun z h => h⟩,by kernel_rfl,by kernel_rfl⟩
theorem ty49 : TyFact 49 Tab.t49 := ⟨⟨Tryz.t49,by kernel_rfl,by kernel_rfl,by kernel_rfl,fun z h => h⟩,by kernel_rfl,by kernel_rfl⟩
theorem ty50 : TyFact 50 Tab.t50 := ⟨⟨Tryz.t50,by kernel_rfl,by kernel_rfl,by kernel_rfl,fun z h => by cases h⟩,by kernel_rfl,by kernel_rfl⟩
theorem ty51 : TyFact 51 Tab.t51 := ⟨⟨Tryz.t51,by kernel_rfl,by kernel_rfl,by kernel_rfl,fun z h => h⟩,by kernel_rfl,by kernel_rfl⟩
theorem ty52 : TyFact 52 Tab.t52 := ⟨⟨Tryz.t52,by kernel_rfl,by kernel_rfl,by kernel_rfl,fun z h => h⟩,by kernel_rfl,by kernel_rfl⟩
theorem ty53 : TyFact 53 Tab.t53 := ⟨⟨Tryz.t53,by kernel_rfl,by kernel_rfl,by kernel_rfl,fun z h => h⟩,by kernel_rfl,by kernel_rfl⟩
theorem ty54 : TyFact 54 Tab.t54 := ⟨⟨Tryz.t54,by kernel_rfl,by kernel_rfl,by kernel_rfl,fun z h => h⟩,by kernel_rfl,by kernel_rfl⟩
theorem ty55 : TyFact 55 Tab.t55 := ⟨⟨Tryz.t55,by kernel_rfl,by kernel_rfl,by kernel_rfl,fun z h => h⟩,by kernel_rfl,by kernel_rfl⟩
theorem ty56 : TyFact 56 Tab.t56 := ⟨⟨Tryz.t56,by kernel_rfl,by kernel_rfl,by kernel_rfl,fun z h => h⟩,by kernel_rfl,by kernel_rfl⟩
theorem ty57 : TyFact 57 Tab.t57 := ⟨⟨Tryz.t57,by kernel_rfl,by kernel_rfl,by kernel_rfl,fun z h => by cases h⟩,by kernel_rfl,by kernel_rfl⟩
theorem ty58 : TyFact 58 Tab.t58 := ⟨⟨Tryz.t58,by kernel_rfl,by kernel_rfl,by kernel_rfl,fun z h => h⟩,by kernel_rfl,by kernel_rfl⟩
theorem ty59 : TyFact 59 Tab.t59 := ⟨⟨Tryz.t59,by kernel_rfl,by kernel_rfl,by kernel_rfl,fun z h => h⟩,by kernel_rfl,by kernel_rfl⟩
theorem ty60 : TyFact 60 Tab.t60 := ⟨⟨Tryz.t60,by kernel_rfl,by kernel_rfl,by kernel_rfl,fun z h => h⟩,by kernel_rfl,by kernel_rfl⟩
theorem ty61 : TyFact 61 Tab.t61 := ⟨⟨Tryz.t61,by kernel_rfl,by kernel_rfl,by kernel_rfl,fun z h => h⟩,by kernel_rfl,by kernel_rfl⟩
theorem tys0 : AllFrom TyFact 0 [Tab.t0,Tab.t1,Tab.t2,Tab.t3,Tab.t4,Tab.t5,Tab.t6,Tab.t7,Tab.t8,Tab.t9,Tab.t10,Tab.t11,Tab.t12,Tab.t13,Tab.t14,Tab.t15,Tab.t16,Tab.t17,Tab.t18,Tab.t19,Tab.t20,Tab.t21,Tab.t22,Tab.t23,Tab.t24,Tab.t25,Tab.t26,Tab.t27,Tab.t28,Tab.t29,Tab.t30,Tab.t31,Tab.t32,Tab.t33,Tab.t34,Tab.t35,Tab.t36,Tab.t37,Tab.t38,Tab.t39,Tab.t40,Tab.t41,Tab.t42,Tab.t43,Tab.t44,Tab.t45,Tab.t46,Tab.t47,Tab.t48,Tab.t49,Tab.t50,Tab.t51,Tab.t52,Tab.t53,Tab.t54,Tab.t55,Tab.t56,Tab.t57,Tab.t58,Tab.t59,Tab.t60,Tab.t61] := .cons ty0 (.cons ty1 (.cons ty2 (.cons ty3 (.cons ty4 (.cons ty5 (.cons ty6 (.cons ty7 (.cons ty8 (.cons ty9 (.cons ty10 (.cons ty11 (.cons ty12 (.cons ty13 (.cons ty14 (.cons ty15 (.cons ty16 (.cons ty17 (.cons ty18 (.cons ty19 (.cons ty20 (.cons ty21 (.cons ty22 (.cons ty23 (.cons ty24 (.cons ty25 (.cons ty26 (.cons ty27 (.cons ty28 (.cons ty29 (.cons ty30 (.cons ty31 (.cons ty32 (.cons ty33 (.cons ty34 (.cons ty35 (.cons ty36 (.cons ty37 (.cons ty38 (.cons ty39 (.cons ty40 (.cons ty41 (.cons ty42 (.cons ty43 (.cons ty44 (.cons ty45 (.cons ty46 (.cons ty47 (.cons ty48 (.cons ty49 (.cons ty50 (.cons ty51 (.cons ty52 (.cons ty53 (.cons ty54 (.cons ty55 (.cons ty56 (.cons ty57 (.cons ty58 (.cons ty59 (.cons ty60 (.cons ty61 (.nil 62))))))))))))))))))))))))))))))))))))))))))))))))))))))))))))))
end Go.Proofs.YtgiompikfhhkmaaGreatDoor

namespace Go.Proofs.YtgiompikfhhkmaaGreatDoor
open Go Go.Sim
set_option maxRecDepth 100000
theorem ty62 : TyFact 62 Tab.t62 := ⟨⟨Tryz.t62,by kernel_rfl,by kernel_rfl,by kernel_rfl,fun z h => h⟩,by kernel_rfl,by kernel_rfl⟩
theorem ty63 : TyFact 63 Tab.t63 := ⟨⟨Tryz.t63,by kernel_rfl,by kernel_rfl,by kernel_rfl,fun z h => by cases h⟩,by kernel_rfl,by kernel_rfl⟩
theorem ty64 : TyFact 64 Tab.t64 := ⟨⟨Tryz.t64,by kernel_rfl,by kernel_rfl,by kernel_rfl,fun z h => h⟩,by kernel_rfl,by kernel_rfl⟩
theorem ty65 : TyFact 65 Tab.t65 := ⟨⟨Tryz.t65,by kernel_rfl,by kernel_rfl,by kernel_rfl,fun z h => h⟩,by kernel_rfl,by kernel_rfl⟩
theorem ty66 : TyFact 66 Tab.t66 := ⟨⟨Tryz.t66,by kernel_rfl,by kernel_rfl,by kernel_rfl,fun z h => h⟩,by kernel_rfl,by kernel_rfl⟩
theorem ty67 : TyFact 67 Tab.t67 := ⟨⟨Tryz.t67,by kernel_rfl,by kernel_rfl,by kernel_rfl,fun z h => h⟩,by kernel_rfl,by kernel_rfl⟩
theorem ty68 : TyFact 68 Tab.t68 := ⟨⟨Tryz.t68,by kernel_rfl,by kernel_rfl,by kernel_rfl,fun z h => h⟩,by kernel_rfl,by kernel_rfl⟩
theorem ty69 : TyFact 69 Tab.t69 := ⟨⟨Tryz.t69,by kernel_rfl,by kernel_rfl,by kernel_rfl,fun z h => h⟩,by kernel_rfl,by kernel_rfl⟩
theorem ty70 : TyFact 70 Tab.t70 := ⟨⟨Tryz.t70,by kernel_rfl,by kernel_rfl,by kernel_rfl,fun z h => h⟩,by kernel_rfl,by kernel_rfl⟩
theorem ty71 : TyFact 71 Tab.t71 := ⟨⟨Tryz.t71,by kernel_rfl,by kernel_rfl,by kernel_rfl,fun z h => h⟩,by kernel_rfl,by kernel_rfl⟩
theorem ty72 : TyFact 72 Tab.t72 := ⟨⟨Tryz.t72,by kernel_rfl,by kernel_rfl,by kernel_rfl,fun z h => by cases h⟩,by kernel_rfl,by kernel_rfl⟩
theorem ty73 : TyFact 73 Tab.t73 := ⟨⟨Tryz.t73,by kernel_rfl,by kernel_rfl,by kernel_rfl,fun z h => h⟩,by kernel_rfl,by kernel_rfl⟩
theorem ty74 : TyFact 74 Tab.t74 := ⟨⟨Tryz.t74,by kernel_rfl,by kernel_rfl,by kernel_rfl,fun z h => h⟩,by kernel_rfl,by kernel_rfl⟩
theorem ty75 : TyFact 75 Tab.t75 := ⟨⟨Tryz.t75,by kernel_rfl,by kernel_rfl,by kernel_rfl,fun z h => h⟩,by kernel_rfl,by kernel_rfl⟩
theorem ty76 : TyFact 76 Tab.t76 := ⟨⟨Tryz.t76,by kernel_rfl,by kernel_rfl,by kernel_rfl,fun z h => h⟩,by kernel_rfl,by kernel_rfl⟩
theorem ty77 : TyFact 77 Tab.t77 := ⟨⟨Tryz.t77,by kernel_rfl,by kernel_rfl,by kernel_rfl,fun z h => h⟩,by kernel_rfl,by kernel_rfl⟩
theorem ty78 : TyFact 78 Tab.t78 := ⟨⟨Tryz.t78,by kernel_rfl,by kernel_rfl,by kernel_rfl,fun z h => h⟩,by kernel_rfl,by kernel_rfl⟩
theorem ty79 : TyFact 79 Tab.t79 := ⟨⟨Tryz.t79,by kernel_rfl,by kernel_rfl,by kernel_rfl,fun z h => h⟩,by kernel_rfl,by kernel_rfl⟩
theorem ty80 : TyFact 80 Tab.t80 := ⟨⟨Tryz.t80,by kernel_rfl,by kernel_rfl,by kernel_rfl,fun z h => by cases h⟩,by kernel_rfl,by kernel_rfl⟩
theorem ty81 : TyFact 81 Tab.t81 := ⟨⟨Tryz.t81,by kernel_rfl,by kernel_rfl,by kernel_rfl,fun z h => h⟩,by kernel_rfl,by kernel_rfl⟩
theorem ty82 : TyFact 82 Tab.t82 := ⟨⟨Tryz.t82,by kernel_rfl,by kernel_rfl,by kernel_rfl,fun z h => h⟩,by kernel_rfl,by kernel_rfl⟩
theorem ty83 : TyFact 83 Tab.t83 := ⟨⟨Tryz.t83,by kernel_rfl,by kernel_rfl,by kernel_rfl,fun z h => h⟩,by kernel_rfl,by kernel_rfl⟩
theorem ty84 : TyFact 84 Tab.t84 := ⟨⟨Tryz.t84,by kernel_rfl,by kernel_rfl,by kernel_rfl,fun z h => h⟩,by kernel_rfl,by kernel_rfl⟩
theorem ty85 : TyFact 85 Tab.t85 := ⟨⟨Tryz.t85,by kernel_rfl,by kernel_rfl,by kernel_rfl,fun z h => by cases h⟩,by kernel_rfl,by kernel_rfl⟩
theorem ty86 : TyFact 86 Tab.t86 := ⟨⟨Tryz.t86,by kernel_rfl,by kernel_rfl,by kernel_rfl,fun z h => h⟩,by kernel_rfl,by kernel_rfl⟩
theorem ty87 : TyFact 87 Tab.t87 := ⟨⟨Tryz.t87,by kernel_rfl,by kernel_rfl,by kernel_rfl,fun z h => h⟩,by kernel_rfl,by kernel_rfl⟩
theorem ty88 : TyFact 88 Tab.t88 := ⟨⟨Tryz.t88,by kernel_rfl,by kernel_rfl,by kernel_rfl,fun z h => by cases h⟩,by kernel_rfl,by kernel_rfl⟩
theorem ty89 : TyFact 89 Tab.t89 := ⟨⟨Tryz.t89,by kernel_rfl,by kernel_rfl,by kernel_rfl,fun z h => h⟩,by kernel_rfl,by kernel_rfl⟩
theorem ty90 : TyFact 90 Tab.t90 := ⟨⟨Tryz.t90,by kernel_rfl,by kernel_rfl,by kernel_rfl,fun z h => h⟩,by kernel_rfl,by kernel_rfl⟩
theorem ty91 : TyFact 91 Tab.t91 := ⟨⟨Tryz.t91,by kernel_rfl,by kernel_rfl,by kernel_rfl,fun z h => h⟩,by kernel_rfl,by kernel_rfl⟩
theorem ty92 : TyFact 92 Tab.t92 := ⟨⟨Tryz.t92,by kernel_rfl,by kernel_rfl,by kernel_rfl,fun z h => h⟩,by kernel_rfl,by kernel_rfl⟩
theorem ty93 : TyFact 93 Tab.t93 := ⟨⟨Tryz.t93,by kernel_rfl,by kernel_rfl,by kernel_rfl,fun z h => h⟩,by kernel_rfl,by kernel_rfl⟩
theorem ty94 : TyFact 94 Tab.t94 := ⟨⟨Tryz.t94,by kernel_rfl,by kernel_rfl,by kernel_rfl,fun z h => by cases h⟩,by kernel_rfl,by kernel_rfl⟩
theorem ty95 : TyFact 95 Tab.t95 := ⟨⟨Tryz.t95,by kernel_rfl,by kernel_rfl,by kernel_rfl,fun z h => h⟩,by kernel_rfl,by kernel_rfl⟩
theorem ty96 : TyFact 96 Tab.t96 := ⟨⟨Tryz.t96,by kernel_rfl,by kernel_rfl,by kernel_rfl,fun z h => by cases h⟩,by kernel_rfl,by kernel_rfl⟩
theorem ty97 : TyFact 97 Tab.t97 := ⟨⟨Tryz.t97,by kernel_rfl,by kernel_rfl,by kernel_rfl,fun z h => h⟩,by kernel_rfl,by kernel_rfl⟩
theorem ty98 : TyFact 98 Tab.t98 := ⟨⟨Tryz.t98,by kernel_rfl,by kernel_rfl,by kernel_rfl,fun z h => h⟩,by kernel_rfl,by kernel_rfl⟩
theorem ty99 : TyFact 99 Tab.t99 := ⟨⟨Tryz.t99,by kernel_rfl,by kernel_rfl,by kernel_rfl,fun z h => h⟩,by kernel_rfl,by kernel_rfl⟩
theorem ty100 : TyFact 100 Tab.t100 := ⟨⟨Tryz.t100,by kernel_rfl,by kernel_rfl,by kernel_rfl,fun z h => h⟩,by kernel_rfl,by kernel_rfl⟩
theorem ty101 : TyFact 101 Tab.t101 := ⟨⟨Tryz.t101,by kernel_rfl,by kernel_rfl,by kernel_rfl,fun z h => h⟩,by kernel_rfl,by kernel_rfl⟩
theorem ty102 : TyFact 102 Tab.t102 := ⟨⟨Tryz.t102,by kernel_rfl,by kernel_rfl,by kernel_rfl,fun z h => h⟩,by kernel_rfl,by kernel_rfl⟩
theorem ty103 : TyFact 103 Tab.t103 := ⟨⟨Tryz.t103,by kernel_rfl,by kernel_rfl,by kernel_rfl,fun z h => h⟩,by kernel_rfl,by kernel_rfl⟩
theorem ty104 : TyFact 104 Tab.t104 := ⟨⟨Tryz.t104,by kernel_rfl,by kernel_rfl,by kernel_rfl,fun z h => h⟩,by kernel_rfl,by kernel_rfl⟩
theorem ty105 : TyFact 105 Tab.t105 := ⟨⟨Tryz.t105,by kernel_rfl,by kernel_rfl,by kernel_rfl,fun z h => h⟩,by kernel_rfl,by kernel_rfl⟩
theorem ty106 : TyFact 106 Tab.t106 := ⟨⟨Tryz.t106,by kernel_rfl,by kernel_rfl,by kernel_rfl,fun z h => h⟩,by kernel_rfl,by kernel_rfl⟩
theorem ty107 : TyFact 107 Tab.t107 := ⟨⟨Tryz.t107,by kernel_rfl,by kernel_rfl,by kernel_rfl,fun z h => h⟩,by kernel_rfl,by kernel_rfl⟩
theorem ty108 : TyFact 108 Tab.t108 := ⟨⟨Tryz.t108,by kernel_rfl,by kernel_rfl,by kernel_rfl,fun z h => h⟩,by kernel_rfl,by kernel_rfl⟩
theorem ty109 : TyFact 109 Tab.t109 := ⟨⟨Tryz.t109,by kernel_rfl,by kernel_rfl,by kernel_rfl,fun z h => h⟩,by kernel_rfl,by kernel_rfl⟩
theorem ty110 : TyFact 110 Tab.t110 := ⟨⟨Tryz.t110,by kernel_rfl,by kernel_rfl,by kernel_rfl,fun z h => h⟩,by kernel_rfl,by kernel_rfl⟩
theorem ty111 : TyFact 111 Tab.t111 := ⟨⟨Tryz.t111,by kernel_rfl,by kernel_rfl,by kernel_rfl,fun z h => h⟩,by kernel_rfl,by kernel_rfl⟩
theorem ty112 : TyFact 112 Tab.t112 := ⟨⟨Tryz.t112,by kernel_rfl,by kernel_rfl,by kernel_rfl,fun z h => h⟩,by kernel_rfl,by kernel_rfl⟩
theorem ty113 : TyFact 113 Tab.t113 := ⟨⟨Tryz.t113,by kernel_rfl,by kernel_rfl,by kernel_rfl,fun z h => h⟩,by kernel_rfl,by kernel_rfl⟩
theorem ty114 : TyFact 114 Tab.t114 := ⟨⟨Tryz.t114,by kernel_rfl,by kernel_rfl,by kernel_rfl,fun z h => h⟩,by kernel_rfl,by kernel_rfl⟩
theorem ty115 : TyFact 115 Tab.t115 := ⟨⟨Tryz.t115,by kernel_rfl,by kernel_rfl,by kernel_rfl,fun z h => h⟩,by kernel_rfl,by kernel_rfl⟩
theorem ty116 : TyFact 116 Tab.t116 := ⟨⟨Tryz.t116,by kernel_rfl,by kernel_rfl,by kernel_rfl,fun z h => h⟩,by kernel_rfl,by kernel_rfl⟩
theorem ty117 : TyFact 117 Tab.t117 := ⟨⟨Tryz.t117,by kernel_rfl,by kernel_rfl,by kernel_rfl,fun z h => h⟩,by kernel_rfl,by kernel_rfl⟩
theorem ty118 : TyFact 118 Tab.t118 := ⟨⟨Tryz.t118,by kernel_rfl,by kernel_rfl,by kernel_rfl,fun z h => h⟩,by kernel_rfl,by kernel_rfl⟩
theorem ty119 : TyFact 119 Tab.t119 := ⟨⟨Tryz.t119,by kernel_rfl,by kernel_rfl,by kernel_rfl,fun z h => h⟩,by kernel_rfl,by kernel_rfl⟩
theorem ty120 : TyFact 120 Tab.t120 := ⟨⟨Tryz.t120,by kernel_rfl,by kernel_rfl,by kernel_rfl,fun z h => h⟩,by kernel_rfl,by kernel_rfl⟩
theorem ty121 : TyFact 121 Tab.t121 := ⟨⟨Tryz.t121,by kernel_rfl,by kernel_rfl,by kernel_rfl,fun z h => h⟩,by kernel_rfl,by kernel_rfl⟩
theorem ty122 : TyFact 122 Tab.t122 := ⟨⟨Tryz.t122,by kernel_rfl,by kernel_rfl,by kernel_rfl,fun z h => h⟩,by kernel_rfl,by kernel_rfl⟩
theorem ty123 : TyFact 123 Tab.t123 := ⟨⟨Tryz.t123,by kernel_rfl,by kernel_rfl,by kernel_rfl,fun z h => h⟩,by kernel_rfl,by kernel_rfl⟩
theorem tys1 : AllFrom TyFact 62 [Tab.t62,Tab.t63,Tab.t64,Tab.t65,Tab.t66,Tab.t67,Tab.t68,Tab.t69,Tab.t70,Tab.t71,Tab.t72,Tab.t73,Tab.t74,Tab.t75,Tab.t76,Tab.t77,Tab.t78,Tab.t79,Tab.t80,Tab.t81,Tab.t82,Tab.t83,Tab.t84,Tab.t85,Tab.t86,Tab.t87,Tab.t88,Tab.t89,Tab.t90,Tab.t91,Tab.t92,Tab.t93,Tab.t94,Tab.t95,Tab.t96,Tab.t97,Tab.t98,Tab.t99,Tab.t100,Tab.t101,Tab.t102,Tab.t103,Tab.t104,Tab.t105,Tab.t106,Tab.t107,Tab.t108,Tab.t109,Tab.t110,Tab.t111,Tab.t112,Tab.t113,Tab.t114,Tab.t115,Tab.t116,Tab.t117,Tab.t118,Tab.t119,Tab.t120,Tab.t121,Tab.t122,Tab.t123] := .cons ty62 (.cons ty63 (.cons ty64 (.cons ty65 (.cons ty66 (.cons ty67 (.cons ty68 (.cons ty69 (.cons ty70 (.cons ty71 (.cons ty72 (.cons ty73 (.cons ty74 (.cons ty75 (.cons ty76 (.cons ty77 (.cons ty78 (.cons ty79 (.cons ty80 (.cons ty81 (.cons ty82 (.cons ty83 (.cons ty84 (.cons ty85 (.cons ty86 (.cons ty87 (.cons ty88 (.cons ty89 (.cons ty90 (.cons ty91 (.cons ty92 (.cons ty93 (.cons ty94 (.cons ty95 (.cons ty96 (.cons ty97 (.cons ty98 (.cons ty99 (.cons ty100 (.cons ty101 (.cons ty102 (.cons ty103 (.cons ty104 (.cons ty105 (.cons ty106 (.cons ty107 (.cons ty108 (.cons ty109 (.cons ty110 (.cons ty111 (.cons ty112 (.cons ty113 (.cons ty114 (.cons ty115 (.cons ty116 (.cons ty117 (.cons ty118 (.cons ty119 (.cons ty120 (.cons ty121 (.cons ty122 (.cons ty123 (.nil 124))))))))))))))))))))))))))))))))))))))))))))))))))))))))))))))
end Go.Proofs.YtgiompikfhhkmaaGreatDoor

namespace Go.Proofs.YtgiompikfhhkmaaGreatDoor
open Go Go.Sim
set_option maxRecDepth 100000
theorem ty124 : TyFact 124 Tab.t124 := ⟨⟨Tryz.t124,by kernel_rfl,by kernel_rfl,by kernel_rfl,fun z h => h⟩,by kernel_rfl,by kernel_rfl⟩
theorem ty125 : TyFact 125 Tab.t125 := ⟨⟨Tryz.t125,by kernel_rfl,by kernel_rfl,by kernel_rfl,fun z h => by cases h⟩,by kernel_rfl,by kernel_rfl⟩
theorem ty126 : TyFact 126 Tab.t126 := ⟨⟨Tryz.t126,by kernel_rfl,by kernel_rfl,by kernel_rfl,fun z h => h⟩,by kernel_rfl,by kernel_rfl⟩
theorem ty127 : TyFact 127 Tab.t127 := ⟨⟨Tryz.t127,by kernel_rfl,by kernel_rfl,by kernel_rfl,fun z h => h⟩,by kernel_rfl,by kernel_rfl⟩
theorem ty128 : TyFact 128 Tab.t128 := ⟨⟨Tryz.t128,by kernel_rfl,by kernel_rfl,by kernel_rfl,fun z h => h⟩,by kernel_rfl,by kernel_rfl⟩
theorem ty129 : TyFact 129 Tab.t129 := ⟨⟨Tryz.t129,by kernel_rfl,by kernel_rfl,by kernel_rfl,fun z h => h⟩,by kernel_rfl,by kernel_rfl⟩
theorem ty130 : TyFact 130 Tab.t130 := ⟨⟨Tryz.t130,by kernel_rfl,by kernel_rfl,by kernel_rfl,fun z h => h⟩,by kernel_rfl,by kernel_rfl⟩
theorem ty131 : TyFact 131 Tab.t131 := ⟨⟨Tryz.t131,by kernel_rfl,by kernel_rfl,by kernel_rfl,fun z h => h⟩,by kernel_rfl,by kernel_rfl⟩
theorem ty132 : TyFact 132 Tab.t132 := ⟨⟨Tryz.t132,by kernel_rfl,by kernel_rfl,by kernel_rfl,fun z h => h⟩,by kernel_rfl,by kernel_rfl⟩
theorem ty133 : TyFact 133 Tab.t133 := ⟨⟨Tryz.t133,by kernel_rfl,by kernel_rfl,by kernel_rfl,fun z h => h⟩,by kernel_rfl,by kernel_rfl⟩
theorem ty134 : TyFact 134 Tab.t134 := ⟨⟨Tryz.t134,by kernel_rfl,by kernel_rfl,by kernel_rfl,fun z h => h⟩,by kernel_rfl,by kernel_rfl⟩
theorem ty135 : TyFact 135 Tab.t135 := ⟨⟨Tryz.t135,by kernel_rfl,by kernel_rfl,by kernel_rfl,fun z h => h⟩,by kernel_rfl,by kernel_rfl⟩
theorem ty136 : TyFact 136 Tab.t136 := ⟨⟨Tryz.t136,by kernel_rfl,by kernel_rfl,by kernel_rfl,fun z h => h⟩,by kernel_rfl,by kernel_rfl⟩
theorem ty137 : TyFact 137 Tab.t137 := ⟨⟨Tryz.t137,by kernel_rfl,by kernel_rfl,by kernel_rfl,fun z h => h⟩,by kernel_rfl,by kernel_rfl⟩
theorem ty138 : TyFact 138 Tab.t138 := ⟨⟨Tryz.t138,by kernel_rfl,by kernel_rfl,by kernel_rfl,fun z h => h⟩,by kernel_rfl,by kernel_rfl⟩
theorem ty139 : TyFact 139 Tab.t139 := ⟨⟨Tryz.t139,by kernel_rfl,by kernel_rfl,by kernel_rfl,fun z h => h⟩,by kernel_rfl,by kernel_rfl⟩
theorem ty140 : TyFact 140 Tab.t140 := ⟨⟨Tryz.t140,by kernel_rfl,by kernel_rfl,by kernel_rfl,fun z h => h⟩,by kernel_rfl,by kernel_rfl⟩
theorem ty141 : TyFact 141 Tab.t141 := ⟨⟨Tryz.t141,by kernel_rfl,by kernel_rfl,by kernel_rfl,fun z h => h⟩,by kernel_rfl,by kernel_rfl⟩
theorem ty142 : TyFact 142 Tab.t142 := ⟨⟨Tryz.t142,by kernel_rfl,by kernel_rfl,by kernel_rfl,fun z h => h⟩,by kernel_rfl,by kernel_rfl⟩
theorem ty143 : TyFact 143 Tab.t143 := ⟨⟨Tryz.t143,by kernel_rfl,by kernel_rfl,by kernel_rfl,fun z h => h⟩,by kernel_rfl,by kernel_rfl⟩
theorem ty144 : TyFact 144 Tab.t144 := ⟨⟨Tryz.t144,by kernel_rfl,by kernel_rfl,by kernel_rfl,fun z h => h⟩,by kernel_rfl,by kernel_rfl⟩
theorem ty145 : TyFact 145 Tab.t145 := ⟨⟨Tryz.t145,by kernel_rfl,by kernel_rfl,by kernel_rfl,fun z h => h⟩,by kernel_rfl,by kernel_rfl⟩
theorem ty146 : TyFact 146 Tab.t146 := ⟨⟨Tryz.t146,by kernel_rfl,by kernel_rfl,by kernel_rfl,fun z h => h⟩,by kernel_rfl,by kernel_rfl⟩
theorem ty147 : TyFact 147 Tab.t147 := ⟨⟨Tryz.t147,by kernel_rfl,by kernel_rfl,by kernel_rfl,fun z h => h⟩,by kernel_rfl,by kernel_rfl⟩
theorem ty148 : TyFact 148 Tab.t148 := ⟨⟨Tryz.t148,by kernel_rfl,by kernel_rfl,by kernel_rfl,fun z h => h⟩,by kernel_rfl,by kernel_rfl⟩
theorem ty149 : TyFact 149 Tab.t149 := ⟨⟨Tryz.t149,by kernel_rfl,by kernel_rfl,by kernel_rfl,fun z h => h⟩,by kernel_rfl,by kernel_rfl⟩
theorem ty150 : TyFact 150 Tab.t150 := ⟨⟨Tryz.t150,by kernel_rfl,by kernel_rfl,by kernel_rfl,fun z h => h⟩,by kernel_rfl,by kernel_rfl⟩
theorem ty151 : TyFact 151 Tab.t151 := ⟨⟨Tryz.t151,by kernel_rfl,by kernel_rfl,by kernel_rfl,fun z h => h⟩,by kernel_rfl,by kernel_rfl⟩
theorem ty152 : TyFact 152 Tab.t152 := ⟨⟨Tryz.t152,by kernel_rfl,by kernel_rfl,by kernel_rfl,fun z h => by cases h⟩,by kernel_rfl,by kernel_rfl⟩
theorem ty153 : TyFact 153 Tab.t153 := ⟨⟨Tryz.t153,by kernel_rfl,by kernel_rfl,by kernel_rfl,fun z h => h⟩,by kernel_rfl,by kernel_rfl⟩
theorem ty154 : TyFact 154 Tab.t154 := ⟨⟨Tryz.t154,by kernel_rfl,by kernel_rfl,by kernel_rfl,fun z h => by cases h⟩,by kernel_rfl,by kernel_rfl⟩
theorem ty155 : TyFact 155 Tab.t155 := ⟨⟨Tryz.t155,by kernel_rfl,by kernel_rfl,by kernel_rfl,fun z h => h⟩,by kernel_rfl,by kernel_rfl⟩
theorem ty156 : TyFact 156 Tab.t156 := ⟨⟨Tryz.t156,by kernel_rfl,by kernel_rfl,by kernel_rfl,fun z h => h⟩,by kernel_rfl,by kernel_rfl⟩
theorem ty157 : TyFact 157 Tab.t157 := ⟨⟨Tryz.t157,by kernel_rfl,by kernel_rfl,by kernel_rfl,fun z h => by cases h⟩,by kernel_rfl,by kernel_rfl⟩
theorem ty158 : TyFact 158 Tab.t158 := ⟨⟨Tryz.t158,by kernel_rfl,by kernel_rfl,by kernel_rfl,fun z h => h⟩,by kernel_rfl,by kernel_rfl⟩
theorem ty159 : TyFact 159 Tab.t159 := ⟨⟨Tryz.t159,by kernel_rfl,by kernel_rfl,by kernel_rfl,fun z h => h⟩,by kernel_rfl,by kernel_rfl⟩
theorem ty160 : TyFact 160 Tab.t160 := ⟨⟨Tryz.t160,by kernel_rfl,by kernel_rfl,by kernel_rfl,fun z h => h⟩,by kernel_rfl,by kernel_rfl⟩
theorem ty161 : TyFact 161 Tab.t161 := ⟨⟨Tryz.t161,by kernel_rfl,by kernel_rfl,by kernel_rfl,fun z h => h⟩,by kernel_rfl,by kernel_rfl⟩
theorem ty162 : TyFact 162 Tab.t162 := ⟨⟨Tryz.t162,by kernel_rfl,by kernel_rfl,by kernel_rfl,fun z h => h⟩,by kernel_rfl,by kernel_rfl⟩
theorem ty163 : TyFact 163 Tab.t163 := ⟨⟨Tryz.t163,by kernel_rfl,by kernel_rfl,by kernel_rfl,fun z h => h⟩,by kernel_rfl,by kernel_rfl⟩
theorem ty164 : TyFact 164 Tab.t164 := ⟨⟨Tryz.t164,by kernel_rfl,by kernel_rfl,by kernel_rfl,fun z h => h⟩,by kernel_rfl,by kernel_rfl⟩
theorem ty165 : TyFact 165 Tab.t165 := ⟨⟨Tryz.t165,by kernel_rfl,by kernel_rfl,by kernel_rfl,fun z h => h⟩,by kernel_rfl,by kernel_rfl⟩
theorem ty166 : TyFact 166 Tab.t166 := ⟨⟨Tryz.t166,by kernel_rfl,by kernel_rfl,by kernel_rfl,fun z h => h⟩,by kernel_rfl,by kernel_rfl⟩
theorem ty167 : TyFact 167 Tab.t167 := ⟨⟨Tryz.t167,by kernel_rfl,by kernel_rfl,by kernel_rfl,fun z h => by cases h⟩,by kernel_rfl,by kernel_rfl⟩
theorem ty168 : TyFact 168 Tab.t168 := ⟨⟨Tryz.t168,by kernel_rfl,by kernel_rfl,by kernel_rfl,fun z h => h⟩,by kernel_rfl,by kernel_rfl⟩
theorem ty169 : TyFact 169 Tab.t169 := ⟨⟨Tryz.t169,by kernel_rfl,by kernel_rfl,by kernel_rfl,fun z h => h⟩,by kernel_rfl,by kernel_rfl⟩
theorem ty170 : TyFact 170 Tab.t170 := ⟨⟨Tryz.t170,by kernel_rfl,by kernel_rfl,by kernel_rfl,fun z h => by cases h⟩,by kernel_rfl,by kernel_rfl⟩
theorem ty171 : TyFact 171 Tab.t171 := ⟨⟨Tryz.t171,by kernel_rfl,by kernel_rfl,by kernel_rfl,fun z h => h⟩,by kernel_rfl,by kernel_rfl⟩
theorem ty172 : TyFact 172 Tab.t172 := ⟨⟨Tryz.t172,by kernel_rfl,by kernel_rfl,by kernel_rfl,fun z h => h⟩,by kernel_rfl,by kernel_rfl⟩
theorem ty173 : TyFact 173 Tab.t173 := ⟨⟨Tryz.t173,by kernel_rfl,by kernel_rfl,by kernel_rfl,fun z h => h⟩,by kernel_rfl,by kernel_rfl⟩
theorem ty174 : TyFact 174 Tab.t174 := ⟨⟨Tryz.t174,by kernel_rfl,by kernel_rfl,by kernel_rfl,fun z h => h⟩,by kernel_rfl,by kernel_rfl⟩
theorem ty175 : TyFact 175 Tab.t175 := ⟨⟨Tryz.t175,by kernel_rfl,by kernel_rfl,by kernel_rfl,fun z h => h⟩,by kernel_rfl,by kernel_rfl⟩
theorem ty176 : TyFact 176 Tab.t176 := ⟨⟨Tryz.t176,by kernel_rfl,by kernel_rfl,by kernel_rfl,fun z h => h⟩,by kernel_rfl,by kernel_rfl⟩
theorem ty177 : TyFact 177 Tab.t177 := ⟨⟨Tryz.t177,by kernel_rfl,by kernel_rfl,by kernel_rfl,fun z h => h⟩,by kernel_rfl,by kernel_rfl⟩
theorem ty178 : TyFact 178 Tab.t178 := ⟨⟨Tryz.t178,by kernel_rfl,by kernel_rfl,by kernel_rfl,fun z h => by cases h⟩,by kernel_rfl,by kernel_rfl⟩
theorem ty179 : TyFact 179 Tab.t179 := ⟨⟨Tryz.t179,by kernel_rfl,by kernel_rfl,by kernel_rfl,fun z h => h⟩,by kernel_rfl,by kernel_rfl⟩
theorem ty180 : TyFact 180 Tab.t180 := ⟨⟨Tryz.t180,by kernel_rfl,by kernel_rfl,by kernel_rfl,fun z h => by cases h⟩,by kernel_rfl,by kernel_rfl⟩
theorem ty181 : TyFact 181 Tab.t181 := ⟨⟨Tryz.t181,by kernel_rfl,by kernel_rfl,by kernel_rfl,fun z h => h⟩,by kernel_rfl,by kernel_rfl⟩
theorem ty182 : TyFact 182 Tab.t182 := ⟨⟨Tryz.t182,by kernel_rfl,by kernel_rfl,by kernel_rfl,fun z h => h⟩,by kernel_rfl,by kernel_rfl⟩
theorem ty183 : TyFact 183 Tab.t183 := ⟨⟨Tryz.t183,by kernel_rfl,by kernel_rfl,by kernel_rfl,fun z h => h⟩,by kernel_rfl,by kernel_rfl⟩
theorem ty184 : TyFact 184 Tab.t184 := ⟨⟨Tryz.t184,by kernel_rfl,by kernel_rfl,by kernel_rfl,fun z h => h⟩,by kernel_rfl,by kernel_rfl⟩
theorem ty185 : TyFact 185 Tab.t185 := ⟨⟨Tryz.t185,by kernel_rfl,by kernel_rfl,by kernel_rfl,fun z h => h⟩,by kernel_rfl,by kernel_rfl⟩
theorem tys2 : AllFrom TyFact 124 [Tab.t124,Tab.t125,Tab.t126,Tab.t127,Tab.t128,Tab.t129,Tab.t130,Tab.t131,Tab.t132,Tab.t133,Tab.t134,Tab.t135,Tab.t136,Tab.t137,Tab.t138,Tab.t139,Tab.t140,Tab.t141,Tab.t142,Tab.t143,Tab.t144,Tab.t145,Tab.t146,Tab.t147,Tab.t148,Tab.t149,Tab.t150,Tab.t151,Tab.t152,Tab.t153,Tab.t154,Tab.t155,Tab.t156,Tab.t157,Tab.t158,Tab.t159,Tab.t160,Tab.t161,Tab.t162,Tab.t163,Tab.t164,Tab.t165,Tab.t166,Tab.t167,Tab.t168,Tab.t169,Tab.t170,Tab.t171,Tab.t172,Tab.t173,Tab.t174,Tab.t175,Tab.t176,Tab.t177,Tab.t178,Tab.t179,Tab.t180,Tab.t181,Tab.t182,Tab.t183,Tab.t184,Tab.t185] := .cons ty124 (.cons ty125 (.cons ty126 (.cons ty127 (.cons ty128 (.cons ty129 (.cons ty130 (.cons ty131 (.cons ty132 (.cons ty133 (.cons ty134 (.cons ty135 (.cons ty136 (.cons ty137 (.cons ty138 (.cons ty139 (.cons ty140 (.cons ty141 (.cons ty142 (.cons ty143 (.cons ty144 (.cons ty145 (.cons ty146 (.cons ty147 (.cons ty148 (.cons ty149 (.cons ty150 (.cons ty151 (.cons ty152 (.cons ty153 (.cons ty154 (.cons ty155 (.cons ty156 (.cons ty157 (.cons ty158 (.cons ty159 (.cons ty160 (.cons ty161 (.cons ty162 (.cons ty163 (.cons ty164 (.cons ty165 (.cons ty166 (.cons ty167 (.cons ty168 (.cons ty169 (.cons ty170 (.cons ty171 (.cons ty172 (.cons ty173 (.cons ty174 (.cons ty175 (.cons ty176 (.cons ty177 (.cons ty178 (.cons ty179 (.cons ty180 (.cons ty181 (.cons ty182 (.cons ty183 (.cons ty184 (.cons ty185 (.nil 186))))))))))))))))))))))))))))))))))))))))))))))))))))))))))))))
end Go.Proofs.YtgiompikfhhkmaaGreatDoor

namespace Go.Proofs.YtgiompikfhhkmaaGreatDoor
open Go Go.Sim
set_option maxRecDepth 100000
theorem ty186 : TyFact 186 Tab.t186 := ⟨⟨Tryz.t186,by kernel_rfl,by kernel_rfl,by kernel_rfl,fun z h => h⟩,by kernel_rfl,by kernel_rfl⟩
theorem ty187 : TyFact 187 Tab.t187 := ⟨⟨Tryz.t187,by kernel_rfl,by kernel_rfl,by kernel_rfl,fun z h => h⟩,by kernel_rfl,by kernel_rfl⟩
theorem ty188 : TyFact 188 Tab.t188 := ⟨⟨Tryz.t188,by kernel_rfl,by kernel_rfl,by kernel_rfl,fun z h => h⟩,by kernel_rfl,by kernel_rfl⟩
theorem ty189 : TyFact 189 Tab.t189 := ⟨⟨Tryz.t189,by kernel_rfl,by kernel_rfl,by kernel_rfl,fun z h => h⟩,by kernel_rfl,by kernel_rfl⟩
theorem ty190 : TyFact 190 Tab.t190 := ⟨⟨Tryz.t190,by kernel_rfl,by kernel_rfl,by kernel_rfl,fun z h => h⟩,by kernel_rfl,by kernel_rfl⟩
theorem ty191 : TyFact 191 Tab.t191 := ⟨⟨Tryz.t191,by kernel_rfl,by kernel_rfl,by kernel_rfl,fun z h => h⟩,by kernel_rfl,by kernel_rfl⟩
theorem ty192 : TyFact 192 Tab.t192 := ⟨⟨Tryz.t192,by kernel_rfl,by kernel_rfl,by kernel_rfl,fun z h => h⟩,by kernel_rfl,by kernel_rfl⟩
theorem ty193 : TyFact 193 Tab.t193 := ⟨⟨Tryz.t193,by kernel_rfl,by kernel_rfl,by kernel_rfl,fun z h => h⟩,by kernel_rfl,by kernel_rfl⟩
theorem ty194 : TyFact 194 Tab.t194 := ⟨⟨Tryz.t194,by kernel_rfl,by kernel_rfl,by kernel_rfl,fun z h => h⟩,by kernel_rfl,by kernel_rfl⟩
theorem ty195 : TyFact 195 Tab.t195 := ⟨⟨Tryz.t195,by kernel_rfl,by kernel_rfl,by kernel_rfl,fun z h => h⟩,by kernel_rfl,by kernel_rfl⟩
theorem ty196 : TyFact 196 Tab.t196 := ⟨⟨Tryz.t196,by kernel_rfl,by kernel_rfl,by kernel_rfl,fun z h => h⟩,by kernel_rfl,by kernel_rfl⟩
theorem ty197 : TyFact 197 Tab.t197 := ⟨⟨Tryz.t197,by kernel_rfl,by kernel_rfl,by kernel_rfl,fun z h => h⟩,by kernel_rfl,by kernel_rfl⟩
theorem ty198 : TyFact 198 Tab.t198 := ⟨⟨Tryz.t198,by kernel_rfl,by kernel_rfl,by kernel_rfl,fun z h => h⟩,by kernel_rfl,by kernel_rfl⟩
theorem ty199 : TyFact 199 Tab.t199 := ⟨⟨Tryz.t199,by kernel_rfl,by kernel_rfl,by kernel_rfl,fun z h => h⟩,by kernel_rfl,by kernel_rfl⟩
theorem ty200 : TyFact 200 Tab.t200 := ⟨⟨Tryz.t200,by kernel_rfl,by kernel_rfl,by kernel_rfl,fun z h => by cases h⟩,by kernel_rfl,by kernel_rfl⟩
theorem ty201 : TyFact 201 Tab.t201 := ⟨⟨Tryz.t201,by kernel_rfl,by kernel_rfl,by kernel_rfl,fun z h => h⟩,by kernel_rfl,by kernel_rfl⟩
theorem ty202 : TyFact 202 Tab.t202 := ⟨⟨Tryz.t202,by kernel_rfl,by kernel_rfl,by kernel_rfl,fun z h => h⟩,by kernel_rfl,by kernel_rfl⟩
theorem ty203 : TyFact 203 Tab.t203 := ⟨⟨Tryz.t203,by kernel_rfl,by kernel_rfl,by kernel_rfl,fun z h => h⟩,by kernel_rfl,by kernel_rfl⟩
theorem ty204 : TyFact 204 Tab.t204 := ⟨⟨Tryz.t204,by kernel_rfl,by kernel_rfl,by kernel_rfl,fun z h => h⟩,by kernel_rfl,by kernel_rfl⟩
theorem ty205 : TyFact 205 Tab.t205 := ⟨⟨Tryz.t205,by kernel_rfl,by kernel_rfl,by kernel_rfl,fun z h => h⟩,by kernel_rfl,by kernel_rfl⟩
theorem ty206 : TyFact 206 Tab.t206 := ⟨⟨Tryz.t206,by kernel_rfl,by kernel_rfl,by kernel_rfl,fun z h => h⟩,by kernel_rfl,by kernel_rfl⟩
theorem ty207 : TyFact 207 Tab.t207 := ⟨⟨Tryz.t207,by kernel_rfl,by kernel_rfl,by kernel_rfl,fun z h => h⟩,by kernel_rfl,by kernel_rfl⟩
theorem ty208 : TyFact 208 Tab.t208 := ⟨⟨Tryz.t208,by kernel_rfl,by kernel_rfl,by kernel_rfl,fun z h => h⟩,by kernel_rfl,by kernel_rfl⟩
theorem ty209 : TyFact 209 Tab.t209 := ⟨⟨Tryz.t209,by kernel_rfl,by kernel_rfl,by kernel_rfl,fun z h => h⟩,by kernel_rfl,by kernel_rfl⟩
theorem ty210 : TyFact 210 Tab.t210 := ⟨⟨Tryz.t210,by kernel_rfl,by kernel_rfl,by kernel_rfl,fun z h => h⟩,by kernel_rfl,by kernel_rfl⟩
theorem ty211 : TyFact 211 Tab.t211 := ⟨⟨Tryz.t211,by kernel_rfl,by kernel_rfl,by kernel_rfl,fun z h => by cases h⟩,by kernel_rfl,by kernel_rfl⟩
theorem ty212 : TyFact 212 Tab.t212 := ⟨⟨Tryz.t212,by kernel_rfl,by kernel_rfl,by kernel_rfl,fun z h => h⟩,by kernel_rfl,by kernel_rfl⟩
theorem ty213 : TyFact 213 Tab.t213 := ⟨⟨Tryz.t213,by kernel_rfl,by kernel_rfl,by kernel_rfl,fun z h => h⟩,by kernel_rfl,by kernel_rfl⟩
theorem ty214 : TyFact 214 Tab.t214 := ⟨⟨Tryz.t214,by kernel_rfl,by kernel_rfl,by kernel_rfl,fun z h => h⟩,by kernel_rfl,by kernel_rfl⟩
theorem ty215 : TyFact 215 Tab.t215 := ⟨⟨Tryz.t215,by kernel_rfl,by kernel_rfl,by kernel_rfl,fun z h => h⟩,by kernel_rfl,by kernel_rfl⟩
theorem ty216 : TyFact 216 Tab.t216 := ⟨⟨Tryz.t216,by kernel_rfl,by kernel_rfl,by kernel_rfl,fun z h => h⟩,by kernel_rfl,by kernel_rfl⟩
theorem ty217 : TyFact 217 Tab.t217 := ⟨⟨Tryz.t217,by kernel_rfl,by kernel_rfl,by kernel_rfl,fun z h => h⟩,by kernel_rfl,by kernel_rfl⟩
theorem ty218 : TyFact 218 Tab.t218 := ⟨⟨Tryz.t218,by kernel_rfl,by kernel_rfl,by kernel_rfl,fun z h => h⟩,by kernel_rfl,by kernel_rfl⟩
theorem ty219 : TyFact 219 Tab.t219 := ⟨⟨Tryz.t219,by kernel_rfl,by kernel_rfl,by kernel_rfl,fun z h => h⟩,by kernel_rfl,by kernel_rfl⟩
theorem ty220 : TyFact 220 Tab.t220 := ⟨⟨Tryz.t220,by kernel_rfl,by kernel_rfl,by kernel_rfl,fun z h => h⟩,by kernel_rfl,by kernel_rfl⟩
theorem ty221 : TyFact 221 Tab.t221 := ⟨⟨Tryz.t221,by kernel_rfl,by kernel_rfl,by kernel_rfl,fun z h => h⟩,by kernel_rfl,by kernel_rfl⟩
theorem ty222 : TyFact 222 Tab.t222 := ⟨⟨Tryz.t222,by kernel_rfl,by kernel_rfl,by kernel_rfl,fun z h => h⟩,by kernel_rfl,by kernel_rfl⟩
theorem ty223 : TyFact 223 Tab.t223 := ⟨⟨Tryz.t223,by kernel_rfl,by kernel_rfl,by kernel_rfl,fun z h => h⟩,by kernel_rfl,by kernel_rfl⟩
theorem ty224 : TyFact 224 Tab.t224 := ⟨⟨Tryz.t224,by kernel_rfl,by kernel_rfl,by kernel_rfl,fun z h => h⟩,by kernel_rfl,by kernel_rfl⟩
theorem ty225 : TyFact 225 Tab.t225 := ⟨⟨Tryz.t225,by kernel_rfl,by kernel_rfl,by kernel_rfl,fun z h => h⟩,by kernel_rfl,by kernel_rfl⟩
theorem ty226 : TyFact 226 Tab.t226 := ⟨⟨Tryz.t226,by kernel_rfl,by kernel_rfl,by kernel_rfl,fun z h => h⟩,by kernel_rfl,by kernel_rfl⟩
theorem ty227 : TyFact 227 Tab.t227 := ⟨⟨Tryz.t227,by kernel_rfl,by kernel_rfl,by kernel_rfl,fun z h => h⟩,by kernel_rfl,by kernel_rfl⟩
theorem ty228 : TyFact 228 Tab.t228 := ⟨⟨Tryz.t228,by kernel_rfl,by kernel_rfl,by kernel_rfl,fun z h => h⟩,by kernel_rfl,by kernel_rfl⟩
theorem ty229 : TyFact 229 Tab.t229 := ⟨⟨Tryz.t229,by kernel_rfl,by kernel_rfl,by kernel_rfl,fun z h => h⟩,by kernel_rfl,by kernel_rfl⟩
theorem ty230 : TyFact 230 Tab.t230 := ⟨⟨Tryz.t230,by kernel_rfl,by kernel_rfl,by kernel_rfl,fun z h => h⟩,by kernel_rfl,by kernel_rfl⟩
theorem ty231 : TyFact 231 Tab.t231 := ⟨⟨Tryz.t231,by kernel_rfl,by kernel_rfl,by kernel_rfl,fun z h => h⟩,by kernel_rfl,by kernel_rfl⟩
theorem ty232 : TyFact 232 Tab.t232 := ⟨⟨Tryz.t232,by kernel_rfl,by kernel_rfl,by kernel_rfl,fun z h => by cases h⟩,by kernel_rfl,by kernel_rfl⟩
theorem ty233 : TyFact 233 Tab.t233 := ⟨⟨Tryz.t233,by kernel_rfl,by kernel_rfl,by kernel_rfl,fun z h => h⟩,by kernel_rfl,by kernel_rfl⟩
theorem ty234 : TyFact 234 Tab.t234 := ⟨⟨Tryz.t234,by kernel_rfl,by kernel_rfl,by kernel_rfl,fun z h => by cases h⟩,by kernel_rfl,by kernel_rfl⟩
theorem ty235 : TyFact 235 Tab.t235 := ⟨⟨Tryz.t235,by kernel_rfl,by kernel_rfl,by kernel_rfl,fun z h => h⟩,by kernel_rfl,by kernel_rfl⟩
theorem ty236 : TyFact 236 Tab.t236 := ⟨⟨Tryz.t236,by kernel_rfl,by kernel_rfl,by kernel_rfl,fun z h => h⟩,by kernel_rfl,by kernel_rfl⟩
theorem ty237 : TyFact 237 Tab.t237 := ⟨⟨Tryz.t237,by kernel_rfl,by kernel_rfl,by kernel_rfl,fun z h => h⟩,by kernel_rfl,by kernel_rfl⟩
theorem ty238 : TyFact 238 Tab.t238 := ⟨⟨Tryz.t238,by kernel_rfl,by kernel_rfl,by kernel_rfl,fun z h => h⟩,by kernel_rfl,by kernel_rfl⟩
theorem ty239 : TyFact 239 Tab.t239 := ⟨⟨Tryz.t239,by kernel_rfl,by kernel_rfl,by kernel_rfl,fun z h => h⟩,by kernel_rfl,by kernel_rfl⟩
theorem ty240 : TyFact 240 Tab.t240 := ⟨⟨Tryz.t240,by kernel_rfl,by kernel_rfl,by kernel_rfl,fun z h => h⟩,by kernel_rfl,by kernel_rfl⟩
theorem ty241 : TyFact 241 Tab.t241 := ⟨⟨Tryz.t241,by kernel_rfl,by kernel_rfl,by kernel_rfl,fun z h => h⟩,by kernel_rfl,by kernel_rfl⟩
theorem ty242 : TyFact 242 Tab.t242 := ⟨⟨Tryz.t242,by kernel_rfl,by kernel_rfl,by kernel_rfl,fun z h => h⟩,by kernel_rfl,by kernel_rfl⟩
theorem ty243 : TyFact 243 Tab.t243 := ⟨⟨Tryz.t243,by kernel_rfl,by kernel_rfl,by kernel_rfl,fun z h => h⟩,by kernel_rfl,by kernel_rfl⟩
theorem ty244 : TyFact 244 Tab.t244 := ⟨⟨Tryz.t244,by kernel_rfl,by kernel_rfl,by kernel_rfl,fun z h => h⟩,by kernel_rfl,by kernel_rfl⟩
theorem ty245 : TyFact 245 Tab.t245 := ⟨⟨Tryz.t245,by kernel_rfl,by kernel_rfl,by kernel_rfl,fun z h => h⟩,by kernel_rfl,by kernel_rfl⟩
theorem ty246 : TyFact 246 Tab.t246 := ⟨⟨Tryz.t246,by kernel_rfl,by kernel_rfl,by kernel_rfl,fun z h => h⟩,by kernel_rfl,by kernel_rfl⟩
theorem ty247 : TyFact 247 Tab.t247 := ⟨⟨Tryz.t247,by kernel_rfl,by kernel_rfl,by kernel_rfl,fun z h => h⟩,by kernel_rfl,by kernel_rfl⟩
theorem tys3 : AllFrom TyFact 186 [Tab.t186,Tab.t187,Tab.t188,Tab.t189,Tab.t190,Tab.t191,Tab.t192,Tab.t193,Tab.t194,Tab.t195,Tab.t196,Tab.t197,Tab.t198,Tab.t199,Tab.t200,Tab.t201,Tab.t202,Tab.t203,Tab.t204,Tab.t205,Tab.t206,Tab.t207,Tab.t208,Tab.t209,Tab.t210,Tab.t211,Tab.t212,Tab.t213,Tab.t214,Tab.t215,Tab.t216,Tab.t217,Tab.t218,Tab.t219,Tab.t220,Tab.t221,Tab.t222,Tab.t223,Tab.t224,Tab.t225,Tab.t226,Tab.t227,Tab.t228,Tab.t229,Tab.t230,Tab.t231,Tab.t232,Tab.t233,Tab.t234,Tab.t235,Tab.t236,Tab.t237,Tab.t238,Tab.t239,Tab.t240,Tab.t241,Tab.t242,Tab.t243,Tab.t244,Tab.t245,Tab.t246,Tab.t247] := .cons ty186 (.cons ty187 (.cons ty188 (.cons ty189 (.cons ty190 (.cons ty191 (.cons ty192 (.cons ty193 (.cons ty194 (.cons ty195 (.cons ty196 (.cons ty197 (.cons ty198 (.cons ty199 (.cons ty200 (.cons ty201 (.cons ty202 (.cons ty203 (.cons ty204 (.cons ty205 (.cons ty206 (.cons ty207 (.cons ty208 (.cons ty209 (.cons ty210 (.cons ty211 (.cons ty212 (.cons ty213 (.cons ty214 (.cons ty215 (.cons ty216 (.cons ty217 (.cons ty218 (.cons ty219 (.cons ty220 (.cons ty221 (.cons ty222 (.cons ty223 (.cons ty224 (.cons ty225 (.cons ty226 (.cons ty227 (.cons ty228 (.cons ty229 (.cons ty230 (.cons ty231 (.cons ty232 (.cons ty233 (.cons ty234 (.cons ty235 (.cons ty236 (.cons ty237 (.cons ty238 (.cons ty239 (.cons ty240 (.cons ty241 (.cons ty242 (.cons ty243 (.cons ty244 (.cons ty245 (.cons ty246 (.cons ty247 (.nil 248))))))))))))))))))))))))))))))))))))))))))))))))))))))))))))))
end Go.Proofs.YtgiompikfhhkmaaGreatDoor

namespace Go.Proofs.YtgiompikfhhkmaaGreatDoor
open Go Go.Sim
set_option maxRecDepth 100000
theorem ty248 : TyFact 248 Tab.t248 := ⟨⟨Tryz.t248,by kernel_rfl,by kernel_rfl,by kernel_rfl,fun z h => h⟩,by kernel_rfl,by kernel_rfl⟩
theorem ty249 : TyFact 249 Tab.t249 := ⟨⟨Tryz.t249,by kernel_rfl,by kernel_rfl,by kernel_rfl,fun z h => h⟩,by kernel_rfl,by kernel_rfl⟩
theorem ty250 : TyFact 250 Tab.t250 := ⟨⟨Tryz.t250,by kernel_rfl,by kernel_rfl,by kernel_rfl,fun z h => h⟩,by kernel_rfl,by kernel_rfl⟩
theorem ty251 : TyFact 251 Tab.t251 := ⟨⟨Tryz.t251,by kernel_rfl,by kernel_rfl,by kernel_rfl,fun z h => h⟩,by kernel_rfl,by kernel_rfl⟩
theorem ty252 : TyFact 252 Tab.t252 := ⟨⟨Tryz.t252,by kernel_rfl,by kernel_rfl,by kernel_rfl,fun z h => h⟩,by kernel_rfl,by kernel_rfl⟩
theorem ty253 : TyFact 253 Tab.t253 := ⟨⟨Tryz.t253,by kernel_rfl,by kernel_rfl,by kernel_rfl,fun z h => h⟩,by kernel_rfl,by kernel_rfl⟩
theorem ty254 : TyFact 254 Tab.t254 := ⟨⟨Tryz.t254,by kernel_rfl,by kernel_rfl,by kernel_rfl,fun z h => h⟩,by kernel_rfl,by kernel_rfl⟩
theorem ty255 : TyFact 255 Tab.t255 := ⟨⟨Tryz.t255,by kernel_rfl,by kernel_rfl,by kernel_rfl,fun z h => h⟩,by kernel_rfl,by kernel_rfl⟩
theorem ty256 : TyFact 256 Tab.t256 := ⟨⟨Tryz.t256,by kernel_rfl,by kernel_rfl,by kernel_rfl,fun z h => h⟩,by kernel_rfl,by kernel_rfl⟩
theorem ty257 : TyFact 257 Tab.t257 := ⟨⟨Tryz.t257,by kernel_rfl,by kernel_rfl,by kernel_rfl,fun z h => h⟩,by kernel_rfl,by kernel_rfl⟩
theorem ty258 : TyFact 258 Tab.t258 := ⟨⟨Tryz.t258,by kernel_rfl,by kernel_rfl,by kernel_rfl,fun z h => h⟩,by kernel_rfl,by kernel_rfl⟩
theorem ty259 : TyFact 259 Tab.t259 := ⟨⟨Tryz.t259,by kernel_rfl,by kernel_rfl,by kernel_rfl,fun z h => h⟩,by kernel_rfl,by kernel_rfl⟩
theorem ty260 : TyFact 260 Tab.t260 := ⟨⟨Tryz.t260,by kernel_rfl,by kernel_rfl,by kernel_rfl,fun z h => h⟩,by kernel_rfl,by kernel_rfl⟩
theorem ty261 : TyFact 261 Tab.t261 := ⟨⟨Tryz.t261,by kernel_rfl,by kernel_rfl,by kernel_rfl,fun z h => h⟩,by kernel_rfl,by kernel_rfl⟩
theorem ty262 : TyFact 262 Tab.t262 := ⟨⟨Tryz.t262,by kernel_rfl,by kernel_rfl,by kernel_rfl,fun z h => h⟩,by kernel_rfl,by kernel_rfl⟩
theorem ty263 : TyFact 263 Tab.t263 := ⟨⟨Tryz.t263,by kernel_rfl,by kernel_rfl,by kernel_rfl,fun z h => h⟩,by kernel_rfl,by kernel_rfl⟩
theorem ty264 : TyFact 264 Tab.t264 := ⟨⟨Tryz.t264,by kernel_rfl,by kernel_rfl,by kernel_rfl,fun z h => h⟩,by kernel_rfl,by kernel_rfl⟩
theorem ty265 : TyFact 265 Tab.t265 := ⟨⟨Tryz.t265,by kernel_rfl,by kernel_rfl,by kernel_rfl,fun z h => h⟩,by kernel_rfl,by kernel_rfl⟩
theorem ty266 : TyFact 266 Tab.t266 := ⟨⟨Tryz.t266,by kernel_rfl,by kernel_rfl,by kernel_rfl,fun z h => by cases h⟩,by kernel_rfl,by kernel_rfl⟩
theorem ty267 : TyFact 267 Tab.t267 := ⟨⟨Tryz.t267,by kernel_rfl,by kernel_rfl,by kernel_rfl,fun z h => h⟩,by kernel_rfl,by kernel_rfl⟩
theorem ty268 : TyFact 268 Tab.t268 := ⟨⟨Tryz.t268,by kernel_rfl,by kernel_rfl,by kernel_rfl,fun z h => h⟩,by kernel_rfl,by kernel_rfl⟩
theorem ty269 : TyFact 269 Tab.t269 := ⟨⟨Tryz.t269,by kernel_rfl,by kernel_rfl,by kernel_rfl,fun z h => h⟩,by kernel_rfl,by kernel_rfl⟩
theorem ty270 : TyFact 270 Tab.t270 := ⟨⟨Tryz.t270,by kernel_rfl,by kernel_rfl,by kernel_rfl,fun z h => h⟩,by kernel_rfl,by kernel_rfl⟩
theorem ty271 : TyFact 271 Tab.t271 := ⟨⟨Tryz.t271,by kernel_rfl,by kernel_rfl,by kernel_rfl,fun z h => h⟩,by kernel_rfl,by kernel_rfl⟩
theorem ty272 : TyFact 272 Tab.t272 := ⟨⟨Tryz.t272,by kernel_rfl,by kernel_rfl,by kernel_rfl,fun z h => h⟩,by kernel_rfl,by kernel_rfl⟩
theorem ty273 : TyFact 273 Tab.t273 := ⟨⟨Tryz.t273,by kernel_rfl,by kernel_rfl,by kernel_rfl,fun z h => h⟩,by kernel_rfl,by kernel_rfl⟩
theorem ty274 : TyFact 274 Tab.t274 := ⟨⟨Tryz.t274,by kernel_rfl,by kernel_rfl,by kernel_rfl,fun z h => h⟩,by kernel_rfl,by kernel_rfl⟩
theorem ty275 : TyFact 275 Tab.t275 := ⟨⟨Tryz.t275,by kernel_rfl,by kernel_rfl,by kernel_rfl,fun z h => h⟩,by kernel_rfl,by kernel_rfl⟩
theorem ty276 : TyFact 276 Tab.t276 := ⟨⟨Tryz.t276,by kernel_rfl,by kernel_rfl,by kernel_rfl,fun z h => h⟩,by kernel_rfl,by kernel_rfl⟩
theorem ty277 : TyFact 277 Tab.t277 := ⟨⟨Tryz.t277,by kernel_rfl,by kernel_rfl,by kernel_rfl,fun z h => by cases h⟩,by kernel_rfl,by kernel_rfl⟩
theorem ty278 : TyFact 278 Tab.t278 := ⟨⟨Tryz.t278,by kernel_rfl,by kernel_rfl,by kernel_rfl,fun z h => h⟩,by kernel_rfl,by kernel_rfl⟩
theorem ty279 : TyFact 279 Tab.t279 := ⟨⟨Tryz.t279,by kernel_rfl,by kernel_rfl,by kernel_rfl,fun z h => h⟩,by kernel_rfl,by kernel_rfl⟩
theorem ty280 : TyFact 280 Tab.t280 := ⟨⟨Tryz.t280,by kernel_rfl,by kernel_rfl,by kernel_rfl,fun z h => h⟩,by kernel_rfl,by kernel_rfl⟩
theorem ty281 : TyFact 281 Tab.t281 := ⟨⟨Tryz.t281,by kernel_rfl,by kernel_rfl,by kernel_rfl,fun z h => h⟩,by kernel_rfl,by kernel_rfl⟩
theorem ty282 : TyFact 282 Tab.t282 := ⟨⟨Tryz.t282,by kernel_rfl,by kernel_rfl,by kernel_rfl,fun z h => by cases h⟩,by kernel_rfl,by kernel_rfl⟩
theorem ty283 : TyFact 283 Tab.t283 := ⟨⟨Tryz.t283,by kernel_rfl,by kernel_rfl,by kernel_rfl,fun z h => h⟩,by kernel_rfl,by kernel_rfl⟩
theorem ty284 : TyFact 284 Tab.t284 := ⟨⟨Tryz.t284,by kernel_rfl,by kernel_rfl,by kernel_rfl,fun z h => h⟩,by kernel_rfl,by kernel_rfl⟩
theorem ty285 : TyFact 285 Tab.t285 := ⟨⟨Tryz.t285,by kernel_rfl,by kernel_rfl,by kernel_rfl,fun z h => h⟩,by kernel_rfl,by kernel_rfl⟩
theorem ty286 : TyFact 286 Tab.t286 := ⟨⟨Tryz.t286,by kernel_rfl,by kernel_rfl,by kernel_rfl,fun z h => h⟩,by kernel_rfl,by kernel_rfl⟩
theorem ty287 : TyFact 287 Tab.t287 := ⟨⟨Tryz.t287,by kernel_rfl,by kernel_rfl,by kernel_rfl,fun z h => h⟩,by kernel_rfl,by kernel_rfl⟩
theorem ty288 : TyFact 288 Tab.t288 := ⟨⟨Tryz.t288,by kernel_rfl,by kernel_rfl,by kernel_rfl,fun z h => h⟩,by kernel_rfl,by kernel_rfl⟩
theorem ty289 : TyFact 289 Tab.t289 := ⟨⟨Tryz.t289,by kernel_rfl,by kernel_rfl,by kernel_rfl,fun z h => h⟩,by kernel_rfl,by kernel_rfl⟩
theorem ty290 : TyFact 290 Tab.t290 := ⟨⟨Tryz.t290,by kernel_rfl,by kernel_rfl,by kernel_rfl,fun z h => h⟩,by kernel_rfl,by kernel_rfl⟩
theorem ty291 : TyFact 291 Tab.t291 := ⟨⟨Tryz.t291,by kernel_rfl,by kernel_rfl,by kernel_rfl,fun z h => h⟩,by kernel_rfl,by kernel_rfl⟩
theorem ty292 : TyFact 292 Tab.t292 := ⟨⟨Tryz.t292,by kernel_rfl,by kernel_rfl,by kernel_rfl,fun z h => h⟩,by kernel_rfl,by kernel_rfl⟩
theorem ty293 : TyFact 293 Tab.t293 := ⟨⟨Tryz.t293,by kernel_rfl,by kernel_rfl,by kernel_rfl,fun z h => by cases h⟩,by kernel_rfl,by kernel_rfl⟩
theorem ty294 : TyFact 294 Tab.t294 := ⟨⟨Tryz.t294,by kernel_rfl,by kernel_rfl,by kernel_rfl,fun z h => h⟩,by kernel_rfl,by kernel_rfl⟩
theorem ty295 : TyFact 295 Tab.t295 := ⟨⟨Tryz.t295,by kernel_rfl,by kernel_rfl,by kernel_rfl,fun z h => h⟩,by kernel_rfl,by kernel_rfl⟩
theorem ty296 : TyFact 296 Tab.t296 := ⟨⟨Tryz.t296,by kernel_rfl,by kernel_rfl,by kernel_rfl,fun z h => h⟩,by kernel_rfl,by kernel_rfl⟩
theorem ty297 : TyFact 297 Tab.t297 := ⟨⟨Tryz.t297,by kernel_rfl,by kernel_rfl,by kernel_rfl,fun z h => h⟩,by kernel_rfl,by kernel_rfl⟩
theorem ty298 : TyFact 298 Tab.t298 := ⟨⟨Tryz.t298,by kernel_rfl,by kernel_rfl,by kernel_rfl,fun z h => h⟩,by kernel_rfl,by kernel_rfl⟩
theorem ty299 : TyFact 299 Tab.t299 := ⟨⟨Tryz.t299,by kernel_rfl,by kernel_rfl,by kernel_rfl,fun z h => h⟩,by kernel_rfl,by kernel_rfl⟩
theorem ty300 : TyFact 300 Tab.t300 := ⟨⟨Tryz.t300,by kernel_rfl,by kernel_rfl,by kernel_rfl,fun z h => h⟩,by kernel_rfl,by kernel_rfl⟩
theorem ty301 : TyFact 301 Tab.t301 := ⟨⟨Tryz.t301,by kernel_rfl,by kernel_rfl,by kernel_rfl,fun z h => h⟩,by kernel_rfl,by kernel_rfl⟩
theorem ty302 : TyFact 302 Tab.t302 := ⟨⟨Tryz.t302,by kernel_rfl,by kernel_rfl,by kernel_rfl,fun z h => h⟩,by kernel_rfl,by kernel_rfl⟩
theorem ty303 : TyFact 303 Tab.t303 := ⟨⟨Tryz.t303,by kernel_rfl,by kernel_rfl,by kernel_rfl,fun z h => h⟩,by kernel_rfl,by kernel_rfl⟩
theorem ty304 : TyFact 304 Tab.t304 := ⟨⟨Tryz.t304,by kernel_rfl,by kernel_rfl,by kernel_rfl,fun z h => h⟩,by kernel_rfl,by kernel_rfl⟩
theorem ty305 : TyFact 305 Tab.t305 := ⟨⟨Tryz.t305,by kernel_rfl,by kernel_rfl,by kernel_rfl,fun z h => h⟩,by kernel_rfl,by kernel_rfl⟩
theorem ty306 : TyFact 306 Tab.t306 := ⟨⟨Tryz.t306,by kernel_rfl,by kernel_rfl,by kernel_rfl,fun z h => h⟩,by kernel_rfl,by kernel_rfl⟩
theorem ty307 : TyFact 307 Tab.t307 := ⟨⟨Tryz.t307,by kernel_rfl,by kernel_rfl,by kernel_rfl,fun z h => h⟩,by kernel_rfl,by kernel_rfl⟩
theorem ty308 : TyFact 308 Tab.t308 := ⟨⟨Tryz.t308,by kernel_rfl,by kernel_rfl,by kernel_rfl,fun z h => h⟩,by kernel_rfl,by kernel_rfl⟩
theorem ty309 : TyFact 309 Tab.t309 := ⟨⟨Tryz.t309,by kernel_rfl,by kernel_rfl,by kernel_rfl,fun z h => h⟩,by kernel_rfl,by kernel_rfl⟩
theorem tys4 : AllFrom TyFact 248 [Tab.t248,Tab.t249,Tab.t250,Tab.t251,Tab.t252,Tab.t253,Tab.t254,Tab.t255,Tab.t256,Tab.t257,Tab.t258,Tab.t259,Tab.t260,Tab.t261,Tab.t262,Tab.t263,Tab.t264,Tab.t265,Tab.t266,Tab.t267,Tab.t268,Tab.t269,Tab.t270,Tab.t271,Tab.t272,Tab.t273,Tab.t274,Tab.t275,Tab.t276,Tab.t277,Tab.t278,Tab.t279,Tab.t280,Tab.t281,Tab.t282,Tab.t283,Tab.t284,Tab.t285,Tab.t286,Tab.t287,Tab.t288,Tab.t289,Tab.t290,Tab.t291,Tab.t292,Tab.t293,Tab.t294,Tab.t295,Tab.t296,Tab.t297,Tab.t298,Tab.t299,Tab.t300,Tab.t301,Tab.t302,Tab.t303,Tab.t304,Tab.t305,Tab.t306,Tab.t307,Tab.t308,Tab.t309] := .cons ty248 (.cons ty249 (.cons ty250 (.cons ty251 (.cons ty252 (.cons ty253 (.cons ty254 (.cons ty255 (.cons ty256 (.cons ty257 (.cons ty258 (.cons ty259 (.cons ty260 (.cons ty261 (.cons ty262 (.cons ty263 (.cons ty264 (.cons ty265 (.cons ty266 (.cons ty267 (.cons ty268 (.cons ty269 (.cons ty270 (.cons ty271 (.cons ty272 (.cons ty273 (.cons ty274 (.cons ty275 (.cons ty276 (.cons ty277 (.cons ty278 (.cons ty279 (.cons ty280 (.cons ty281 (.cons ty282 (.cons ty283 (.cons ty284 (.cons ty285 (.cons ty286 (.cons ty287 (.cons ty288 (.cons ty289 (.cons ty290 (.cons ty291 (.cons ty292 (.cons ty293 (.cons ty294 (.cons ty295 (.cons ty296 (.cons ty297 (.cons ty298 (.cons ty299 (.cons ty300 (.cons ty301 (.cons ty302 (.cons ty303 (.cons ty304 (.cons ty305 (.cons ty306 (.cons ty307 (.cons ty308 (.cons ty309 (.nil 310))))))))))))))))))))))))))))))))))))))))))))))))))))))))))))))
end Go.Proofs.YtgiompikfhhkmaaGreatDoor

namespace Go.Proofs.YtgiompikfhhkmaaGreatDoor
open Go Go.Sim
set_option maxRecDepth 100000
theorem ty310 : TyFact 310 Tab.t310 := ⟨⟨Tryz.t310,by kernel_rfl,by kernel_rfl,by kernel_rfl,fun z h => h⟩,by kernel_rfl,by kernel_rfl⟩
theorem ty311 : TyFact 311 Tab.t311 := ⟨⟨Tryz.t311,by kernel_rfl,by kernel_rfl,by kernel_rfl,fun z h => h⟩,by kernel_rfl,by kernel_rfl⟩
theorem ty312 : TyFact 312 Tab.t312 := ⟨⟨Tryz.t312,by kernel_rfl,by kernel_rfl,by kernel_rfl,fun z h => h⟩,by kernel_rfl,by kernel_rfl⟩
theorem ty313 : TyFact 313 Tab.t313 := ⟨⟨Tryz.t313,by kernel_rfl,by kernel_rfl,by kernel_rfl,fun z h => h⟩,by kernel_rfl,by kernel_rfl⟩
theorem ty314 : TyFact 314 Tab.t314 := ⟨⟨Tryz.t314,by kernel_rfl,by kernel_rfl,by kernel_rfl,fun z h => h⟩,by kernel_rfl,by kernel_rfl⟩
theorem ty315 : TyFact 315 Tab.t315 := ⟨⟨Tryz.t315,by kernel_rfl,by kernel_rfl,by kernel_rfl,fun z h => h⟩,by kernel_rfl,by kernel_rfl⟩
theorem ty316 : TyFact 316 Tab.t316 := ⟨⟨Tryz.t316,by kernel_rfl,by kernel_rfl,by kernel_rfl,fun z h => h⟩,by kernel_rfl,by kernel_rfl⟩
theorem ty317 : TyFact 317 Tab.t317 := ⟨⟨Tryz.t317,by kernel_rfl,by kernel_rfl,by kernel_rfl,fun z h => h⟩,by kernel_rfl,by kernel_rfl⟩
theorem ty318 : TyFact 318 Tab.t318 := ⟨⟨Tryz.t318,by kernel_rfl,by kernel_rfl,by kernel_rfl,fun z h => h⟩,by kernel_rfl,by kernel_rfl⟩
theorem ty319 : TyFact 319 Tab.t319 := ⟨⟨Tryz.t319,by kernel_rfl,by kernel_rfl,by kernel_rfl,fun z h => h⟩,by kernel_rfl,by kernel_rfl⟩
theorem ty320 : TyFact 320 Tab.t320 := ⟨⟨Tryz.t320,by kernel_rfl,by kernel_rfl,by kernel_rfl,fun z h => h⟩,by kernel_rfl,by kernel_rfl⟩
theorem ty321 : TyFact 321 Tab.t321 := ⟨⟨Tryz.t321,by kernel_rfl,by kernel_rfl,by kernel_rfl,fun z h => h⟩,by kernel_rfl,by kernel_rfl⟩
theorem ty322 : TyFact 322 Tab.t322 := ⟨⟨Tryz.t322,by kernel_rfl,by kernel_rfl,by kernel_rfl,fun z h => h⟩,by kernel_rfl,by kernel_rfl⟩
theorem ty323 : TyFact 323 Tab.t323 := ⟨⟨Tryz.t323,by kernel_rfl,by kernel_rfl,by kernel_rfl,fun z h => by cases h⟩,by kernel_rfl,by kernel_rfl⟩
theorem ty324 : TyFact 324 Tab.t324 := ⟨⟨Tryz.t324,by kernel_rfl,by kernel_rfl,by kernel_rfl,fun z h => h⟩,by kernel_rfl,by kernel_rfl⟩
theorem ty325 : TyFact 325 Tab.t325 := ⟨⟨Tryz.t325,by kernel_rfl,by kernel_rfl,by kernel_rfl,fun z h => h⟩,by kernel_rfl,by kernel_rfl⟩
theorem ty326 : TyFact 326 Tab.t326 := ⟨⟨Tryz.t326,by kernel_rfl,by kernel_rfl,by kernel_rfl,fun z h => h⟩,by kernel_rfl,by kernel_rfl⟩
theorem ty327 : TyFact 327 Tab.t327 := ⟨⟨Tryz.t327,by kernel_rfl,by kernel_rfl,by kernel_rfl,fun z h => h⟩,by kernel_rfl,by kernel_rfl⟩
theorem ty328 : TyFact 328 Tab.t328 := ⟨⟨Tryz.t328,by kernel_rfl,by kernel_rfl,by kernel_rfl,fun z h => h⟩,by kernel_rfl,by kernel_rfl⟩
theorem ty329 : TyFact 329 Tab.t329 := ⟨⟨Tryz.t329,by kernel_rfl,by kernel_rfl,by kernel_rfl,fun z h => h⟩,by kernel_rfl,by kernel_rfl⟩
theorem ty330 : TyFact 330 Tab.t330 := ⟨⟨Tryz.t330,by kernel_rfl,by kernel_rfl,by kernel_rfl,fun z h => h⟩,by kernel_rfl,by kernel_rfl⟩
theorem ty331 : TyFact 331 Tab.t331 := ⟨⟨Tryz.t331,by kernel_rfl,by kernel_rfl,by kernel_rfl,fun z h => h⟩,by kernel_rfl,by kernel_rfl⟩
theorem ty332 : TyFact 332 Tab.t332 := ⟨⟨Tryz.t332,by kernel_rfl,by kernel_rfl,by kernel_rfl,fun z h => h⟩,by kernel_rfl,by kernel_rfl⟩
theorem ty333 : TyFact 333 Tab.t333 := ⟨⟨Tryz.t333,by kernel_rfl,by kernel_rfl,by kernel_rfl,fun z h => by cases h⟩,by kernel_rfl,by kernel_rfl⟩
theorem ty334 : TyFact 334 Tab.t334 := ⟨⟨Tryz.t334,by kernel_rfl,by kernel_rfl,by kernel_rfl,fun z h => h⟩,by kernel_rfl,by kernel_rfl⟩
theorem ty335 : TyFact 335 Tab.t335 := ⟨⟨Tryz.t335,by kernel_rfl,by kernel_rfl,by kernel_rfl,fun z h => h⟩,by kernel_rfl,by kernel_rfl⟩
theorem ty336 : TyFact 336 Tab.t336 := ⟨⟨Tryz.t336,by kernel_rfl,by kernel_rfl,by kernel_rfl,fun z h => by cases h⟩,by kernel_rfl,by kernel_rfl⟩
theorem ty337 : TyFact 337 Tab.t337 := ⟨⟨Tryz.t337,by kernel_rfl,by kernel_rfl,by kernel_rfl,fun z h => h⟩,by kernel_rfl,by kernel_rfl⟩
theorem ty338 : TyFact 338 Tab.t338 := ⟨⟨Tryz.t338,by kernel_rfl,by kernel_rfl,by kernel_rfl,fun z h => h⟩,by kernel_rfl,by kernel_rfl⟩
theorem ty339 : TyFact 339 Tab.t339 := ⟨⟨Tryz.t339,by kernel_rfl,by kernel_rfl,by kernel_rfl,fun z h => h⟩,by kernel_rfl,by kernel_rfl⟩
theorem ty340 : TyFact 340 Tab.t340 := ⟨⟨Tryz.t340,by kernel_rfl,by kernel_rfl,by kernel_rfl,fun z h => h⟩,by kernel_rfl,by kernel_rfl⟩
theorem ty341 : TyFact 341 Tab.t341 := ⟨⟨Tryz.t341,by kernel_rfl,by kernel_rfl,by kernel_rfl,fun z h => h⟩,by kernel_rfl,by kernel_rfl⟩
theorem ty342 : TyFact 342 Tab.t342 := ⟨⟨Tryz.t342,by kernel_rfl,by kernel_rfl,by kernel_rfl,fun z h => h⟩,by kernel_rfl,by kernel_rfl⟩
theorem ty343 : TyFact 343 Tab.t343 := ⟨⟨Tryz.t343,by kernel_rfl,by kernel_rfl,by kernel_rfl,fun z h => h⟩,by kernel_rfl,by kernel_rfl⟩
theorem ty344 : TyFact 344 Tab.t344 := ⟨⟨Tryz.t344,by kernel_rfl,by kernel_rfl,by kernel_rfl,fun z h => h⟩,by kernel_rfl,by kernel_rfl⟩
theorem ty345 : TyFact 345 Tab.t345 := ⟨⟨Tryz.t345,by kernel_rfl,by kernel_rfl,by kernel_rfl,fun z h => h⟩,by kernel_rfl,by kernel_rfl⟩
theorem ty346 : TyFact 346 Tab.t346 := ⟨⟨Tryz.t346,by kernel_rfl,by kernel_rfl,by kernel_rfl,fun z h => h⟩,by kernel_rfl,by kernel_rfl⟩
theorem ty347 : TyFact 347 Tab.t347 := ⟨⟨Tryz.t347,by kernel_rfl,by kernel_rfl,by kernel_rfl,fun z h => h⟩,by kernel_rfl,by kernel_rfl⟩
theorem ty348 : TyFact 348 Tab.t348 := ⟨⟨Tryz.t348,by kernel_rfl,by kernel_rfl,by kernel_rfl,fun z h => h⟩,by kernel_rfl,by kernel_rfl⟩
theorem ty349 : TyFact 349 Tab.t349 := ⟨⟨Tryz.t349,by kernel_rfl,by kernel_rfl,by kernel_rfl,fun z h => h⟩,by kernel_rfl,by kernel_rfl⟩
theorem ty350 : TyFact 350 Tab.t350 := ⟨⟨Tryz.t350,by kernel_rfl,by kernel_rfl,by kernel_rfl,fun z h => h⟩,by kernel_rfl,by kernel_rfl⟩
theorem ty351 : TyFact 351 Tab.t351 := ⟨⟨Tryz.t351,by kernel_rfl,by kernel_rfl,by kernel_rfl,fun z h => h⟩,by kernel_rfl,by kernel_rfl⟩
theorem ty352 : TyFact 352 Tab.t352 := ⟨⟨Tryz.t352,by kernel_rfl,by kernel_rfl,by kernel_rfl,fun z h => h⟩,by kernel_rfl,by kernel_rfl⟩
theorem ty353 : TyFact 353 Tab.t353 := ⟨⟨Tryz.t353,by kernel_rfl,by kernel_rfl,by kernel_rfl,fun z h => h⟩,by kernel_rfl,by kernel_rfl⟩
theorem ty354 : TyFact 354 Tab.t354 := ⟨⟨Tryz.t354,by kernel_rfl,by kernel_rfl,by kernel_rfl,fun z h => h⟩,by kernel_rfl,by kernel_rfl⟩
theorem ty355 : TyFact 355 Tab.t355 := ⟨⟨Tryz.t355,by kernel_rfl,by kernel_rfl,by kernel_rfl,fun z h => h⟩,by kernel_rfl,by kernel_rfl⟩
theorem ty356 : TyFact 356 Tab.t356 := ⟨⟨Tryz.t356,by kernel_rfl,by kernel_rfl,by kernel_rfl,fun z h => h⟩,by kernel_rfl,by kernel_rfl⟩
theorem ty357 : TyFact 357 Tab.t357 := ⟨⟨Tryz.t357,by kernel_rfl,by kernel_rfl,by kernel_rfl,fun z h => h⟩,by kernel_rfl,by kernel_rfl⟩
theorem ty358 : TyFact 358 Tab.t358 := ⟨⟨Tryz.t358,by kernel_rfl,by kernel_rfl,by kernel_rfl,fun z h => h⟩,by kernel_rfl,by kernel_rfl⟩
theorem ty359 : TyFact 359 Tab.t359 := ⟨⟨Tryz.t359,by kernel_rfl,by kernel_rfl,by kernel_rfl,fun z h => h⟩,by kernel_rfl,by kernel_rfl⟩
theorem ty360 : TyFact 360 Tab.t360 := ⟨⟨Tryz.t360,by kernel_rfl,by kernel_rfl,by kernel_rfl,fun z h => h⟩,by kernel_rfl,by kernel_rfl⟩
theorem ty361 : TyFact 361 Tab.t361 := ⟨⟨Tryz.t361,by kernel_rfl,by kernel_rfl,by kernel_rfl,fun z h => h⟩,by kernel_rfl,by kernel_rfl⟩
theorem ty362 : TyFact 362 Tab.t362 := ⟨⟨Tryz.t362,by kernel_rfl,by kernel_rfl,by kernel_rfl,fun z h => h⟩,by kernel_rfl,by kernel_rfl⟩
theorem ty363 : TyFact 363 Tab.t363 := ⟨⟨Tryz.t363,by kernel_rfl,by kernel_rfl,by kernel_rfl,fun z h => h⟩,by kernel_rfl,by kernel_rfl⟩
theorem ty364 : TyFact 364 Tab.t364 := ⟨⟨Tryz.t364,by kernel_rfl,by kernel_rfl,by kernel_rfl,fun z h => h⟩,by kernel_rfl,by kernel_rfl⟩
theorem ty365 : TyFact 365 Tab.t365 := ⟨⟨Tryz.t365,by kernel_rfl,by kernel_rfl,by kernel_rfl,fun z h => h⟩,by kernel_rfl,by kernel_rfl⟩
theorem ty366 : TyFact 366 Tab.t366 := ⟨⟨Tryz.t366,by kernel_rfl,by kernel_rfl,by kernel_rfl,fun z h => h⟩,by kernel_rfl,by kernel_rfl⟩
theorem ty367 : TyFact 367 Tab.t367 := ⟨⟨Tryz.t367,by kernel_rfl,by kernel_rfl,by kernel_rfl,fun z h => h⟩,by kernel_rfl,by kernel_rfl⟩
theorem ty368 : TyFact 368 Tab.t368 := ⟨⟨Tryz.t368,by kernel_rfl,by kernel_rfl,by kernel_rfl,fun z h => h⟩,by kernel_rfl,by kernel_rfl⟩
theorem ty369 : TyFact 369 Tab.t369 := ⟨⟨Tryz.t369,by kernel_rfl,by kernel_rfl,by kernel_rfl,fun z h => h⟩,by kernel_rfl,by kernel_rfl⟩
theorem ty370 : TyFact 370 Tab.t370 := ⟨⟨Tryz.t370,by kernel_rfl,by kernel_rfl,by kernel_rfl,fun z h => h⟩,by kernel_rfl,by kernel_rfl⟩
theorem ty371 : TyFact 371 Tab.t371 := ⟨⟨Tryz.t371,by kernel_rfl,by kernel_rfl,by kernel_rfl,fun z h => h⟩,by kernel_rfl,by kernel_rfl⟩
theorem tys5 : AllFrom TyFact 310 [Tab.t310,Tab.t311,Tab.t312,Tab.t313,Tab.t314,Tab.t315,Tab.t316,Tab.t317,Tab.t318,Tab.t319,Tab.t320,Tab.t321,Tab.t322,Tab.t323,Tab.t324,Tab.t325,Tab.t326,Tab.t327,Tab.t328,Tab.t329,Tab.t330,Tab.t331,Tab.t332,Tab.t333,Tab.t334,Tab.t335,Tab.t336,Tab.t337,Tab.t338,Tab.t339,Tab.t340,Tab.t341,Tab.t342,Tab.t343,Tab.t344,Tab.t345,Tab.t346,Tab.t347,Tab.t348,Tab.t349,Tab.t350,Tab.t351,Tab.t352,Tab.t353,Tab.t354,Tab.t355,Tab.t356,Tab.t357,Tab.t358,Tab.t359,Tab.t360,Tab.t361,Tab.t362,Tab.t363,Tab.t364,Tab.t365,Tab.t366,Tab.t367,Tab.t368,Tab.t369,Tab.t370,Tab.t371] := .cons ty310 (.cons ty311 (.cons ty312 (.cons ty313 (.cons ty314 (.cons ty315 (.cons ty316 (.cons ty317 (.cons ty318 (.cons ty319 (.cons ty320 (.cons ty321 (.cons ty322 (.cons ty323 (.cons ty324 (.cons ty325 (.cons ty326 (.cons ty327 (.cons ty328 (.cons ty329 (.cons ty330 (.cons ty331 (.cons ty332 (.cons ty333 (.cons ty334 (.cons ty335 (.cons ty336 (.cons ty337 (.cons ty338 (.cons ty339 (.cons ty340 (.cons ty341 (.cons ty342 (.cons ty343 (.cons ty344 (.cons ty345 (.cons ty346 (.cons ty347 (.cons ty348 (.cons ty349 (.cons ty350 (.cons ty351 (.cons ty352 (.cons ty353 (.cons ty354 (.cons ty355 (.cons ty356 (.cons ty357 (.cons ty358 (.cons ty359 (.cons ty360 (.cons ty361 (.cons ty362 (.cons ty363 (.cons ty364 (.cons ty365 (.cons ty366 (.cons ty367 (.cons ty368 (.cons ty369 (.cons ty370 (.cons ty371 (.nil 372))))))))))))))))))))))))))))))))))))))))))))))))))))))))))))))
end Go.Proofs.YtgiompikfhhkmaaGreatDoor

namespace Go.Proofs.YtgiompikfhhkmaaGreatDoor
open Go Go.Sim
set_option maxRecDepth 100000
theorem ty372 : TyFact 372 Tab.t372 := ⟨⟨Tryz.t372,by kernel_rfl,by kernel_rfl,by kernel_rfl,fun z h => h⟩,by kernel_rfl,by kernel_rfl⟩
theorem ty373 : TyFact 373 Tab.t373 := ⟨⟨Tryz.t373,by kernel_rfl,by kernel_rfl,by kernel_rfl,fun z h => h⟩,by kernel_rfl,by kernel_rfl⟩
theorem ty374 : TyFact 374 Tab.t374 := ⟨⟨Tryz.t374,by kernel_rfl,by kernel_rfl,by kernel_rfl,fun z h => h⟩,by kernel_rfl,by kernel_rfl⟩
theorem ty375 : TyFact 375 Tab.t375 := ⟨⟨Tryz.t375,by kernel_rfl,by kernel_rfl,by kernel_rfl,fun z h => h⟩,by kernel_rfl,by kernel_rfl⟩
theorem ty376 : TyFact 376 Tab.t376 := ⟨⟨Tryz.t376,by kernel_rfl,by kernel_rfl,by kernel_rfl,fun z h => by cases h⟩,by kernel_rfl,by kernel_rfl⟩
theorem ty377 : TyFact 377 Tab.t377 := ⟨⟨Tryz.t377,by kernel_rfl,by kernel_rfl,by kernel_rfl,fun z h => h⟩,by kernel_rfl,by kernel_rfl⟩
theorem ty378 : TyFact 378 Tab.t378 := ⟨⟨Tryz.t378,by kernel_rfl,by kernel_rfl,by kernel_rfl,fun z h => h⟩,by kernel_rfl,by kernel_rfl⟩
theorem ty379 : TyFact 379 Tab.t379 := ⟨⟨Tryz.t379,by kernel_rfl,by kernel_rfl,by kernel_rfl,fun z h => h⟩,by kernel_rfl,by kernel_rfl⟩
theorem ty380 : TyFact 380 Tab.t380 := ⟨⟨Tryz.t380,by kernel_rfl,by kernel_rfl,by kernel_rfl,fun z h => h⟩,by kernel_rfl,by kernel_rfl⟩
theorem ty381 : TyFact 381 Tab.t381 := ⟨⟨Tryz.t381,by kernel_rfl,by kernel_rfl,by kernel_rfl,fun z h => h⟩,by kernel_rfl,by kernel_rfl⟩
theorem ty382 : TyFact 382 Tab.t382 := ⟨⟨Tryz.t382,by kernel_rfl,by kernel_rfl,by kernel_rfl,fun z h => h⟩,by kernel_rfl,by kernel_rfl⟩
theorem ty383 : TyFact 383 Tab.t383 := ⟨⟨Tryz.t383,by kernel_rfl,by kernel_rfl,by kernel_rfl,fun z h => h⟩,by kernel_rfl,by kernel_rfl⟩
theorem ty384 : TyFact 384 Tab.t384 := ⟨⟨Tryz.t384,by kernel_rfl,by kernel_rfl,by kernel_rfl,fun z h => h⟩,by kernel_rfl,by kernel_rfl⟩
theorem ty385 : TyFact 385 Tab.t385 := ⟨⟨Tryz.t385,by kernel_rfl,by kernel_rfl,by kernel_rfl,fun z h => h⟩,by kernel_rfl,by kernel_rfl⟩
theorem ty386 : TyFact 386 Tab.t386 := ⟨⟨Tryz.t386,by kernel_rfl,by kernel_rfl,by kernel_rfl,fun z h => h⟩,by kernel_rfl,by kernel_rfl⟩
theorem ty387 : TyFact 387 Tab.t387 := ⟨⟨Tryz.t387,by kernel_rfl,by kernel_rfl,by kernel_rfl,fun z h => h⟩,by kernel_rfl,by kernel_rfl⟩
theorem ty388 : TyFact 388 Tab.t388 := ⟨⟨Tryz.t388,by kernel_rfl,by kernel_rfl,by kernel_rfl,fun z h => h⟩,by kernel_rfl,by kernel_rfl⟩
theorem ty389 : TyFact 389 Tab.t389 := ⟨⟨Tryz.t389,by kernel_rfl,by kernel_rfl,by kernel_rfl,fun z h => by cases h⟩,by kernel_rfl,by kernel_rfl⟩
theorem ty390 : TyFact 390 Tab.t390 := ⟨⟨Tryz.t390,by kernel_rfl,by kernel_rfl,by kernel_rfl,fun z h => h⟩,by kernel_rfl,by kernel_rfl⟩
theorem ty391 : TyFact 391 Tab.t391 := ⟨⟨Tryz.t391,by kernel_rfl,by kernel_rfl,by kernel_rfl,fun z h => h⟩,by kernel_rfl,by kernel_rfl⟩
theorem ty392 : TyFact 392 Tab.t392 := ⟨⟨Tryz.t392,by kernel_rfl,by kernel_rfl,by kernel_rfl,fun z h => h⟩,by kernel_rfl,by kernel_rfl⟩
theorem ty393 : TyFact 393 Tab.t393 := ⟨⟨Tryz.t393,by kernel_rfl,by kernel_rfl,by kernel_rfl,fun z h => h⟩,by kernel_rfl,by kernel_rfl⟩
theorem ty394 : TyFact 394 Tab.t394 := ⟨⟨Tryz.t394,by kernel_rfl,by kernel_rfl,by kernel_rfl,fun z h => h⟩,by kernel_rfl,by kernel_rfl⟩
theorem ty395 : TyFact 395 Tab.t395 := ⟨⟨Tryz.t395,by kernel_rfl,by kernel_rfl,by kernel_rfl,fun z h => h⟩,by kernel_rfl,by kernel_rfl⟩
theorem ty396 : TyFact 396 Tab.t396 := ⟨⟨Tryz.t396,by kernel_rfl,by kernel_rfl,by kernel_rfl,fun z h => h⟩,by kernel_rfl,by kernel_rfl⟩
theorem ty397 : TyFact 397 Tab.t397 := ⟨⟨Tryz.t397,by kernel_rfl,by kernel_rfl,by kernel_rfl,fun z h => h⟩,by kernel_rfl,by kernel_rfl⟩
theorem ty398 : TyFact 398 Tab.t398 := ⟨⟨Tryz.t398,by kernel_rfl,by kernel_rfl,by kernel_rfl,fun z h => h⟩,by kernel_rfl,by kernel_rfl⟩
theorem ty399 : TyFact 399 Tab.t399 := ⟨⟨Tryz.t399,by kernel_rfl,by kernel_rfl,by kernel_rfl,fun z h => h⟩,by kernel_rfl,by kernel_rfl⟩
theorem ty400 : TyFact 400 Tab.t400 := ⟨⟨Tryz.t400,by kernel_rfl,by kernel_rfl,by kernel_rfl,fun z h => h⟩,by kernel_rfl,by kernel_rfl⟩
theorem ty401 : TyFact 401 Tab.t401 := ⟨⟨Tryz.t401,by kernel_rfl,by kernel_rfl,by kernel_rfl,fun z h => h⟩,by kernel_rfl,by kernel_rfl⟩
theorem ty402 : TyFact 402 Tab.t402 := ⟨⟨Tryz.t402,by kernel_rfl,by kernel_rfl,by kernel_rfl,fun z h => h⟩,by kernel_rfl,by kernel_rfl⟩
theorem ty403 : TyFact 403 Tab.t403 := ⟨⟨Tryz.t403,by kernel_rfl,by kernel_rfl,by kernel_rfl,fun z h => h⟩,by kernel_rfl,by kernel_rfl⟩
theorem ty404 : TyFact 404 Tab.t404 := ⟨⟨Tryz.t404,by kernel_rfl,by kernel_rfl,by kernel_rfl,fun z h => h⟩,by kernel_rfl,by kernel_rfl⟩
theorem ty405 : TyFact 405 Tab.t405 := ⟨⟨Tryz.t405,by kernel_rfl,by kernel_rfl,by kernel_rfl,fun z h => h⟩,by kernel_rfl,by kernel_rfl⟩
theorem ty406 : TyFact 406 Tab.t406 := ⟨⟨Tryz.t406,by kernel_rfl,by kernel_rfl,by kernel_rfl,fun z h => h⟩,by kernel_rfl,by kernel_rfl⟩
theorem ty407 : TyFact 407 Tab.t407 := ⟨⟨Tryz.t407,by kernel_rfl,by kernel_rfl,by kernel_rfl,fun z h => h⟩,by kernel_rfl,by kernel_rfl⟩
theorem ty408 : TyFact 408 Tab.t408 := ⟨⟨Tryz.t408,by kernel_rfl,by kernel_rfl,by kernel_rfl,fun z h => h⟩,by kernel_rfl,by kernel_rfl⟩
theorem ty409 : TyFact 409 Tab.t409 := ⟨⟨Tryz.t409,by kernel_rfl,by kernel_rfl,by kernel_rfl,fun z h => by cases h⟩,by kernel_rfl,by kernel_rfl⟩
theorem ty410 : TyFact 410 Tab.t410 := ⟨⟨Tryz.t410,by kernel_rfl,by kernel_rfl,by kernel_rfl,fun z h => h⟩,by kernel_rfl,by kernel_rfl⟩
theorem ty411 : TyFact 411 Tab.t411 := ⟨⟨Tryz.t411,by kernel_rfl,by kernel_rfl,by kernel_rfl,fun z h => h⟩,by kernel_rfl,by kernel_rfl⟩
theorem ty412 : TyFact 412 Tab.t412 := ⟨⟨Tryz.t412,by kernel_rfl,by kernel_rfl,by kernel_rfl,fun z h => h⟩,by kernel_rfl,by kernel_rfl⟩
theorem ty413 : TyFact 413 Tab.t413 := ⟨⟨Tryz.t413,by kernel_rfl,by kernel_rfl,by kernel_rfl,fun z h => h⟩,by kernel_rfl,by kernel_rfl⟩
theorem ty414 : TyFact 414 Tab.t414 := ⟨⟨Tryz.t414,by kernel_rfl,by kernel_rfl,by kernel_rfl,fun z h => h⟩,by kernel_rfl,by kernel_rfl⟩
theorem ty415 : TyFact 415 Tab.t415 := ⟨⟨Tryz.t415,by kernel_rfl,by kernel_rfl,by kernel_rfl,fun z h => h⟩,by kernel_rfl,by kernel_rfl⟩
theorem ty416 : TyFact 416 Tab.t416 := ⟨⟨Tryz.t416,by kernel_rfl,by kernel_rfl,by kernel_rfl,fun z h => h⟩,by kernel_rfl,by kernel_rfl⟩
theorem ty417 : TyFact 417 Tab.t417 := ⟨⟨Tryz.t417,by kernel_rfl,by kernel_rfl,by kernel_rfl,fun z h => h⟩,by kernel_rfl,by kernel_rfl⟩
theorem ty418 : TyFact 418 Tab.t418 := ⟨⟨Tryz.t418,by kernel_rfl,by kernel_rfl,by kernel_rfl,fun z h => h⟩,by kernel_rfl,by kernel_rfl⟩
theorem ty419 : TyFact 419 Tab.t419 := ⟨⟨Tryz.t419,by kernel_rfl,by kernel_rfl,by kernel_rfl,fun z h => h⟩,by kernel_rfl,by kernel_rfl⟩
theorem ty420 : TyFact 420 Tab.t420 := ⟨⟨Tryz.t420,by kernel_rfl,by kernel_rfl,by kernel_rfl,fun z h => h⟩,by kernel_rfl,by kernel_rfl⟩
theorem ty421 : TyFact 421 Tab.t421 := ⟨⟨Tryz.t421,by kernel_rfl,by kernel_rfl,by kernel_rfl,fun z h => h⟩,by kernel_rfl,by kernel_rfl⟩
theorem ty422 : TyFact 422 Tab.t422 := ⟨⟨Tryz.t422,by kernel_rfl,by kernel_rfl,by kernel_rfl,fun z h => h⟩,by kernel_rfl,by kernel_rfl⟩
theorem ty423 : TyFact 423 Tab.t423 := ⟨⟨Tryz.t423,by kernel_rfl,by kernel_rfl,by kernel_rfl,fun z h => h⟩,by kernel_rfl,by kernel_rfl⟩
theorem ty424 : TyFact 424 Tab.t424 := ⟨⟨Tryz.t424,by kernel_rfl,by kernel_rfl,by kernel_rfl,fun z h => h⟩,by kernel_rfl,by kernel_rfl⟩
theorem ty425 : TyFact 425 Tab.t425 := ⟨⟨Tryz.t425,by kernel_rfl,by kernel_rfl,by kernel_rfl,fun z h => h⟩,by kernel_rfl,by kernel_rfl⟩
theorem ty426 : TyFact 426 Tab.t426 := ⟨⟨Tryz.t426,by kernel_rfl,by kernel_rfl,by kernel_rfl,fun z h => h⟩,by kernel_rfl,by kernel_rfl⟩
theorem ty427 : TyFact 427 Tab.t427 := ⟨⟨Tryz.t427,by kernel_rfl,by kernel_rfl,by kernel_rfl,fun z h => h⟩,by kernel_rfl,by kernel_rfl⟩
theorem ty428 : TyFact 428 Tab.t428 := ⟨⟨Tryz.t428,by kernel_rfl,by kernel_rfl,by kernel_rfl,fun z h => h⟩,by kernel_rfl,by kernel_rfl⟩
theorem ty429 : TyFact 429 Tab.t429 := ⟨⟨Tryz.t429,by kernel_rfl,by kernel_rfl,by kernel_rfl,fun z h => h⟩,by kernel_rfl,by kernel_rfl⟩
theorem ty430 : TyFact 430 Tab.t430 := ⟨⟨Tryz.t430,by kernel_rfl,by kernel_rfl,by kernel_rfl,fun z h => h⟩,by kernel_rfl,by kernel_rfl⟩
theorem ty431 : TyFact 431 Tab.t431 := ⟨⟨Tryz.t431,by kernel_rfl,by kernel_rfl,by kernel_rfl,fun z h => h⟩,by kernel_rfl,by kernel_rfl⟩
theorem ty432 : TyFact 432 Tab.t432 := ⟨⟨Tryz.t432,by kernel_rfl,by kernel_rfl,by kernel_rfl,fun z h => h⟩,by kernel_rfl,by kernel_rfl⟩
theorem ty433 : TyFact 433 Tab.t433 := ⟨⟨Tryz.t433,by kernel_rfl,by kernel_rfl,by kernel_rfl,fun z h => h⟩,by kernel_rfl,by kernel_rfl⟩
theorem tys6 : AllFrom TyFact 372 [Tab.t372,Tab.t373,Tab.t374,Tab.t375,Tab.t376,Tab.t377,Tab.t378,Tab.t379,Tab.t380,Tab.t381,Tab.t382,Tab.t383,Tab.t384,Tab.t385,Tab.t386,Tab.t387,Tab.t388,Tab.t389,Tab.t390,Tab.t391,Tab.t392,Tab.t393,Tab.t394,Tab.t395,Tab.t396,Tab.t397,Tab.t398,Tab.t399,Tab.t400,Tab.t401,Tab.t402,Tab.t403,Tab.t404,Tab.t405,Tab.t406,Tab.t407,Tab.t408,Tab.t409,Tab.t410,Tab.t411,Tab.t412,Tab.t413,Tab.t414,Tab.t415,Tab.t416,Tab.t417,Tab.t418,Tab.t419,Tab.t420,Tab.t421,Tab.t422,Tab.t423,Tab.t424,Tab.t425,Tab.t426,Tab.t427,Tab.t428,Tab.t429,Tab.t430,Tab.t431,Tab.t432,Tab.t433] := .cons ty372 (.cons ty373 (.cons ty374 (.cons ty375 (.cons ty376 (.cons ty377 (.cons ty378 (.cons ty379 (.cons ty380 (.cons ty381 (.cons ty382 (.cons ty383 (.cons ty384 (.cons ty385 (.cons ty386 (.cons ty387 (.cons ty388 (.cons ty389 (.cons ty390 (.cons ty391 (.cons ty392 (.cons ty393 (.cons ty394 (.cons ty395 (.cons ty396 (.cons ty397 (.cons ty398 (.cons ty399 (.cons ty400 (.cons ty401 (.cons ty402 (.cons ty403 (.cons ty404 (.cons ty405 (.cons ty406 (.cons ty407 (.cons ty408 (.cons ty409 (.cons ty410 (.cons ty411 (.cons ty412 (.cons ty413 (.cons ty414 (.cons ty415 (.cons ty416 (.cons ty417 (.cons ty418 (.cons ty419 (.cons ty420 (.cons ty421 (.cons ty422 (.cons ty423 (.cons ty424 (.cons ty425 (.cons ty426 (.cons ty427 (.cons ty428 (.cons ty429 (.cons ty430 (.cons ty431 (.cons ty432 (.cons ty433 (.nil 434))))))))))))))))))))))))))))))))))))))))))))))))))))))))))))))
end Go.Proofs.YtgiompikfhhkmaaGreatDoor

namespace Go.Proofs.YtgiompikfhhkmaaGreatDoor
open Go Go.Sim
set_option maxRecDepth 100000
theorem ty434 : TyFact 434 Tab.t434 := ⟨⟨Tryz.t434,by kernel_rfl,by kernel_rfl,by kernel_rfl,fun z h => h⟩,by kernel_rfl,by kernel_rfl⟩
theorem ty435 : TyFact 435 Tab.t435 := ⟨⟨Tryz.t435,by kernel_rfl,by kernel_rfl,by kernel_rfl,fun z h => h⟩,by kernel_rfl,by kernel_rfl⟩
theorem ty436 : TyFact 436 Tab.t436 := ⟨⟨Tryz.t436,by kernel_rfl,by kernel_rfl,by kernel_rfl,fun z h => h⟩,by kernel_rfl,by kernel_rfl⟩
theorem ty437 : TyFact 437 Tab.t437 := ⟨⟨Tryz.t437,by kernel_rfl,by kernel_rfl,by kernel_rfl,fun z h => h⟩,by kernel_rfl,by kernel_rfl⟩
theorem ty438 : TyFact 438 Tab.t438 := ⟨⟨Tryz.t438,by kernel_rfl,by kernel_rfl,by kernel_rfl,fun z h => h⟩,by kernel_rfl,by kernel_rfl⟩
theorem ty439 : TyFact 439 Tab.t439 := ⟨⟨Tryz.t439,by kernel_rfl,by kernel_rfl,by kernel_rfl,fun z h => h⟩,by kernel_rfl,by kernel_rfl⟩
theorem ty440 : TyFact 440 Tab.t440 := ⟨⟨Tryz.t440,by kernel_rfl,by kernel_rfl,by kernel_rfl,fun z h => h⟩,by kernel_rfl,by kernel_rfl⟩
theorem ty441 : TyFact 441 Tab.t441 := ⟨⟨Tryz.t441,by kernel_rfl,by kernel_rfl,by kernel_rfl,fun z h => h⟩,by kernel_rfl,by kernel_rfl⟩
theorem ty442 : TyFact 442 Tab.t442 := ⟨⟨Tryz.t442,by kernel_rfl,by kernel_rfl,by kernel_rfl,fun z h => h⟩,by kernel_rfl,by kernel_rfl⟩
theorem ty443 : TyFact 443 Tab.t443 := ⟨⟨Tryz.t443,by kernel_rfl,by kernel_rfl,by kernel_rfl,fun z h => h⟩,by kernel_rfl,by kernel_rfl⟩
theorem ty444 : TyFact 444 Tab.t444 := ⟨⟨Tryz.t444,by kernel_rfl,by kernel_rfl,by kernel_rfl,fun z h => h⟩,by kernel_rfl,by kernel_rfl⟩
theorem ty445 : TyFact 445 Tab.t445 := ⟨⟨Tryz.t445,by kernel_rfl,by kernel_rfl,by kernel_rfl,fun z h => h⟩,by kernel_rfl,by kernel_rfl⟩
theorem ty446 : TyFact 446 Tab.t446 := ⟨⟨Tryz.t446,by kernel_rfl,by kernel_rfl,by kernel_rfl,fun z h => h⟩,by kernel_rfl,by kernel_rfl⟩
theorem ty447 : TyFact 447 Tab.t447 := ⟨⟨Tryz.t447,by kernel_rfl,by kernel_rfl,by kernel_rfl,fun z h => h⟩,by kernel_rfl,by kernel_rfl⟩
theorem ty448 : TyFact 448 Tab.t448 := ⟨⟨Tryz.t448,by kernel_rfl,by kernel_rfl,by kernel_rfl,fun z h => by cases h⟩,by kernel_rfl,by kernel_rfl⟩
theorem ty449 : TyFact 449 Tab.t449 := ⟨⟨Tryz.t449,by kernel_rfl,by kernel_rfl,by kernel_rfl,fun z h => h⟩,by kernel_rfl,by kernel_rfl⟩
theorem ty450 : TyFact 450 Tab.t450 := ⟨⟨Tryz.t450,by kernel_rfl,by kernel_rfl,by kernel_rfl,fun z h => h⟩,by kernel_rfl,by kernel_rfl⟩
theorem ty451 : TyFact 451 Tab.t451 := ⟨⟨Tryz.t451,by kernel_rfl,by kernel_rfl,by kernel_rfl,fun z h => h⟩,by kernel_rfl,by kernel_rfl⟩
theorem ty452 : TyFact 452 Tab.t452 := ⟨⟨Tryz.t452,by kernel_rfl,by kernel_rfl,by kernel_rfl,fun z h => h⟩,by kernel_rfl,by kernel_rfl⟩
theorem ty453 : TyFact 453 Tab.t453 := ⟨⟨Tryz.t453,by kernel_rfl,by kernel_rfl,by kernel_rfl,fun z h => h⟩,by kernel_rfl,by kernel_rfl⟩
theorem ty454 : TyFact 454 Tab.t454 := ⟨⟨Tryz.t454,by kernel_rfl,by kernel_rfl,by kernel_rfl,fun z h => h⟩,by kernel_rfl,by kernel_rfl⟩
theorem ty455 : TyFact 455 Tab.t455 := ⟨⟨Tryz.t455,by kernel_rfl,by kernel_rfl,by kernel_rfl,fun z h => h⟩,by kernel_rfl,by kernel_rfl⟩
theorem ty456 : TyFact 456 Tab.t456 := ⟨⟨Tryz.t456,by kernel_rfl,by kernel_rfl,by kernel_rfl,fun z h => h⟩,by kernel_rfl,by kernel_rfl⟩
theorem ty457 : TyFact 457 Tab.t457 := ⟨⟨Tryz.t457,by kernel_rfl,by kernel_rfl,by kernel_rfl,fun z h => h⟩,by kernel_rfl,by kernel_rfl⟩
theorem ty458 : TyFact 458 Tab.t458 := ⟨⟨Tryz.t458,by kernel_rfl,by kernel_rfl,by kernel_rfl,fun z h => h⟩,by kernel_rfl,by kernel_rfl⟩
theorem ty459 : TyFact 459 Tab.t459 := ⟨⟨Tryz.t459,by kernel_rfl,by kernel_rfl,by kernel_rfl,fun z h => h⟩,by kernel_rfl,by kernel_rfl⟩
theorem ty460 : TyFact 460 Tab.t460 := ⟨⟨Tryz.t460,by kernel_rfl,by kernel_rfl,by kernel_rfl,fun z h => h⟩,by kernel_rfl,by kernel_rfl⟩
theorem ty461 : TyFact 461 Tab.t461 := ⟨⟨Tryz.t461,by kernel_rfl,by kernel_rfl,by kernel_rfl,fun z h => h⟩,by kernel_rfl,by kernel_rfl⟩
theorem ty462 : TyFact 462 Tab.t462 := ⟨⟨Tryz.t462,by kernel_rfl,by kernel_rfl,by kernel_rfl,fun z h => h⟩,by kernel_rfl,by kernel_rfl⟩
theorem ty463 : TyFact 463 Tab.t463 := ⟨⟨Tryz.t463,by kernel_rfl,by kernel_rfl,by kernel_rfl,fun z h => h⟩,by kernel_rfl,by kernel_rfl⟩
theorem ty464 : TyFact 464 Tab.t464 := ⟨⟨Tryz.t464,by kernel_rfl,by kernel_rfl,by kernel_rfl,fun z h => h⟩,by kernel_rfl,by kernel_rfl⟩
theorem ty465 : TyFact 465 Tab.t465 := ⟨⟨Tryz.t465,by kernel_rfl,by kernel_rfl,by kernel_rfl,fun z h => h⟩,by kernel_rfl,by kernel_rfl⟩
theorem ty466 : TyFact 466 Tab.t466 := ⟨⟨Tryz.t466,by kernel_rfl,by kernel_rfl,by kernel_rfl,fun z h => h⟩,by kernel_rfl,by kernel_rfl⟩
theorem ty467 : TyFact 467 Tab.t467 := ⟨⟨Tryz.t467,by kernel_rfl,by kernel_rfl,by kernel_rfl,fun z h => h⟩,by kernel_rfl,by kernel_rfl⟩
theorem ty468 : TyFact 468 Tab.t468 := ⟨⟨Tryz.t468,by kernel_rfl,by kernel_rfl,by kernel_rfl,fun z h => h⟩,by kernel_rfl,by kernel_rfl⟩
theorem ty469 : TyFact 469 Tab.t469 := ⟨⟨Tryz.t469,by kernel_rfl,by kernel_rfl,by kernel_rfl,fun z h => h⟩,by kernel_rfl,by kernel_rfl⟩
theorem ty470 : TyFact 470 Tab.t470 := ⟨⟨Tryz.t470,by kernel_rfl,by kernel_rfl,by kernel_rfl,fun z h => h⟩,by kernel_rfl,by kernel_rfl⟩
theorem ty471 : TyFact 471 Tab.t471 := ⟨⟨Tryz.t471,by kernel_rfl,by kernel_rfl,by kernel_rfl,fun z h => h⟩,by kernel_rfl,by kernel_rfl⟩
theorem ty472 : TyFact 472 Tab.t472 := ⟨⟨Tryz.t472,by kernel_rfl,by kernel_rfl,by kernel_rfl,fun z h => h⟩,by kernel_rfl,by kernel_rfl⟩
theorem ty473 : TyFact 473 Tab.t473 := ⟨⟨Tryz.t473,by kernel_rfl,by kernel_rfl,by kernel_rfl,fun z h => h⟩,by kernel_rfl,by kernel_rfl⟩
theorem ty474 : TyFact 474 Tab.t474 := ⟨⟨Tryz.t474,by kernel_rfl,by kernel_rfl,by kernel_rfl,fun z h => h⟩,by kernel_rfl,by kernel_rfl⟩
theorem ty475 : TyFact 475 Tab.t475 := ⟨⟨Tryz.t475,by kernel_rfl,by kernel_rfl,by kernel_rfl,fun z h => h⟩,by kernel_rfl,by kernel_rfl⟩
theorem ty476 : TyFact 476 Tab.t476 := ⟨⟨Tryz.t476,by kernel_rfl,by kernel_rfl,by kernel_rfl,fun z h => h⟩,by kernel_rfl,by kernel_rfl⟩
theorem ty477 : TyFact 477 Tab.t477 := ⟨⟨Tryz.t477,by kernel_rfl,by kernel_rfl,by kernel_rfl,fun z h => h⟩,by kernel_rfl,by kernel_rfl⟩
theorem ty478 : TyFact 478 Tab.t478 := ⟨⟨Tryz.t478,by kernel_rfl,by kernel_rfl,by kernel_rfl,fun z h => h⟩,by kernel_rfl,by kernel_rfl⟩
theorem ty479 : TyFact 479 Tab.t479 := ⟨⟨Tryz.t479,by kernel_rfl,by kernel_rfl,by kernel_rfl,fun z h => h⟩,by kernel_rfl,by kernel_rfl⟩
theorem ty480 : TyFact 480 Tab.t480 := ⟨⟨Tryz.t480,by kernel_rfl,by kernel_rfl,by kernel_rfl,fun z h => h⟩,by kernel_rfl,by kernel_rfl⟩
theorem ty481 : TyFact 481 Tab.t481 := ⟨⟨Tryz.t481,by kernel_rfl,by kernel_rfl,by kernel_rfl,fun z h => h⟩,by kernel_rfl,by kernel_rfl⟩
theorem ty482 : TyFact 482 Tab.t482 := ⟨⟨Tryz.t482,by kernel_rfl,by kernel_rfl,by kernel_rfl,fun z h => h⟩,by kernel_rfl,by kernel_rfl⟩
theorem ty483 : TyFact 483 Tab.t483 := ⟨⟨Tryz.t483,by kernel_rfl,by kernel_rfl,by kernel_rfl,fun z h => h⟩,by kernel_rfl,by kernel_rfl⟩
theorem ty484 : TyFact 484 Tab.t484 := ⟨⟨Tryz.t484,by kernel_rfl,by kernel_rfl,by kernel_rfl,fun z h => h⟩,by kernel_rfl,by kernel_rfl⟩
theorem ty485 : TyFact 485 Tab.t485 := ⟨⟨Tryz.t485,by kernel_rfl,by kernel_rfl,by kernel_rfl,fun z h => h⟩,by kernel_rfl,by kernel_rfl⟩
theorem ty486 : TyFact 486 Tab.t486 := ⟨⟨Tryz.t486,by kernel_rfl,by kernel_rfl,by kernel_rfl,fun z h => h⟩,by kernel_rfl,by kernel_rfl⟩
theorem tys7 : AllFrom TyFact 434 [Tab.t434,Tab.t435,Tab.t436,Tab.t437,Tab.t438,Tab.t439,Tab.t440,Tab.t441,Tab.t442,Tab.t443,Tab.t444,Tab.t445,Tab.t446,Tab.t447,Tab.t448,Tab.t449,Tab.t450,Tab.t451,Tab.t452,Tab.t453,Tab.t454,Tab.t455,Tab.t456,Tab.t457,Tab.t458,Tab.t459,Tab.t460,Tab.t461,Tab.t462,Tab.t463,Tab.t464,Tab.t465,Tab.t466,Tab.t467,Tab.t468,Tab.t469,Tab.t470,Tab.t471,Tab.t472,Tab.t473,Tab.t474,Tab.t475,Tab.t476,Tab.t477,Tab.t478,Tab.t479,Tab.t480,Tab.t481,Tab.t482,Tab.t483,Tab.t484,Tab.t485,Tab.t486] := .cons ty434 (.cons ty435 (.cons ty436 (.cons ty437 (.cons ty438 (.cons ty439 (.cons ty440 (.cons ty441 (.cons ty442 (.cons ty443 (.cons ty444 (.cons ty445 (.cons ty446 (.cons ty447 (.cons ty448 (.cons ty449 (.cons ty450 (.cons ty451 (.cons ty452 (.cons ty453 (.cons ty454 (.cons ty455 (.cons ty456 (.cons ty457 (.cons ty458 (.cons ty459 (.cons ty460 (.cons ty461 (.cons ty462 (.cons ty463 (.cons ty464 (.cons ty465 (.cons ty466 (.cons ty467 (.cons ty468 (.cons ty469 (.cons ty470 (.cons ty471 (.cons ty472 (.cons ty473 (.cons ty474 (.cons ty475 (.cons ty476 (.cons ty477 (.cons ty478 (.cons ty479 (.cons ty480 (.cons ty481 (.cons ty482 (.cons ty483 (.cons ty484 (.cons ty485 (.cons ty486 (.nil 487)))))))))))))))))))))))))))))))))))))))))))))))))))))
end Go.Proofs.YtgiompikfhhkmaaGreatDoor

namespace Go.Proofs.YtgiompikfhhkmaaGreatDoor
open Go Go.Sim
set_option maxRecDepth 100000
theorem fns0 : AllFrom FnFact 0 [Tryz.f0,Tryz.f1,Tryz.f2,Tryz.f3,Tryz.f4,Tryz.f5,Tryz.f6,Tryz.f7,Tryz.f8,Tryz.f9,Tryz.f10,Tryz.f11,Tryz.f12,Tryz.f13,Tryz.f14,Tryz.f15,Tryz.f16,Tryz.f17,Tryz.f18,Tryz.f19,Tryz.f20,Tryz.f21,Tryz.f22,Tryz.f23,Tryz.f24,Tryz.f25,Tryz.f26,Tryz.f27,Tryz.f28,Tryz.f29,Tryz.f30,Tryz.f31,Tryz.f32,Tryz.f33,Tryz.f34,Tryz.f35,Tryz.f36,Tryz.f37,Tryz.f38,Tryz.f39,Tryz.f40,Tryz.f41,Tryz.f42,Tryz.f43,Tryz.f44,Tryz.f45,Tryz.f46,Tryz.f47,Tryz.f48,Tryz.f49,Tryz.f50,Tryz.f51,Tryz.f52,Tryz.f53,Tryz.f54,Tryz.f55,Tryz.f56,Tryz.f57,Tryz.f58,Tryz.f59,Tryz.f60,Tryz.f61] := .cons ⟨Tryz.func0,fun h => absurd h (by rw [show Tryz.f0.body.isSome = false by kernel_rfl]; simp)⟩ (.cons ⟨Tryz.func1,fun h => absurd h (by rw [show Tryz.f1.body.isSome = false by kernel_rfl]; simp)⟩ (.cons ⟨Tryz.func2,fun _ => Tryz.call2⟩ (.cons ⟨Tryz.func3,fun _ => Tryz.call3⟩ (.cons ⟨Tryz.func4,fun _ => Tryz.call4⟩ (.cons ⟨Tryz.func5,fun _ => Tryz.call5⟩ (.cons ⟨Tryz.func6,fun _ => Tryz.call6⟩ (.cons ⟨Tryz.func7,fun _ => Tryz.call7⟩ (.cons ⟨Tryz.func8,fun _ => Tryz.call8⟩ (.cons ⟨Tryz.func9,fun _ => Tryz.call9⟩ (.cons ⟨Tryz.func10,fun h => absurd h (by rw [show Tryz.f10.body.isSome = false by kernel_rfl]; simp)⟩ (.cons ⟨Tryz.func11,fun _ => Tryz.call11⟩ (.cons ⟨Tryz.func12,fun _ => Tryz.call12⟩ (.cons ⟨Tryz.func13,fun _ => Tryz.call13⟩ (.cons ⟨Tryz.func14,fun _ => Tryz.call14⟩ (.cons ⟨Tryz.func15,fun _ => Tryz.call15⟩ (.cons ⟨Tryz.func16,fun _ => Tryz.call16⟩ (.cons ⟨Tryz.func17,fun _ => Tryz.call17⟩ (.cons ⟨Tryz.func18,fun _ => Tryz.call18⟩ (.cons ⟨Tryz.func19,fun _ => Tryz.call19⟩ (.cons ⟨Tryz.func20,fun _ => Tryz.call20⟩ (.cons ⟨Tryz.func21,fun _ => Tryz.call21⟩ (.cons ⟨Tryz.func22,fun _ => Tryz.call22⟩ (.cons ⟨Tryz.func23,fun _ => Tryz.call23⟩ (.cons ⟨Tryz.func24,fun _ => Tryz.call24⟩ (.cons ⟨Tryz.func25,fun h => absurd h (by rw [show Tryz.f25.body.isSome = false by kernel_rfl]; simp)⟩ (.cons ⟨Tryz.func26,fun h => absurd h (by rw [show Tryz.f26.body.isSome = false by kernel_rfl]; simp)⟩ (.cons ⟨Tryz.func27,fun h => absurd h (by rw [show Tryz.f27.body.isSome = false by kernel_rfl]; simp)⟩ (.cons ⟨Tryz.func28,fun _ => Tryz.call28⟩ (.cons ⟨Tryz.func29,fun _ => Tryz.call29⟩ (.cons ⟨Tryz.func30,fun _ => Tryz.call30⟩ (.cons ⟨Tryz.func31,fun _ => Tryz.call31⟩ (.cons ⟨Tryz.func32,fun _ => Tryz.call32⟩ (.cons ⟨Tryz.func33,fun _ => Tryz.call33⟩ (.cons ⟨Tryz.func34,fun _ => Tryz.call34⟩ (.cons ⟨Tryz.func35,fun _ => Tryz.call35⟩ (.cons ⟨Tryz.func36,fun _ => Tryz.call36⟩ (.cons ⟨Tryz.func37,fun _ => Tryz.call37⟩ (.cons ⟨Tryz.func38,fun _ => Tryz.call38⟩ (.cons ⟨Tryz.func39,fun _ => Tryz.call39⟩ (.cons ⟨Tryz.func40,fun _ => Tryz.call40⟩ (.cons ⟨Tryz.func41,fun _ => Tryz.call41⟩ (.cons ⟨Tryz.func42,fun _ => Tryz.call42⟩ (.cons ⟨Tryz.func43,fun _ => Tryz.call43⟩ (.cons ⟨Tryz.func44,fun _ => Tryz.call44⟩ (.cons ⟨Tryz.func45,fun _ => Tryz.call45⟩ (.cons ⟨Tryz.func46,fun _ => Tryz.call46⟩ (.cons ⟨Tryz.func47,fun _ => Tryz.call47⟩ (.cons ⟨Tryz.func48,fun _ => Tryz.call48⟩ (.cons ⟨Tryz.func49,fun _ => Tryz.call49⟩ (.cons ⟨Tryz.func50,fun _ => Tryz.call50⟩ (.cons ⟨Tryz.func51,fun _ => Tryz.call51⟩ (.cons ⟨Tryz.func52,fun _ => Tryz.call52⟩ (.cons ⟨Tryz.func53,fun _ => Tryz.call53⟩ (.cons ⟨Tryz.func54,fun _ => Tryz.call54⟩ (.cons ⟨Tryz.func55,fun _ => Tryz.call55⟩ (.cons ⟨Tryz.func56,fun _ => Tryz.call56⟩ (.cons ⟨Tryz.func57,fun _ => Tryz.call57⟩ (.cons ⟨Tryz.func58,fun _ => Tryz.call58⟩ (.cons ⟨Tryz.func59,fun _ => Tryz.call59⟩ (.cons ⟨Tryz.func60,fun _ => Tryz.call60⟩ (.cons ⟨Tryz.func61,fun h => absurd h (by rw [show Tryz.f61.body.isSome = false by kernel_rfl]; simp)⟩ (.nil 62))))))))))))))))))))))))))))))))))))))))))))))))))))))))))))))
theorem fns1 : AllFrom FnFact 62 [Tryz.f62,Tryz.f63,Tryz.f64,Tryz.f65,Tryz.f66,Tryz.f67,Tryz.f68,Tryz.f69,Tryz.f70,Tryz.f71,Tryz.f72,Tryz.f73,Tryz.f74,Tryz.f75,Tryz.f76,Tryz.f77,Tryz.f78,Tryz.f79,Tryz.f80,Tryz.f81,Tryz.f82,Tryz.f83,Tryz.f84,Tryz.f85,Tryz.f86,Tryz.f87,Tryz.f88,Tryz.f89,Tryz.f90,Tryz.f91,Tryz.f92,Tryz.f93,Tryz.f94,Tryz.f95,Tryz.f96,Tryz.f97,Tryz.f98,Tryz.f99,Tryz.f100,Tryz.f101,Tryz.f102,Tryz.f103,Tryz.f104,Tryz.f105,Tryz.f106,Tryz.f107,Tryz.f108,Tryz.f109,Tryz.f110,Tryz.f111,Tryz.f112,Tryz.f113,Tryz.f114,Tryz.f115,Tryz.f116,Tryz.f117,Tryz.f118,Tryz.f119,Tryz.f120,Tryz.f121,Tryz.f122,Tryz.f123] := .cons ⟨Tryz.func62,fun _ => Tryz.call62⟩ (.cons ⟨Tryz.func63,fun _ => Tryz.call63⟩ (.cons ⟨Tryz.func64,fun _ => Tryz.call64⟩ (.cons ⟨Tryz.func65,fun _ => Tryz.call65⟩ (.cons ⟨Tryz.func66,fun _ => Tryz.call66⟩ (.cons ⟨Tryz.func67,fun _ => Tryz.call67⟩ (.cons ⟨Tryz.func68,fun _ => Tryz.call68⟩ (.cons ⟨Tryz.func69,fun _ => Tryz.call69⟩ (.cons ⟨Tryz.func70,fun _ => Tryz.call70⟩ (.cons ⟨Tryz.func71,fun _ => Tryz.call71⟩ (.cons ⟨Tryz.func72,fun _ => Tryz.call72⟩ (.cons ⟨Tryz.func73,fun _ => Tryz.call73⟩ (.cons ⟨Tryz.func74,fun _ => Tryz.call74⟩ (.cons ⟨Tryz.func75,fun _ => Tryz.call75⟩ (.cons ⟨Tryz.func76,fun _ => Tryz.call76⟩ (.cons ⟨Tryz.func77,fun h => absurd h (by rw [show Tryz.f77.body.isSome = false by kernel_rfl]; simp)⟩ (.cons ⟨Tryz.func78,fun h => absurd h (by rw [show Tryz.f78.body.isSome = false by kernel_rfl]; simp)⟩ (.cons ⟨Tryz.func79,fun _ => Tryz.call79⟩ (.cons ⟨Tryz.func80,fun _ => Tryz.call80⟩ (.cons ⟨Tryz.func81,fun _ => Tryz.call81⟩ (.cons ⟨Tryz.func82,fun _ => Tryz.call82⟩ (.cons ⟨Tryz.func83,fun _ => Tryz.call83⟩ (.cons ⟨Tryz.func84,fun _ => Tryz.call84⟩ (.cons ⟨Tryz.func85,fun _ => Tryz.call85⟩ (.cons ⟨Tryz.func86,fun _ => Tryz.call86⟩ (.cons ⟨Tryz.func87,fun _ => Tryz.call87⟩ (.cons ⟨Tryz.func88,fun _ => Tryz.call88⟩ (.cons ⟨Tryz.func89,fun h => absurd h (by rw [show Tryz.f89.body.isSome = false by kernel_rfl]; simp)⟩ (.cons ⟨Tryz.func90,fun h => absurd h (by rw [show Tryz.f90.body.isSome = false by kernel_rfl]; simp)⟩ (.cons ⟨Tryz.func91,fun h => absurd h (by rw [show Tryz.f91.body.isSome = false by kernel_rfl]; simp)⟩ (.cons ⟨Tryz.func92,fun h => absurd h (by rw [show Tryz.f92.body.isSome = false by kernel_rfl]; simp)⟩ (.cons ⟨Tryz.func93,fun _ => Tryz.call93⟩ (.cons ⟨Tryz.func94,fun h => absurd h (by rw [show Tryz.f94.body.isSome = false by kernel_rfl]; simp)⟩ (.cons ⟨Tryz.func95,fun h => absurd h (by rw [show Tryz.f95.body.isSome = false by kernel_rfl]; simp)⟩ (.cons ⟨Tryz.func96,fun _ => Tryz.call96⟩ (.cons ⟨Tryz.func97,fun _ => Tryz.call97⟩ (.cons ⟨Tryz.func98,fun h => absurd h (by rw [show Tryz.f98.body.isSome = false by kernel_rfl]; simp)⟩ (.cons ⟨Tryz.func99,fun _ => Tryz.call99⟩ (.cons ⟨Tryz.func100,fun _ => Tryz.call100⟩ (.cons ⟨Tryz.func101,fun _ => Tryz.call101⟩ (.cons ⟨Tryz.func102,fun _ => Tryz.call102⟩ (.cons ⟨Tryz.func103,fun _ => Tryz.call103⟩ (.cons ⟨Tryz.func104,fun _ => Tryz.call104⟩ (.cons ⟨Tryz.func105,fun _ => Tryz.call105⟩ (.cons ⟨Tryz.func106,fun _ => Tryz.call106⟩ (.cons ⟨Tryz.func107,fun _ => Tryz.call107⟩ (.cons ⟨Tryz.func108,fun _ => Tryz.call108⟩ (.cons ⟨Tryz.func109,fun _ => Tryz.call109⟩ (.cons ⟨Tryz.func110,fun _ => Tryz.call110⟩ (.cons ⟨Tryz.func111,fun _ => Tryz.call111⟩ (.cons ⟨Tryz.func112,fun _ => Tryz.call112⟩ (.cons ⟨Tryz.func113,fun h => absurd h (by rw [show Tryz.f113.body.isSome = false by kernel_rfl]; simp)⟩ (.cons ⟨Tryz.func114,fun _ => Tryz.call114⟩ (.cons ⟨Tryz.func115,fun h => absurd h (by rw [show Tryz.f115.body.isSome = false by kernel_rfl]; simp)⟩ (.cons ⟨Tryz.func116,fun _ => Tryz.call116⟩ (.cons ⟨Tryz.func117,fun _ => Tryz.call117⟩ (.cons ⟨Tryz.func118,fun _ => Tryz.call118⟩ (.cons ⟨Tryz.func119,fun _ => Tryz.call119⟩ (.cons ⟨Tryz.func120,fun _ => Tryz.call120⟩ (.cons ⟨Tryz.func121,fun _ => Tryz.call121⟩ (.cons ⟨Tryz.func122,fun _ => Tryz.call122⟩ (.cons ⟨Tryz.func123,fun _ => Tryz.call123⟩ (.nil 124))))))))))))))))))))))))))))))))))))))))))))))))))))))))))))))
theorem fns2 : AllFrom FnFact 124 [Tryz.f124,Tryz.f125,Tryz.f126,Tryz.f127,Tryz.f128,Tryz.f129,Tryz.f130,Tryz.f131,Tryz.f132,Tryz.f133,Tryz.f134,Tryz.f135,Tryz.f136,Tryz.f137,Tryz.f138,Tryz.f139,Tryz.f140,Tryz.f141,Tryz.f142,Tryz.f143,Tryz.f144,Tryz.f145,Tryz.f146,Tryz.f147,Tryz.f148,Tryz.f149,Tryz.f150,Tryz.f151,Tryz.f152,Tryz.f153,Tryz.f154,Tryz.f155,Tryz.f156,Tryz.f157,Tryz.f158,Tryz.f159,Tryz.f160,Tryz.f161,Tryz.f162,Tryz.f163,Tryz.f164,Tryz.f165,Tryz.f166,Tryz.f167,Tryz.f168,Tryz.f169,Tryz.f170,Tryz.f171,Tryz.f172,Tryz.f173,Tryz.f174,Tryz.f175,Tryz.f176,Tryz.f177,Tryz.f178,Tryz.f179,Tryz.f180,Tryz.f181,Tryz.f182,Tryz.f183,Tryz.f184,Tryz.f185] := .cons ⟨Tryz.func124,fun _ => Tryz.call124⟩ (.cons ⟨Tryz.func125,fun _ => Tryz.call125⟩ (.cons ⟨Tryz.func126,fun _ => Tryz.call126⟩ (.cons ⟨Tryz.func127,fun _ => Tryz.call127⟩ (.cons ⟨Tryz.func128,fun _ => Tryz.call128⟩ (.cons ⟨Tryz.func129,fun _ => Tryz.call129⟩ (.cons ⟨Tryz.func130,fun _ => Tryz.call130⟩ (.cons ⟨Tryz.func131,fun _ => Tryz.call131⟩ (.cons ⟨Tryz.func132,fun _ => Tryz.call132⟩ (.cons ⟨Tryz.func133,fun h => absurd h (by rw [show Tryz.f133.body.isSome = false by kernel_rfl]; simp)⟩ (.cons ⟨Tryz.func134,fun _ => Tryz.call134⟩ (.cons ⟨Tryz.func135,fun _ => Tryz.call135⟩ (.cons ⟨Tryz.func136,fun _ => Tryz.call136⟩ (.cons ⟨Tryz.func137,fun _ => Tryz.call137⟩ (.cons ⟨Tryz.func138,fun _ => Tryz.call138⟩ (.cons ⟨Tryz.func139,fun _ => Tryz.call139⟩ (.cons ⟨Tryz.func140,fun _ => Tryz.call140⟩ (.cons ⟨Tryz.func141,fun _ => Tryz.call141⟩ (.cons ⟨Tryz.func142,fun _ => Tryz.call142⟩ (.cons ⟨Tryz.func143,fun _ => Tryz.call143⟩ (.cons ⟨Tryz.func144,fun _ => Tryz.call144⟩ (.cons ⟨Tryz.func145,fun _ => Tryz.call145⟩ (.cons ⟨Tryz.func146,fun _ => Tryz.call146⟩ (.cons ⟨Tryz.func147,fun _ => Tryz.call147⟩ (.cons ⟨Tryz.func148,fun _ => Tryz.call148⟩ (.cons ⟨Tryz.func149,fun _ => Tryz.call149⟩ (.cons ⟨Tryz.func150,fun _ => Tryz.call150⟩ (.cons ⟨Tryz.func151,fun _ => Tryz.call151⟩ (.cons ⟨Tryz.func152,fun _ => Tryz.call152⟩ (.cons ⟨Tryz.func153,fun _ => Tryz.call153⟩ (.cons ⟨Tryz.func154,fun _ => Tryz.call154⟩ (.cons ⟨Tryz.func155,fun _ => Tryz.call155⟩ (.cons ⟨Tryz.func156,fun _ => Tryz.call156⟩ (.cons ⟨Tryz.func157,fun _ => Tryz.call157⟩ (.cons ⟨Tryz.func158,fun _ => Tryz.call158⟩ (.cons ⟨Tryz.func159,fun _ => Tryz.call159⟩ (.cons ⟨Tryz.func160,fun _ => Tryz.call160⟩ (.cons ⟨Tryz.func161,fun _ => Tryz.call161⟩ (.cons ⟨Tryz.func162,fun _ => Tryz.call162⟩ (.cons ⟨Tryz.func163,fun _ => Tryz.call163⟩ (.cons ⟨Tryz.func164,fun _ => Tryz.call164⟩ (.cons ⟨Tryz.func165,fun _ => Tryz.call165⟩ (.cons ⟨Tryz.func166,fun _ => Tryz.call166⟩ (.cons ⟨Tryz.func167,fun _ => Tryz.call167⟩ (.cons ⟨Tryz.func168,fun _ => Tryz.call168⟩ (.cons ⟨Tryz.func169,fun _ => Tryz.call169⟩ (.cons ⟨Tryz.func170,fun _ => Tryz.call170⟩ (.cons ⟨Tryz.func171,fun _ => Tryz.call171⟩ (.cons ⟨Tryz.func172,fun _ => Tryz.call172⟩ (.cons ⟨Tryz.func173,fun _ => Tryz.call173⟩ (.cons ⟨Tryz.func174,fun _ => Tryz.call174⟩ (.cons ⟨Tryz.func175,fun _ => Tryz.call175⟩ (.cons ⟨Tryz.func176,fun _ => Tryz.call176⟩ (.cons ⟨Tryz.func177,fun _ => Tryz.call177⟩ (.cons ⟨Tryz.func178,fun _ => Tryz.call178⟩ (.cons ⟨Tryz.func179,fun _ => Tryz.call179⟩ (.cons ⟨Tryz.func180,fun _ => Tryz.call180⟩ (.cons ⟨Tryz.func181,fun h => absurd h (by rw [show Tryz.f181.body.isSome = false by kernel_rfl]; simp)⟩ (.cons ⟨Tryz.func182,fun _ => Tryz.call182⟩ (.cons ⟨Tryz.func183,fun _ => Tryz.call183⟩ (.cons ⟨Tryz.func184,fun _ => Tryz.call184⟩ (.cons ⟨Tryz.func185,fun _ => Tryz.call185⟩ (.nil 186))))))))))))))))))))))))))))))))))))))))))))))))))))))))))))))
theorem fns3 : AllFrom FnFact 186 [Tryz.f186,Tryz.f187,Tryz.f188,Tryz.f189,Tryz.f190,Tryz.f191,Tryz.f192,Tryz.f193,Tryz.f194,Tryz.f195,Tryz.f196,Tryz.f197,Tryz.f198,Tryz.f199,Tryz.f200,Tryz.f201,Tryz.f202,Tryz.f203,Tryz.f204,Tryz.f205,Tryz.f206,Tryz.f207,Tryz.f208,Tryz.f209,Tryz.f210,Tryz.f211,Tryz.f212,Tryz.f213,Tryz.f214,Tryz.f215,Tryz.f216,Tryz.f217,Tryz.f218,Tryz.f219,Tryz.f220,Tryz.f221,Tryz.f222,Tryz.f223,Tryz.f224,Tryz.f225,Tryz.f226,Tryz.f227,Tryz.f228,Tryz.f229,Tryz.f230,Tryz.f231,Tryz.f232,Tryz.f233,Tryz.f234,Tryz.f235,Tryz.f236,Tryz.f237,Tryz.f238,Tryz.f239,Tryz.f240,Tryz.f241,Tryz.f242,Tryz.f243,Tryz.f244,Tryz.f245,Tryz.f246,Tryz.f247] := .cons ⟨Tryz.func186,fun _ => Tryz.call186⟩ (.cons ⟨Tryz.func187,fun _ => Tryz.call187⟩ (.cons ⟨Tryz.func188,fun _ => Tryz.call188⟩ (.cons ⟨Tryz.func189,fun _ => Tryz.call189⟩ (.cons ⟨Tryz.func190,fun _ => Tryz.call190⟩ (.cons ⟨Tryz.func191,fun _ => Tryz.call191⟩ (.cons ⟨Tryz.func192,fun _ => Tryz.call192⟩ (.cons ⟨Tryz.func193,fun _ => Tryz.call193⟩ (.cons ⟨Tryz.func194,fun _ => Tryz.call194⟩ (.cons ⟨Tryz.func195,fun _ => Tryz.call195⟩ (.cons ⟨Tryz.func196,fun _ => Tryz.call196⟩ (.cons ⟨Tryz.func197,fun _ => Tryz.call197⟩ (.cons ⟨Tryz.func198,fun _ => Tryz.call198⟩ (.cons ⟨Tryz.func199,fun _ => Tryz.call199⟩ (.cons ⟨Tryz.func200,fun _ => Tryz.call200⟩ (.cons ⟨Tryz.func201,fun _ => Tryz.call201⟩ (.cons ⟨Tryz.func202,fun _ => Tryz.call202⟩ (.cons ⟨Tryz.func203,fun _ => Tryz.call203⟩ (.cons ⟨Tryz.func204,fun h => absurd h (by rw [show Tryz.f204.body.isSome = false by kernel_rfl]; simp)⟩ (.cons ⟨Tryz.func205,fun h => absurd h (by rw [show Tryz.f205.body.isSome = false by kernel_rfl]; simp)⟩ (.cons ⟨Tryz.func206,fun _ => Tryz.call206⟩ (.cons ⟨Tryz.func207,fun h => absurd h (by rw [show Tryz.f207.body.isSome = false by kernel_rfl]; simp)⟩ (.cons ⟨Tryz.func208,fun h => absurd h (by rw [show Tryz.f208.body.isSome = false by kernel_rfl]; simp)⟩ (.cons ⟨Tryz.func209,fun _ => Tryz.call209⟩ (.cons ⟨Tryz.func210,fun _ => Tryz.call210⟩ (.cons ⟨Tryz.func211,fun h => absurd h (by rw [show Tryz.f211.body.isSome = false by kernel_rfl]; simp)⟩ (.cons ⟨Tryz.func212,fun h => absurd h (by rw [show Tryz.f212.body.isSome = false by kernel_rfl]; simp)⟩ (.cons ⟨Tryz.func213,fun _ => Tryz.call213⟩ (.cons ⟨Tryz.func214,fun h => absurd h (by rw [show Tryz.f214.body.isSome = false by kernel_rfl]; simp)⟩ (.cons ⟨Tryz.func215,fun _ => Tryz.call215⟩ (.cons ⟨Tryz.func216,fun _ => Tryz.call216⟩ (.cons ⟨Tryz.func217,fun _ => Tryz.call217⟩ (.cons ⟨Tryz.func218,fun _ => Tryz.call218⟩ (.cons ⟨Tryz.func219,fun _ => Tryz.call219⟩ (.cons ⟨Tryz.func220,fun _ => Tryz.call220⟩ (.cons ⟨Tryz.func221,fun _ => Tryz.call221⟩ (.cons ⟨Tryz.func222,fun _ => Tryz.call222⟩ (.cons ⟨Tryz.func223,fun h => absurd h (by rw [show Tryz.f223.body.isSome = false by kernel_rfl]; simp)⟩ (.cons ⟨Tryz.func224,fun h => absurd h (by rw [show Tryz.f224.body.isSome = false by kernel_rfl]; simp)⟩ (.cons ⟨Tryz.func225,fun _ => Tryz.call225⟩ (.cons ⟨Tryz.func226,fun _ => Tryz.call226⟩ (.cons ⟨Tryz.func227,fun h => absurd h (by rw [show Tryz.f227.body.isSome = false by kernel_rfl]; simp)⟩ (.cons ⟨Tryz.func228,fun _ => Tryz.call228⟩ (.cons ⟨Tryz.func229,fun _ => Tryz.call229⟩ (.cons ⟨Tryz.func230,fun _ => Tryz.call230⟩ (.cons ⟨Tryz.func231,fun _ => Tryz.call231⟩ (.cons ⟨Tryz.func232,fun _ => Tryz.call232⟩ (.cons ⟨Tryz.func233,fun _ => Tryz.call233⟩ (.cons ⟨Tryz.func234,fun _ => Tryz.call234⟩ (.cons ⟨Tryz.func235,fun _ => Tryz.call235⟩ (.cons ⟨Tryz.func236,fun _ => Tryz.call236⟩ (.cons ⟨Tryz.func237,fun _ => Tryz.call237⟩ (.cons ⟨Tryz.func238,fun _ => Tryz.call238⟩ (.cons ⟨Tryz.func239,fun _ => Tryz.call239⟩ (.cons ⟨Tryz.func240,fun h => absurd h (by rw [show Tryz.f240.body.isSome = false by kernel_rfl]; simp)⟩ (.cons ⟨Tryz.func241,fun _ => Tryz.call241⟩ (.cons ⟨Tryz.func242,fun _ => Tryz.call242⟩ (.cons ⟨Tryz.func243,fun _ => Tryz.call243⟩ (.cons ⟨Tryz.func244,fun h => absurd h (by rw [show Tryz.f244.body.isSome = false by kernel_rfl]; simp)⟩ (.cons ⟨Tryz.func245,fun _ => Tryz.call245⟩ (.cons ⟨Tryz.func246,fun _ => Tryz.call246⟩ (.cons ⟨Tryz.func247,fun _ => Tryz.call247⟩ (.nil 248))))))))))))))))))))))))))))))))))))))))))))))))))))))))))))))
theorem fns4 : AllFrom FnFact 248 [Tryz.f248,Tryz.f249,Tryz.f250,Tryz.f251,Tryz.f252,Tryz.f253,Tryz.f254,Tryz.f255,Tryz.f256,Tryz.f257,Tryz.f258,Tryz.f259,Tryz.f260,Tryz.f261,Tryz.f262,Tryz.f263,Tryz.f264,Tryz.f265,Tryz.f266,Tryz.f267,Tryz.f268,Tryz.f269,Tryz.f270,Tryz.f271,Tryz.f272,Tryz.f273,Tryz.f274,Tryz.f275,Tryz.f276,Tryz.f277,Tryz.f278,Tryz.f279,Tryz.f280,Tryz.f281,Tryz.f282,Tryz.f283,Tryz.f284,Tryz.f285,Tryz.f286,Tryz.f287,Tryz.f288,Tryz.f289,Tryz.f290,Tryz.f291,Tryz.f292,Tryz.f293,Tryz.f294,Tryz.f295,Tryz.f296,Tryz.f297,Tryz.f298,Tryz.f299,Tryz.f300,Tryz.f301,Tryz.f302,Tryz.f303,Tryz.f304,Tryz.f305,Tryz.f306,Tryz.f307,Tryz.f308,Tryz.f309] := .cons ⟨Tryz.func248,fun _ => Tryz.call248⟩ (.cons ⟨Tryz.func249,fun _ => Tryz.call249⟩ (.cons ⟨Tryz.func250,fun _ => Tryz.call250⟩ (.cons ⟨Tryz.func251,fun _ => Tryz.call251⟩ (.cons ⟨Tryz.func252,fun _ => Tryz.call252⟩ (.cons ⟨Tryz.func253,fun h => absurd h (by rw [show Tryz.f253.body.isSome = false by kernel_rfl]; simp)⟩ (.cons ⟨Tryz.func254,fun h => absurd h (by rw [show Tryz.f254.body.isSome = false by kernel_rfl]; simp)⟩ (.cons ⟨Tryz.func255,fun _ => Tryz.call255⟩ (.cons ⟨Tryz.func256,fun _ => Tryz.call256⟩ (.cons ⟨Tryz.func257,fun _ => Tryz.call257⟩ (.cons ⟨Tryz.func258,fun h => absurd h (by rw [show Tryz.f258.body.isSome = false by kernel_rfl]; simp)⟩ (.cons ⟨Tryz.func259,fun h => absurd h (by rw [show Tryz.f259.body.isSome = false by kernel_rfl]; simp)⟩ (.cons ⟨Tryz.func260,fun _ => Tryz.call260⟩ (.cons ⟨Tryz.func261,fun _ => Tryz.call261⟩ (.cons ⟨Tryz.func262,fun _ => Tryz.call262⟩ (.cons ⟨Tryz.func263,fun _ => Tryz.call263⟩ (.cons ⟨Tryz.func264,fun _ => Tryz.call264⟩ (.cons ⟨Tryz.func265,fun _ => Tryz.call265⟩ (.cons ⟨Tryz.func266,fun h => absurd h (by rw [show Tryz.f266.body.isSome = false by kernel_rfl]; simp)⟩ (.cons ⟨Tryz.func267,fun h => absurd h (by rw [show Tryz.f267.body.isSome = false by kernel_rfl]; simp)⟩ (.cons ⟨Tryz.func268,fun h => absurd h (by rw [show Tryz.f268.body.isSome = false by kernel_rfl]; simp)⟩ (.cons ⟨Tryz.func269,fun h => absurd h (by rw [show Tryz.f269.body.isSome = false by kernel_rfl]; simp)⟩ (.cons ⟨Tryz.func270,fun h => absurd h (by rw [show Tryz.f270.body.isSome = false by kernel_rfl]; simp)⟩ (.cons ⟨Tryz.func271,fun h => absurd h (by rw [show Tryz.f271.body.isSome = false by kernel_rfl]; simp)⟩ (.cons ⟨Tryz.func272,fun h => absurd h (by rw [show Tryz.f272.body.isSome = false by kernel_rfl]; simp)⟩ (.cons ⟨Tryz.func273,fun h => absurd h (by rw [show Tryz.f273.body.isSome = false by kernel_rfl]; simp)⟩ (.cons ⟨Tryz.func274,fun h => absurd h (by rw [show Tryz.f274.body.isSome = false by kernel_rfl]; simp)⟩ (.cons ⟨Tryz.func275,fun h => absurd h (by rw [show Tryz.f275.body.isSome = false by kernel_rfl]; simp)⟩ (.cons ⟨Tryz.func276,fun h => absurd h (by rw [show Tryz.f276.body.isSome = false by kernel_rfl]; simp)⟩ (.cons ⟨Tryz.func277,fun h => absurd h (by rw [show Tryz.f277.body.isSome = false by kernel_rfl]; simp)⟩ (.cons ⟨Tryz.func278,fun h => absurd h (by rw [show Tryz.f278.body.isSome = false by kernel_rfl]; simp)⟩ (.cons ⟨Tryz.func279,fun _ => Tryz.call279⟩ (.cons ⟨Tryz.func280,fun _ => Tryz.call280⟩ (.cons ⟨Tryz.func281,fun _ => Tryz.call281⟩ (.cons ⟨Tryz.func282,fun _ => Tryz.call282⟩ (.cons ⟨Tryz.func283,fun _ => Tryz.call283⟩ (.cons ⟨Tryz.func284,fun _ => Tryz.call284⟩ (.cons ⟨Tryz.func285,fun _ => Tryz.call285⟩ (.cons ⟨Tryz.func286,fun _ => Tryz.call286⟩ (.cons ⟨Tryz.func287,fun _ => Tryz.call287⟩ (.cons ⟨Tryz.func288,fun _ => Tryz.call288⟩ (.cons ⟨Tryz.func289,fun _ => Tryz.call289⟩ (.cons ⟨Tryz.func290,fun _ => Tryz.call290⟩ (.cons ⟨Tryz.func291,fun _ => Tryz.call291⟩ (.cons ⟨Tryz.func292,fun _ => Tryz.call292⟩ (.cons ⟨Tryz.func293,fun _ => Tryz.call293⟩ (.cons ⟨Tryz.func294,fun _ => Tryz.call294⟩ (.cons ⟨Tryz.func295,fun _ => Tryz.call295⟩ (.cons ⟨Tryz.func296,fun _ => Tryz.call296⟩ (.cons ⟨Tryz.func297,fun _ => Tryz.call297⟩ (.cons ⟨Tryz.func298,fun _ => Tryz.call298⟩ (.cons ⟨Tryz.func299,fun h => absurd h (by rw [show Tryz.f299.body.isSome = false by kernel_rfl]; simp)⟩ (.cons ⟨Tryz.func300,fun _ => Tryz.call300⟩ (.cons ⟨Tryz.func301,fun _ => Tryz.call301⟩ (.cons ⟨Tryz.func302,fun h => absurd h (by rw [show Tryz.f302.body.isSome = false by kernel_rfl]; simp)⟩ (.cons ⟨Tryz.func303,fun h => absurd h (by rw [show Tryz.f303.body.isSome = false by kernel_rfl]; simp)⟩ (.cons ⟨Tryz.func304,fun h => absurd h (by rw [show Tryz.f304.body.isSome = false by kernel_rfl]; simp)⟩ (.cons ⟨Tryz.func305,fun h => absurd h (by rw [show Tryz.f305.body.isSome = false by kernel_rfl]; simp)⟩ (.cons ⟨Tryz.func306,fun _ => Tryz.call306⟩ (.cons ⟨Tryz.func307,fun _ => Tryz.call307⟩ (.cons ⟨Tryz.func308,fun _ => Tryz.call308⟩ (.cons ⟨Tryz.func309,fun _ => Tryz.call309⟩ (.nil 310))))))))))))))))))))))))))))))))))))))))))))))))))))))))))))))
theorem fns5 : AllFrom FnFact 310 [Tryz.f310,Tryz.f311,Tryz.f312,Tryz.f313,Tryz.f314,Tryz.f315,Tryz.f316,Tryz.f317,Tryz.f318,Tryz.f319,Tryz.f320,Tryz.f321,Tryz.f322,Tryz.f323,Tryz.f324,Tryz.f325,Tryz.f326,Tryz.f327,Tryz.f328,Tryz.f329,Tryz.f330,Tryz.f331,Tryz.f332,Tryz.f333,Tryz.f334,Tryz.f335,Tryz.f336,Tryz.f337,Tryz.f338,Tryz.f339,Tryz.f340,Tryz.f341,Tryz.f342,Tryz.f343,Tryz.f344,Tryz.f345,Tryz.f346,Tryz.f347,Tryz.f348,Tryz.f349,Tryz.f350,Tryz.f351,Tryz.f352,Tryz.f353,Tryz.f354,Tryz.f355,Tryz.f356,Tryz.f357,Tryz.f358,Tryz.f359,Tryz.f360,Tryz.f361,Tryz.f362,Tryz.f363,Tryz.f364,Tryz.f365,Tryz.f366] := .cons ⟨Tryz.func310,fun _ => Tryz.call310⟩ (.cons ⟨Tryz.func311,fun _ => Tryz.call311⟩ (.cons ⟨Tryz.func312,fun _ => Tryz.call312⟩ (.cons ⟨Tryz.func313,fun h => absurd h (by rw [show Tryz.f313.body.isSome = false by kernel_rfl]; simp)⟩ (.cons ⟨Tryz.func314,fun h => absurd h (by rw [show Tryz.f314.body.isSome = false by kernel_rfl]; simp)⟩ (.cons ⟨Tryz.func315,fun h => absurd h (by rw [show Tryz.f315.body.isSome = false by kernel_rfl]; simp)⟩ (.cons ⟨Tryz.func316,fun h => absurd h (by rw [show Tryz.f316.body.isSome = false by kernel_rfl]; simp)⟩ (.cons ⟨Tryz.func317,fun h => absurd h (by rw [show Tryz.f317.body.isSome = false by kernel_rfl]; simp)⟩ (.cons ⟨Tryz.func318,fun h => absurd h (by rw [show Tryz.f318.body.isSome = false by kernel_rfl]; simp)⟩ (.cons ⟨Tryz.func319,fun h => absurd h (by rw [show Tryz.f319.body.isSome = false by kernel_rfl]; simp)⟩ (.cons ⟨Tryz.func320,fun h => absurd h (by rw [show Tryz.f320.body.isSome = false by kernel_rfl]; simp)⟩ (.cons ⟨Tryz.func321,fun h => absurd h (by rw [show Tryz.f321.body.isSome = false by kernel_rfl]; simp)⟩ (.cons ⟨Tryz.func322,fun h => absurd h (by rw [show Tryz.f322.body.isSome = false by kernel_rfl]; simp)⟩ (.cons ⟨Tryz.func323,fun h => absurd h (by rw [show Tryz.f323.body.isSome = false by kernel_rfl]; simp)⟩ (.cons ⟨Tryz.func324,fun h => absurd h (by rw [show Tryz.f324.body.isSome = false by kernel_rfl]; simp)⟩ (.cons ⟨Tryz.func325,fun h => absurd h (by rw [show Tryz.f325.body.isSome = false by kernel_rfl]; simp)⟩ (.cons ⟨Tryz.func326,fun h => absurd h (by rw [show Tryz.f326.body.isSome = false by kernel_rfl]; simp)⟩ (.cons ⟨Tryz.func327,fun h => absurd h (by rw [show Tryz.f327.body.isSome = false by kernel_rfl]; simp)⟩ (.cons ⟨Tryz.func328,fun h => absurd h (by rw [show Tryz.f328.body.isSome = false by kernel_rfl]; simp)⟩ (.cons ⟨Tryz.func329,fun h => absurd h (by rw [show Tryz.f329.body.isSome = false by kernel_rfl]; simp)⟩ (.cons ⟨Tryz.func330,fun h => absurd h (by rw [show Tryz.f330.body.isSome = false by kernel_rfl]; simp)⟩ (.cons ⟨Tryz.func331,fun h => absurd h (by rw [show Tryz.f331.body.isSome = false by kernel_rfl]; simp)⟩ (.cons ⟨Tryz.func332,fun _ => Tryz.call332⟩ (.cons ⟨Tryz.func333,fun h => absurd h (by rw [show Tryz.f333.body.isSome = false by kernel_rfl]; simp)⟩ (.cons ⟨Tryz.func334,fun h => absurd h (by rw [show Tryz.f334.body.isSome = false by kernel_rfl]; simp)⟩ (.cons ⟨Tryz.func335,fun h => absurd h (by rw [show Tryz.f335.body.isSome = false by kernel_rfl]; simp)⟩ (.cons ⟨Tryz.func336,fun h => absurd h (by rw [show Tryz.f336.body.isSome = false by kernel_rfl]; simp)⟩ (.cons ⟨Tryz.func337,fun h => absurd h (by rw [show Tryz.f337.body.isSome = false by kernel_rfl]; simp)⟩ (.cons ⟨Tryz.func338,fun h => absurd h (by rw [show Tryz.f338.body.isSome = false by kernel_rfl]; simp)⟩ (.cons ⟨Tryz.func339,fun h => absurd h (by rw [show Tryz.f339.body.isSome = false by kernel_rfl]; simp)⟩ (.cons ⟨Tryz.func340,fun h => absurd h (by rw [show Tryz.f340.body.isSome = false by kernel_rfl]; simp)⟩ (.cons ⟨Tryz.func341,fun h => absurd h (by rw [show Tryz.f341.body.isSome = false by kernel_rfl]; simp)⟩ (.cons ⟨Tryz.func342,fun h => absurd h (by rw [show Tryz.f342.body.isSome = false by kernel_rfl]; simp)⟩ (.cons ⟨Tryz.func343,fun h => absurd h (by rw [show Tryz.f343.body.isSome = false by kernel_rfl]; simp)⟩ (.cons ⟨Tryz.func344,fun h => absurd h (by rw [show Tryz.f344.body.isSome = false by kernel_rfl]; simp)⟩ (.cons ⟨Tryz.func345,fun h => absurd h (by rw [show Tryz.f345.body.isSome = false by kernel_rfl]; simp)⟩ (.cons ⟨Tryz.func346,fun h => absurd h (by rw [show Tryz.f346.body.isSome = false by kernel_rfl]; simp)⟩ (.cons ⟨Tryz.func347,fun h => absurd h (by rw [show Tryz.f347.body.isSome = false by kernel_rfl]; simp)⟩ (.cons ⟨Tryz.func348,fun _ => Tryz.call348⟩ (.cons ⟨Tryz.func349,fun h => absurd h (by rw [show Tryz.f349.body.isSome = false by kernel_rfl]; simp)⟩ (.cons ⟨Tryz.func350,fun h => absurd h (by rw [show Tryz.f350.body.isSome = false by kernel_rfl]; simp)⟩ (.cons ⟨Tryz.func351,fun h => absurd h (by rw [show Tryz.f351.body.isSome = false by kernel_rfl]; simp)⟩ (.cons ⟨Tryz.func352,fun h => absurd h (by rw [show Tryz.f352.body.isSome = false by kernel_rfl]; simp)⟩ (.cons ⟨Tryz.func353,fun h => absurd h (by rw [show Tryz.f353.body.isSome = false by kernel_rfl]; simp)⟩ (.cons ⟨Tryz.func354,fun _ => Tryz.call354⟩ (.cons ⟨Tryz.func355,fun h => absurd h (by rw [show Tryz.f355.body.isSome = false by kernel_rfl]; simp)⟩ (.cons ⟨Tryz.func356,fun h => absurd h (by rw [show Tryz.f356.body.isSome = false by kernel_rfl]; simp)⟩ (.cons ⟨Tryz.func357,fun h => absurd h (by rw [show Tryz.f357.body.isSome = false by kernel_rfl]; simp)⟩ (.cons ⟨Tryz.func358,fun h => absurd h (by rw [show Tryz.f358.body.isSome = false by kernel_rfl]; simp)⟩ (.cons ⟨Tryz.func359,fun h => absurd h (by rw [show Tryz.f359.body.isSome = false by kernel_rfl]; simp)⟩ (.cons ⟨Tryz.func360,fun h => absurd h (by rw [show Tryz.f360.body.isSome = false by kernel_rfl]; simp)⟩ (.cons ⟨Tryz.func361,fun h => absurd h (by rw [show Tryz.f361.body.isSome = false by kernel_rfl]; simp)⟩ (.cons ⟨Tryz.func362,fun h => absurd h (by rw [show Tryz.f362.body.isSome = false by kernel_rfl]; simp)⟩ (.cons ⟨Tryz.func363,fun h => absurd h (by rw [show Tryz.f363.body.isSome = false by kernel_rfl]; simp)⟩ (.cons ⟨Tryz.func364,fun h => absurd h (by rw [show Tryz.f364.body.isSome = false by kernel_rfl]; simp)⟩ (.cons ⟨Tryz.func365,fun h => absurd h (by rw [show Tryz.f365.body.isSome = false by kernel_rfl]; simp)⟩ (.cons ⟨Tryz.func366,fun _ => Tryz.call366⟩ (.nil 367)))))))))))))))))))))))))))))))))))))))))))))))))))))))))
theorem tyAll : AllFrom TyFact 0 Tab.typeList := (tys0.append (tys1.append (tys2.append (tys3.append (tys4.append (tys5.append (tys6.append tys7)))))))
theorem fnAll : AllFrom FnFact 0 Tab.funcList := (fns0.append (fns1.append (fns2.append (fns3.append (fns4.append fns5)))))
theorem types_eq : Tab.types = Tr.ofL 33 Tab.typeList := by kernel_rfl
theorem funcs_eq : Tab.funcs = Tr.ofL 33 Tab.funcList := by kernel_rfl
end Go.Proofs.YtgiompikfhhkmaaGreatDoor

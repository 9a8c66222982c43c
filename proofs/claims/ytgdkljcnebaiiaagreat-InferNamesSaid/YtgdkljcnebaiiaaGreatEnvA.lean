/- The tables of the simulator and the program: types. The tables of the simulator and the program: types. The tables of the simulator and the program: types. The tables of the simulator and the program: types. The tables of the simulator and the program: types. The tables of the simulator and the program: types. The tables of the simulator and the program: types. The tables of the simulator and the program: types. The tables of the simulator and the program: types. The tables of the simulator and the program: functions; the tables as lists. The simulator's tables over this program. -/
import Derived.Test.YtgdkljcnebaiiaaGreatTab
import Derived.Test.YtgdkljcnebaiiaaGreatOpsA
import Derived.Test.YtgdkljcnebaiiaaGreatMemA
set_option linter.unusedVariables false
set_option linter.unusedSimpArgs false
namespace Go.Proofs.YtgdkljcnebaiiaaGreat
open Go Go.Sim
set_option maxRecDepth 100000
def zab (t : Nat) (ti : TI) : Prop := (∃ i,Tryz.prog.info? t = some i ∧ i.size = ti.size ∧ i.bytes = ti.bytes ∧ ∀ z,ti.zero = some z → i.zero = some z) ∧ Tryz.prog.underlying t = some ti.desc ∧ zrg ti = true
def zhy (f : Nat) (fn : Func) : Prop := Tryz.prog.funcs[f]? = some fn ∧ (fn.body.isSome = true → ∀ args w,(callFunc f args).run Tryz.prog w = .ok (.enter f args) w)
inductive AllFrom {α : Type} (Q : Nat → α → Prop) : Nat → List α → Prop
 | nil (i : Nat) : AllFrom Q i []
 | cons {i : Nat} {x : α} {l : List α} : Q i x → AllFrom Q (i + 1) l → AllFrom Q i (x :: l)
theorem AllFrom.get {α : Type} {Q : Nat → α → Prop} : ∀ {i : Nat} {l : List α},AllFrom Q i l → ∀ j x,l[j]? = some x → Q (i + j) x
 | _,_,.nil _,j,x,h => by simp at h
 | i,_,.cons hq hr,0,x,h => by simp only [List.getElem?_cons_zero,Option.some.injEq] at h; subst h; exact hq
 | i,_,.cons hq hr,j + 1,x,h => by
  have := hr.get j x (by simpa using h)
  rw [show i + (j + 1) = i + 1 + j by omega]
  exact this
theorem AllFrom.append {α : Type} {Q : Nat → α → Prop} : ∀ {i : Nat} {l m : List α},AllFrom Q i l → AllFrom Q (i + l.length) m → AllFrom Q i (l ++ m)
 | i,_,_,.nil _,h => by simpa using h
 | i,_,_,.cons (l := l) hq hr,h => .cons hq (hr.append (by
  rw [List.length_cons] at h
  have e : i + 1 + l.length = i + (l.length + 1) := by omega
  rw [e]
  exact h))
end Go.Proofs.YtgdkljcnebaiiaaGreat

namespace Go.Proofs.YtgdkljcnebaiiaaGreat
open Go Go.Sim
set_option maxRecDepth 100000
theorem ty0 : zab 0 Tab.t0 := by refine ⟨⟨Tryz.t0,?_,?_,?_,fun z h => by cases h⟩,?_,?_⟩ <;> kernel_rfl
theorem ty1 : zab 1 Tab.t1 := by refine ⟨⟨Tryz.t1,?_,?_,?_,fun z h => h⟩,?_,?_⟩ <;> kernel_rfl
theorem ty2 : zab 2 Tab.t2 := by refine ⟨⟨Tryz.t2,?_,?_,?_,fun z h => h⟩,?_,?_⟩ <;> kernel_rfl
theorem ty3 : zab 3 Tab.t3 := by refine ⟨⟨Tryz.t3,?_,?_,?_,fun z h => h⟩,?_,?_⟩ <;> kernel_rfl
theorem ty4 : zab 4 Tab.t4 := by refine ⟨⟨Tryz.t4,?_,?_,?_,fun z h => h⟩,?_,?_⟩ <;> kernel_rfl
theorem ty5 : zab 5 Tab.t5 := by refine ⟨⟨Tryz.t5,?_,?_,?_,fun z h => h⟩,?_,?_⟩ <;> kernel_rfl
theorem ty6 : zab 6 Tab.t6 := by refine ⟨⟨Tryz.t6,?_,?_,?_,fun z h => h⟩,?_,?_⟩ <;> kernel_rfl
theorem ty7 : zab 7 Tab.t7 := by refine ⟨⟨Tryz.t7,?_,?_,?_,fun z h => h⟩,?_,?_⟩ <;> kernel_rfl
theorem ty8 : zab 8 Tab.t8 := by refine ⟨⟨Tryz.t8,?_,?_,?_,fun z h => h⟩,?_,?_⟩ <;> kernel_rfl
theorem ty9 : zab 9 Tab.t9 := by refine ⟨⟨Tryz.t9,?_,?_,?_,fun z h => h⟩,?_,?_⟩ <;> kernel_rfl
theorem xhB : zab 10 Tab.t10 := by refine ⟨⟨Tryz.t10,?_,?_,?_,fun z h => h⟩,?_,?_⟩ <;> kernel_rfl
theorem xdJ : zab 11 Tab.t11 := by refine ⟨⟨Tryz.t11,?_,?_,?_,fun z h => h⟩,?_,?_⟩ <;> kernel_rfl
theorem xjB : zab 12 Tab.t12 := by refine ⟨⟨Tryz.t12,?_,?_,?_,fun z h => h⟩,?_,?_⟩ <;> kernel_rfl
theorem xhJ : zab 13 Tab.t13 := by refine ⟨⟨Tryz.t13,?_,?_,?_,fun z h => h⟩,?_,?_⟩ <;> kernel_rfl
theorem xeE : zab 14 Tab.t14 := by refine ⟨⟨Tryz.t14,?_,?_,?_,fun z h => h⟩,?_,?_⟩ <;> kernel_rfl
theorem xbi : zab 15 Tab.t15 := by refine ⟨⟨Tryz.t15,?_,?_,?_,fun z h => h⟩,?_,?_⟩ <;> kernel_rfl
theorem zYx : zab 16 Tab.t16 := by refine ⟨⟨Tryz.t16,?_,?_,?_,fun z h => h⟩,?_,?_⟩ <;> kernel_rfl
theorem xkH : zab 17 Tab.t17 := by refine ⟨⟨Tryz.t17,?_,?_,?_,fun z h => h⟩,?_,?_⟩ <;> kernel_rfl
theorem xgy : zab 18 Tab.t18 := by refine ⟨⟨Tryz.t18,?_,?_,?_,fun z h => h⟩,?_,?_⟩ <;> kernel_rfl
theorem xhR : zab 19 Tab.t19 := by refine ⟨⟨Tryz.t19,?_,?_,?_,fun z h => h⟩,?_,?_⟩ <;> kernel_rfl
theorem xhx : zab 20 Tab.t20 := by refine ⟨⟨Tryz.t20,?_,?_,?_,fun z h => h⟩,?_,?_⟩ <;> kernel_rfl
theorem xjW : zab 21 Tab.t21 := by refine ⟨⟨Tryz.t21,?_,?_,?_,fun z h => h⟩,?_,?_⟩ <;> kernel_rfl
theorem xhP : zab 22 Tab.t22 := by refine ⟨⟨Tryz.t22,?_,?_,?_,fun z h => h⟩,?_,?_⟩ <;> kernel_rfl
theorem xiQ : zab 23 Tab.t23 := by refine ⟨⟨Tryz.t23,?_,?_,?_,fun z h => h⟩,?_,?_⟩ <;> kernel_rfl
theorem xiq : zab 24 Tab.t24 := by refine ⟨⟨Tryz.t24,?_,?_,?_,fun z h => h⟩,?_,?_⟩ <;> kernel_rfl
theorem xkd : zab 25 Tab.t25 := by refine ⟨⟨Tryz.t25,?_,?_,?_,fun z h => h⟩,?_,?_⟩ <;> kernel_rfl
theorem xef : zab 26 Tab.t26 := by refine ⟨⟨Tryz.t26,?_,?_,?_,fun z h => by cases h⟩,?_,?_⟩ <;> kernel_rfl
theorem xev : zab 27 Tab.t27 := by refine ⟨⟨Tryz.t27,?_,?_,?_,fun z h => h⟩,?_,?_⟩ <;> kernel_rfl
theorem zYz : zab 28 Tab.t28 := by refine ⟨⟨Tryz.t28,?_,?_,?_,fun z h => h⟩,?_,?_⟩ <;> kernel_rfl
theorem xlL : zab 29 Tab.t29 := by refine ⟨⟨Tryz.t29,?_,?_,?_,fun z h => h⟩,?_,?_⟩ <;> kernel_rfl
theorem xdN : zab 30 Tab.t30 := by refine ⟨⟨Tryz.t30,?_,?_,?_,fun z h => h⟩,?_,?_⟩ <;> kernel_rfl
theorem xdd : zab 31 Tab.t31 := by refine ⟨⟨Tryz.t31,?_,?_,?_,fun z h => h⟩,?_,?_⟩ <;> kernel_rfl
theorem zZP : zab 32 Tab.t32 := by refine ⟨⟨Tryz.t32,?_,?_,?_,fun z h => h⟩,?_,?_⟩ <;> kernel_rfl
theorem xiE : zab 33 Tab.t33 := by refine ⟨⟨Tryz.t33,?_,?_,?_,fun z h => h⟩,?_,?_⟩ <;> kernel_rfl
theorem xgW : zab 34 Tab.t34 := by refine ⟨⟨Tryz.t34,?_,?_,?_,fun z h => h⟩,?_,?_⟩ <;> kernel_rfl
theorem xen : zab 35 Tab.t35 := by refine ⟨⟨Tryz.t35,?_,?_,?_,fun z h => h⟩,?_,?_⟩ <;> kernel_rfl
theorem zZs : zab 36 Tab.t36 := by refine ⟨⟨Tryz.t36,?_,?_,?_,fun z h => h⟩,?_,?_⟩ <;> kernel_rfl
theorem zYY : zab 37 Tab.t37 := by refine ⟨⟨Tryz.t37,?_,?_,?_,fun z h => h⟩,?_,?_⟩ <;> kernel_rfl
theorem xaR : zab 38 Tab.t38 := by refine ⟨⟨Tryz.t38,?_,?_,?_,fun z h => h⟩,?_,?_⟩ <;> kernel_rfl
theorem xkl : zab 39 Tab.t39 := by refine ⟨⟨Tryz.t39,?_,?_,?_,fun z h => h⟩,?_,?_⟩ <;> kernel_rfl
theorem xbs : zab 40 Tab.t40 := by refine ⟨⟨Tryz.t40,?_,?_,?_,fun z h => h⟩,?_,?_⟩ <;> kernel_rfl
theorem xba : zab 41 Tab.t41 := by refine ⟨⟨Tryz.t41,?_,?_,?_,fun z h => h⟩,?_,?_⟩ <;> kernel_rfl
theorem xfG : zab 42 Tab.t42 := by refine ⟨⟨Tryz.t42,?_,?_,?_,fun z h => h⟩,?_,?_⟩ <;> kernel_rfl
theorem xkj : zab 43 Tab.t43 := by refine ⟨⟨Tryz.t43,?_,?_,?_,fun z h => h⟩,?_,?_⟩ <;> kernel_rfl
theorem zZv : zab 44 Tab.t44 := by refine ⟨⟨Tryz.t44,?_,?_,?_,fun z h => h⟩,?_,?_⟩ <;> kernel_rfl
theorem xfC : zab 45 Tab.t45 := by refine ⟨⟨Tryz.t45,?_,?_,?_,fun z h => h⟩,?_,?_⟩ <;> kernel_rfl
theorem xds : zab 46 Tab.t46 := by refine ⟨⟨Tryz.t46,?_,?_,?_,fun z h => h⟩,?_,?_⟩ <;> kernel_rfl
theorem xkC : zab 47 Tab.t47 := by refine ⟨⟨Tryz.t47,?_,?_,?_,fun z h => h⟩,?_,?_⟩ <;> kernel_rfl
theorem xfN : zab 48 Tab.t48 := by refine ⟨⟨Tryz.t48,?_,?_,?_,fun z h => by cases h⟩,?_,?_⟩ <;> kernel_rfl
theorem xkP : zab 49 Tab.t49 := by refine ⟨⟨Tryz.t49,?_,?_,?_,fun z h => h⟩,?_,?_⟩ <;> kernel_rfl
theorem xaO : zab 50 Tab.t50 := by refine ⟨⟨Tryz.t50,?_,?_,?_,fun z h => h⟩,?_,?_⟩ <;> kernel_rfl
theorem xgq : zab 51 Tab.t51 := by refine ⟨⟨Tryz.t51,?_,?_,?_,fun z h => h⟩,?_,?_⟩ <;> kernel_rfl
theorem xfo : zab 52 Tab.t52 := by refine ⟨⟨Tryz.t52,?_,?_,?_,fun z h => by cases h⟩,?_,?_⟩ <;> kernel_rfl
theorem xjx : zab 53 Tab.t53 := by refine ⟨⟨Tryz.t53,?_,?_,?_,fun z h => h⟩,?_,?_⟩ <;> kernel_rfl
theorem xaz : zab 54 Tab.t54 := by refine ⟨⟨Tryz.t54,?_,?_,?_,fun z h => h⟩,?_,?_⟩ <;> kernel_rfl
theorem xeO : zab 55 Tab.t55 := by refine ⟨⟨Tryz.t55,?_,?_,?_,fun z h => h⟩,?_,?_⟩ <;> kernel_rfl
theorem xka : zab 56 Tab.t56 := by refine ⟨⟨Tryz.t56,?_,?_,?_,fun z h => by cases h⟩,?_,?_⟩ <;> kernel_rfl
theorem xdD : zab 57 Tab.t57 := by refine ⟨⟨Tryz.t57,?_,?_,?_,fun z h => h⟩,?_,?_⟩ <;> kernel_rfl
theorem xlo : zab 58 Tab.t58 := by refine ⟨⟨Tryz.t58,?_,?_,?_,fun z h => by cases h⟩,?_,?_⟩ <;> kernel_rfl
theorem zXq : zab 59 Tab.t59 := by refine ⟨⟨Tryz.t59,?_,?_,?_,fun z h => h⟩,?_,?_⟩ <;> kernel_rfl
theorem xho : zab 60 Tab.t60 := by refine ⟨⟨Tryz.t60,?_,?_,?_,fun z h => h⟩,?_,?_⟩ <;> kernel_rfl
theorem zZA : zab 61 Tab.t61 := by refine ⟨⟨Tryz.t61,?_,?_,?_,fun z h => by cases h⟩,?_,?_⟩ <;> kernel_rfl
theorem zZt : AllFrom zab 0 [Tab.t0,Tab.t1,Tab.t2,Tab.t3,Tab.t4,Tab.t5,Tab.t6,Tab.t7,Tab.t8,Tab.t9,Tab.t10,Tab.t11,Tab.t12,Tab.t13,Tab.t14,Tab.t15,Tab.t16,Tab.t17,Tab.t18,Tab.t19,Tab.t20,Tab.t21,Tab.t22,Tab.t23,Tab.t24,Tab.t25,Tab.t26,Tab.t27,Tab.t28,Tab.t29,Tab.t30,Tab.t31,Tab.t32,Tab.t33,Tab.t34,Tab.t35,Tab.t36,Tab.t37,Tab.t38,Tab.t39,Tab.t40,Tab.t41,Tab.t42,Tab.t43,Tab.t44,Tab.t45,Tab.t46,Tab.t47,Tab.t48,Tab.t49,Tab.t50,Tab.t51,Tab.t52,Tab.t53,Tab.t54,Tab.t55,Tab.t56,Tab.t57,Tab.t58,Tab.t59,Tab.t60,Tab.t61] := .cons ty0 (.cons ty1 (.cons ty2 (.cons ty3 (.cons ty4 (.cons ty5 (.cons ty6 (.cons ty7 (.cons ty8 (.cons ty9 (.cons xhB (.cons xdJ (.cons xjB (.cons xhJ (.cons xeE (.cons xbi (.cons zYx (.cons xkH (.cons xgy (.cons xhR (.cons xhx (.cons xjW (.cons xhP (.cons xiQ (.cons xiq (.cons xkd (.cons xef (.cons xev (.cons zYz (.cons xlL (.cons xdN (.cons xdd (.cons zZP (.cons xiE (.cons xgW (.cons xen (.cons zZs (.cons zYY (.cons xaR (.cons xkl (.cons xbs (.cons xba (.cons xfG (.cons xkj (.cons zZv (.cons xfC (.cons xds (.cons xkC (.cons xfN (.cons xkP (.cons xaO (.cons xgq (.cons xfo (.cons xjx (.cons xaz (.cons xeO (.cons xka (.cons xdD (.cons xlo (.cons zXq (.cons xho (.cons zZA (.nil 62))))))))))))))))))))))))))))))))))))))))))))))))))))))))))))))
end Go.Proofs.YtgdkljcnebaiiaaGreat

namespace Go.Proofs.YtgdkljcnebaiiaaGreat
open Go Go.Sim
set_option maxRecDepth 100000
theorem zWQ : zab 62 Tab.t62 := by refine ⟨⟨Tryz.t62,?_,?_,?_,fun z h => h⟩,?_,?_⟩ <;> kernel_rfl
theorem xif : zab 63 Tab.t63 := by refine ⟨⟨Tryz.t63,?_,?_,?_,fun z h => by cases h⟩,?_,?_⟩ <;> kernel_rfl
theorem xfq : zab 64 Tab.t64 := by refine ⟨⟨Tryz.t64,?_,?_,?_,fun z h => h⟩,?_,?_⟩ <;> kernel_rfl
theorem xks : zab 65 Tab.t65 := by refine ⟨⟨Tryz.t65,?_,?_,?_,fun z h => h⟩,?_,?_⟩ <;> kernel_rfl
theorem xhh : zab 66 Tab.t66 := by refine ⟨⟨Tryz.t66,?_,?_,?_,fun z h => h⟩,?_,?_⟩ <;> kernel_rfl
theorem xku : zab 67 Tab.t67 := by refine ⟨⟨Tryz.t67,?_,?_,?_,fun z h => by cases h⟩,?_,?_⟩ <;> kernel_rfl
theorem xcS : zab 68 Tab.t68 := by refine ⟨⟨Tryz.t68,?_,?_,?_,fun z h => h⟩,?_,?_⟩ <;> kernel_rfl
theorem xfd : zab 69 Tab.t69 := by refine ⟨⟨Tryz.t69,?_,?_,?_,fun z h => h⟩,?_,?_⟩ <;> kernel_rfl
theorem zZe : zab 70 Tab.t70 := by refine ⟨⟨Tryz.t70,?_,?_,?_,fun z h => h⟩,?_,?_⟩ <;> kernel_rfl
theorem xeC : zab 71 Tab.t71 := by refine ⟨⟨Tryz.t71,?_,?_,?_,fun z h => h⟩,?_,?_⟩ <;> kernel_rfl
theorem zXY : zab 72 Tab.t72 := by refine ⟨⟨Tryz.t72,?_,?_,?_,fun z h => h⟩,?_,?_⟩ <;> kernel_rfl
theorem xec : zab 73 Tab.t73 := by refine ⟨⟨Tryz.t73,?_,?_,?_,fun z h => h⟩,?_,?_⟩ <;> kernel_rfl
theorem xdx : zab 74 Tab.t74 := by refine ⟨⟨Tryz.t74,?_,?_,?_,fun z h => h⟩,?_,?_⟩ <;> kernel_rfl
theorem xcO : zab 75 Tab.t75 := by refine ⟨⟨Tryz.t75,?_,?_,?_,fun z h => h⟩,?_,?_⟩ <;> kernel_rfl
theorem xbh : zab 76 Tab.t76 := by refine ⟨⟨Tryz.t76,?_,?_,?_,fun z h => h⟩,?_,?_⟩ <;> kernel_rfl
theorem xaa : zab 77 Tab.t77 := by refine ⟨⟨Tryz.t77,?_,?_,?_,fun z h => h⟩,?_,?_⟩ <;> kernel_rfl
theorem zYm : zab 78 Tab.t78 := by refine ⟨⟨Tryz.t78,?_,?_,?_,fun z h => h⟩,?_,?_⟩ <;> kernel_rfl
theorem xcn : zab 79 Tab.t79 := by refine ⟨⟨Tryz.t79,?_,?_,?_,fun z h => h⟩,?_,?_⟩ <;> kernel_rfl
theorem xiA : zab 80 Tab.t80 := by refine ⟨⟨Tryz.t80,?_,?_,?_,fun z h => h⟩,?_,?_⟩ <;> kernel_rfl
theorem xmA : zab 81 Tab.t81 := by refine ⟨⟨Tryz.t81,?_,?_,?_,fun z h => h⟩,?_,?_⟩ <;> kernel_rfl
theorem xgX : zab 82 Tab.t82 := by refine ⟨⟨Tryz.t82,?_,?_,?_,fun z h => h⟩,?_,?_⟩ <;> kernel_rfl
theorem xkb : zab 83 Tab.t83 := by refine ⟨⟨Tryz.t83,?_,?_,?_,fun z h => h⟩,?_,?_⟩ <;> kernel_rfl
theorem xiR : zab 84 Tab.t84 := by refine ⟨⟨Tryz.t84,?_,?_,?_,fun z h => by cases h⟩,?_,?_⟩ <;> kernel_rfl
theorem xmG : zab 85 Tab.t85 := by refine ⟨⟨Tryz.t85,?_,?_,?_,fun z h => h⟩,?_,?_⟩ <;> kernel_rfl
theorem xlV : zab 86 Tab.t86 := by refine ⟨⟨Tryz.t86,?_,?_,?_,fun z h => h⟩,?_,?_⟩ <;> kernel_rfl
theorem xct : zab 87 Tab.t87 := by refine ⟨⟨Tryz.t87,?_,?_,?_,fun z h => by cases h⟩,?_,?_⟩ <;> kernel_rfl
theorem xiu : zab 88 Tab.t88 := by refine ⟨⟨Tryz.t88,?_,?_,?_,fun z h => h⟩,?_,?_⟩ <;> kernel_rfl
theorem xjK : zab 89 Tab.t89 := by refine ⟨⟨Tryz.t89,?_,?_,?_,fun z h => h⟩,?_,?_⟩ <;> kernel_rfl
theorem xcR : zab 90 Tab.t90 := by refine ⟨⟨Tryz.t90,?_,?_,?_,fun z h => h⟩,?_,?_⟩ <;> kernel_rfl
theorem zXI : zab 91 Tab.t91 := by refine ⟨⟨Tryz.t91,?_,?_,?_,fun z h => h⟩,?_,?_⟩ <;> kernel_rfl
theorem zZZ : zab 92 Tab.t92 := by refine ⟨⟨Tryz.t92,?_,?_,?_,fun z h => h⟩,?_,?_⟩ <;> kernel_rfl
theorem xdK : zab 93 Tab.t93 := by refine ⟨⟨Tryz.t93,?_,?_,?_,fun z h => h⟩,?_,?_⟩ <;> kernel_rfl
theorem xaf : zab 94 Tab.t94 := by refine ⟨⟨Tryz.t94,?_,?_,?_,fun z h => h⟩,?_,?_⟩ <;> kernel_rfl
theorem xih : zab 95 Tab.t95 := by refine ⟨⟨Tryz.t95,?_,?_,?_,fun z h => h⟩,?_,?_⟩ <;> kernel_rfl
theorem xiT : zab 96 Tab.t96 := by refine ⟨⟨Tryz.t96,?_,?_,?_,fun z h => by cases h⟩,?_,?_⟩ <;> kernel_rfl
theorem zXU : zab 97 Tab.t97 := by refine ⟨⟨Tryz.t97,?_,?_,?_,fun z h => h⟩,?_,?_⟩ <;> kernel_rfl
theorem xet : zab 98 Tab.t98 := by refine ⟨⟨Tryz.t98,?_,?_,?_,fun z h => by cases h⟩,?_,?_⟩ <;> kernel_rfl
theorem xiB : zab 99 Tab.t99 := by refine ⟨⟨Tryz.t99,?_,?_,?_,fun z h => h⟩,?_,?_⟩ <;> kernel_rfl
theorem zTE : zab 100 Tab.t100 := by refine ⟨⟨Tryz.t100,?_,?_,?_,fun z h => h⟩,?_,?_⟩ <;> kernel_rfl
theorem zRg : zab 101 Tab.t101 := by refine ⟨⟨Tryz.t101,?_,?_,?_,fun z h => h⟩,?_,?_⟩ <;> kernel_rfl
theorem zOJ : zab 102 Tab.t102 := by refine ⟨⟨Tryz.t102,?_,?_,?_,fun z h => h⟩,?_,?_⟩ <;> kernel_rfl
theorem zRe : zab 103 Tab.t103 := by refine ⟨⟨Tryz.t103,?_,?_,?_,fun z h => h⟩,?_,?_⟩ <;> kernel_rfl
theorem zQZ : zab 104 Tab.t104 := by refine ⟨⟨Tryz.t104,?_,?_,?_,fun z h => h⟩,?_,?_⟩ <;> kernel_rfl
theorem zQb : zab 105 Tab.t105 := by refine ⟨⟨Tryz.t105,?_,?_,?_,fun z h => h⟩,?_,?_⟩ <;> kernel_rfl
theorem zUH : zab 106 Tab.t106 := by refine ⟨⟨Tryz.t106,?_,?_,?_,fun z h => h⟩,?_,?_⟩ <;> kernel_rfl
theorem zUt : zab 107 Tab.t107 := by refine ⟨⟨Tryz.t107,?_,?_,?_,fun z h => h⟩,?_,?_⟩ <;> kernel_rfl
theorem zOs : zab 108 Tab.t108 := by refine ⟨⟨Tryz.t108,?_,?_,?_,fun z h => h⟩,?_,?_⟩ <;> kernel_rfl
theorem zVg : zab 109 Tab.t109 := by refine ⟨⟨Tryz.t109,?_,?_,?_,fun z h => h⟩,?_,?_⟩ <;> kernel_rfl
theorem zRa : zab 110 Tab.t110 := by refine ⟨⟨Tryz.t110,?_,?_,?_,fun z h => h⟩,?_,?_⟩ <;> kernel_rfl
theorem zRM : zab 111 Tab.t111 := by refine ⟨⟨Tryz.t111,?_,?_,?_,fun z h => h⟩,?_,?_⟩ <;> kernel_rfl
theorem zRI : zab 112 Tab.t112 := by refine ⟨⟨Tryz.t112,?_,?_,?_,fun z h => h⟩,?_,?_⟩ <;> kernel_rfl
theorem zMs : zab 113 Tab.t113 := by refine ⟨⟨Tryz.t113,?_,?_,?_,fun z h => h⟩,?_,?_⟩ <;> kernel_rfl
theorem zRH : zab 114 Tab.t114 := by refine ⟨⟨Tryz.t114,?_,?_,?_,fun z h => h⟩,?_,?_⟩ <;> kernel_rfl
theorem zRl : zab 115 Tab.t115 := by refine ⟨⟨Tryz.t115,?_,?_,?_,fun z h => h⟩,?_,?_⟩ <;> kernel_rfl
theorem zRW : zab 116 Tab.t116 := by refine ⟨⟨Tryz.t116,?_,?_,?_,fun z h => h⟩,?_,?_⟩ <;> kernel_rfl
theorem zRh : zab 117 Tab.t117 := by refine ⟨⟨Tryz.t117,?_,?_,?_,fun z h => by cases h⟩,?_,?_⟩ <;> kernel_rfl
theorem zNh : zab 118 Tab.t118 := by refine ⟨⟨Tryz.t118,?_,?_,?_,fun z h => h⟩,?_,?_⟩ <;> kernel_rfl
theorem zUp : zab 119 Tab.t119 := by refine ⟨⟨Tryz.t119,?_,?_,?_,fun z h => h⟩,?_,?_⟩ <;> kernel_rfl
theorem zRJ : zab 120 Tab.t120 := by refine ⟨⟨Tryz.t120,?_,?_,?_,fun z h => h⟩,?_,?_⟩ <;> kernel_rfl
theorem zTF : zab 121 Tab.t121 := by refine ⟨⟨Tryz.t121,?_,?_,?_,fun z h => h⟩,?_,?_⟩ <;> kernel_rfl
theorem zPm : zab 122 Tab.t122 := by refine ⟨⟨Tryz.t122,?_,?_,?_,fun z h => h⟩,?_,?_⟩ <;> kernel_rfl
theorem zQd : zab 123 Tab.t123 := by refine ⟨⟨Tryz.t123,?_,?_,?_,fun z h => by cases h⟩,?_,?_⟩ <;> kernel_rfl
theorem zZm : AllFrom zab 62 [Tab.t62,Tab.t63,Tab.t64,Tab.t65,Tab.t66,Tab.t67,Tab.t68,Tab.t69,Tab.t70,Tab.t71,Tab.t72,Tab.t73,Tab.t74,Tab.t75,Tab.t76,Tab.t77,Tab.t78,Tab.t79,Tab.t80,Tab.t81,Tab.t82,Tab.t83,Tab.t84,Tab.t85,Tab.t86,Tab.t87,Tab.t88,Tab.t89,Tab.t90,Tab.t91,Tab.t92,Tab.t93,Tab.t94,Tab.t95,Tab.t96,Tab.t97,Tab.t98,Tab.t99,Tab.t100,Tab.t101,Tab.t102,Tab.t103,Tab.t104,Tab.t105,Tab.t106,Tab.t107,Tab.t108,Tab.t109,Tab.t110,Tab.t111,Tab.t112,Tab.t113,Tab.t114,Tab.t115,Tab.t116,Tab.t117,Tab.t118,Tab.t119,Tab.t120,Tab.t121,Tab.t122,Tab.t123] := .cons zWQ (.cons xif (.cons xfq (.cons xks (.cons xhh (.cons xku (.cons xcS (.cons xfd (.cons zZe (.cons xeC (.cons zXY (.cons xec (.cons xdx (.cons xcO (.cons xbh (.cons xaa (.cons zYm (.cons xcn (.cons xiA (.cons xmA (.cons xgX (.cons xkb (.cons xiR (.cons xmG (.cons xlV (.cons xct (.cons xiu (.cons xjK (.cons xcR (.cons zXI (.cons zZZ (.cons xdK (.cons xaf (.cons xih (.cons xiT (.cons zXU (.cons xet (.cons xiB (.cons zTE (.cons zRg (.cons zOJ (.cons zRe (.cons zQZ (.cons zQb (.cons zUH (.cons zUt (.cons zOs (.cons zVg (.cons zRa (.cons zRM (.cons zRI (.cons zMs (.cons zRH (.cons zRl (.cons zRW (.cons zRh (.cons zNh (.cons zUp (.cons zRJ (.cons zTF (.cons zPm (.cons zQd (.nil 124))))))))))))))))))))))))))))))))))))))))))))))))))))))))))))))
end Go.Proofs.YtgdkljcnebaiiaaGreat

namespace Go.Proofs.YtgdkljcnebaiiaaGreat
open Go Go.Sim
set_option maxRecDepth 100000
theorem zPG : zab 124 Tab.t124 := by refine ⟨⟨Tryz.t124,?_,?_,?_,fun z h => h⟩,?_,?_⟩ <;> kernel_rfl
theorem zWg : zab 125 Tab.t125 := by refine ⟨⟨Tryz.t125,?_,?_,?_,fun z h => h⟩,?_,?_⟩ <;> kernel_rfl
theorem zTZ : zab 126 Tab.t126 := by refine ⟨⟨Tryz.t126,?_,?_,?_,fun z h => h⟩,?_,?_⟩ <;> kernel_rfl
theorem zSA : zab 127 Tab.t127 := by refine ⟨⟨Tryz.t127,?_,?_,?_,fun z h => h⟩,?_,?_⟩ <;> kernel_rfl
theorem zPZ : zab 128 Tab.t128 := by refine ⟨⟨Tryz.t128,?_,?_,?_,fun z h => h⟩,?_,?_⟩ <;> kernel_rfl
theorem zPt : zab 129 Tab.t129 := by refine ⟨⟨Tryz.t129,?_,?_,?_,fun z h => h⟩,?_,?_⟩ <;> kernel_rfl
theorem zVw : zab 130 Tab.t130 := by refine ⟨⟨Tryz.t130,?_,?_,?_,fun z h => h⟩,?_,?_⟩ <;> kernel_rfl
theorem zUX : zab 131 Tab.t131 := by refine ⟨⟨Tryz.t131,?_,?_,?_,fun z h => h⟩,?_,?_⟩ <;> kernel_rfl
theorem zTD : zab 132 Tab.t132 := by refine ⟨⟨Tryz.t132,?_,?_,?_,fun z h => h⟩,?_,?_⟩ <;> kernel_rfl
theorem zQQ : zab 133 Tab.t133 := by refine ⟨⟨Tryz.t133,?_,?_,?_,fun z h => h⟩,?_,?_⟩ <;> kernel_rfl
theorem zMB : zab 134 Tab.t134 := by refine ⟨⟨Tryz.t134,?_,?_,?_,fun z h => h⟩,?_,?_⟩ <;> kernel_rfl
theorem zSh : zab 135 Tab.t135 := by refine ⟨⟨Tryz.t135,?_,?_,?_,fun z h => by cases h⟩,?_,?_⟩ <;> kernel_rfl
theorem zRv : zab 136 Tab.t136 := by refine ⟨⟨Tryz.t136,?_,?_,?_,fun z h => h⟩,?_,?_⟩ <;> kernel_rfl
theorem zMR : zab 137 Tab.t137 := by refine ⟨⟨Tryz.t137,?_,?_,?_,fun z h => by cases h⟩,?_,?_⟩ <;> kernel_rfl
theorem zRz : zab 138 Tab.t138 := by refine ⟨⟨Tryz.t138,?_,?_,?_,fun z h => h⟩,?_,?_⟩ <;> kernel_rfl
theorem zTg : zab 139 Tab.t139 := by refine ⟨⟨Tryz.t139,?_,?_,?_,fun z h => h⟩,?_,?_⟩ <;> kernel_rfl
theorem zOM : zab 140 Tab.t140 := by refine ⟨⟨Tryz.t140,?_,?_,?_,fun z h => h⟩,?_,?_⟩ <;> kernel_rfl
theorem zND : zab 141 Tab.t141 := by refine ⟨⟨Tryz.t141,?_,?_,?_,fun z h => h⟩,?_,?_⟩ <;> kernel_rfl
theorem zWi : zab 142 Tab.t142 := by refine ⟨⟨Tryz.t142,?_,?_,?_,fun z h => h⟩,?_,?_⟩ <;> kernel_rfl
theorem zNs : zab 143 Tab.t143 := by refine ⟨⟨Tryz.t143,?_,?_,?_,fun z h => h⟩,?_,?_⟩ <;> kernel_rfl
theorem zSC : zab 144 Tab.t144 := by refine ⟨⟨Tryz.t144,?_,?_,?_,fun z h => h⟩,?_,?_⟩ <;> kernel_rfl
theorem zWf : zab 145 Tab.t145 := by refine ⟨⟨Tryz.t145,?_,?_,?_,fun z h => h⟩,?_,?_⟩ <;> kernel_rfl
theorem zWx : zab 146 Tab.t146 := by refine ⟨⟨Tryz.t146,?_,?_,?_,fun z h => h⟩,?_,?_⟩ <;> kernel_rfl
theorem zNt : zab 147 Tab.t147 := by refine ⟨⟨Tryz.t147,?_,?_,?_,fun z h => h⟩,?_,?_⟩ <;> kernel_rfl
theorem zRp : zab 148 Tab.t148 := by refine ⟨⟨Tryz.t148,?_,?_,?_,fun z h => h⟩,?_,?_⟩ <;> kernel_rfl
theorem zPU : zab 149 Tab.t149 := by refine ⟨⟨Tryz.t149,?_,?_,?_,fun z h => h⟩,?_,?_⟩ <;> kernel_rfl
theorem zSB : zab 150 Tab.t150 := by refine ⟨⟨Tryz.t150,?_,?_,?_,fun z h => h⟩,?_,?_⟩ <;> kernel_rfl
theorem zWn : zab 151 Tab.t151 := by refine ⟨⟨Tryz.t151,?_,?_,?_,fun z h => h⟩,?_,?_⟩ <;> kernel_rfl
theorem zPx : zab 152 Tab.t152 := by refine ⟨⟨Tryz.t152,?_,?_,?_,fun z h => h⟩,?_,?_⟩ <;> kernel_rfl
theorem zTk : zab 153 Tab.t153 := by refine ⟨⟨Tryz.t153,?_,?_,?_,fun z h => h⟩,?_,?_⟩ <;> kernel_rfl
theorem zRr : zab 154 Tab.t154 := by refine ⟨⟨Tryz.t154,?_,?_,?_,fun z h => h⟩,?_,?_⟩ <;> kernel_rfl
theorem zPO : zab 155 Tab.t155 := by refine ⟨⟨Tryz.t155,?_,?_,?_,fun z h => h⟩,?_,?_⟩ <;> kernel_rfl
theorem zMD : zab 156 Tab.t156 := by refine ⟨⟨Tryz.t156,?_,?_,?_,fun z h => h⟩,?_,?_⟩ <;> kernel_rfl
theorem zPB : zab 157 Tab.t157 := by refine ⟨⟨Tryz.t157,?_,?_,?_,fun z h => h⟩,?_,?_⟩ <;> kernel_rfl
theorem zRS : zab 158 Tab.t158 := by refine ⟨⟨Tryz.t158,?_,?_,?_,fun z h => h⟩,?_,?_⟩ <;> kernel_rfl
theorem zWc : zab 159 Tab.t159 := by refine ⟨⟨Tryz.t159,?_,?_,?_,fun z h => h⟩,?_,?_⟩ <;> kernel_rfl
theorem zWo : zab 160 Tab.t160 := by refine ⟨⟨Tryz.t160,?_,?_,?_,fun z h => by cases h⟩,?_,?_⟩ <;> kernel_rfl
theorem zSP : zab 161 Tab.t161 := by refine ⟨⟨Tryz.t161,?_,?_,?_,fun z h => h⟩,?_,?_⟩ <;> kernel_rfl
theorem zPg : zab 162 Tab.t162 := by refine ⟨⟨Tryz.t162,?_,?_,?_,fun z h => h⟩,?_,?_⟩ <;> kernel_rfl
theorem zNd : zab 163 Tab.t163 := by refine ⟨⟨Tryz.t163,?_,?_,?_,fun z h => h⟩,?_,?_⟩ <;> kernel_rfl
theorem zNU : zab 164 Tab.t164 := by refine ⟨⟨Tryz.t164,?_,?_,?_,fun z h => h⟩,?_,?_⟩ <;> kernel_rfl
theorem zRu : zab 165 Tab.t165 := by refine ⟨⟨Tryz.t165,?_,?_,?_,fun z h => h⟩,?_,?_⟩ <;> kernel_rfl
theorem zUA : zab 166 Tab.t166 := by refine ⟨⟨Tryz.t166,?_,?_,?_,fun z h => h⟩,?_,?_⟩ <;> kernel_rfl
theorem zOW : zab 167 Tab.t167 := by refine ⟨⟨Tryz.t167,?_,?_,?_,fun z h => h⟩,?_,?_⟩ <;> kernel_rfl
theorem zTH : zab 168 Tab.t168 := by refine ⟨⟨Tryz.t168,?_,?_,?_,fun z h => h⟩,?_,?_⟩ <;> kernel_rfl
theorem zRP : zab 169 Tab.t169 := by refine ⟨⟨Tryz.t169,?_,?_,?_,fun z h => h⟩,?_,?_⟩ <;> kernel_rfl
theorem zUI : zab 170 Tab.t170 := by refine ⟨⟨Tryz.t170,?_,?_,?_,fun z h => h⟩,?_,?_⟩ <;> kernel_rfl
theorem zRQ : zab 171 Tab.t171 := by refine ⟨⟨Tryz.t171,?_,?_,?_,fun z h => by cases h⟩,?_,?_⟩ <;> kernel_rfl
theorem zRK : zab 172 Tab.t172 := by refine ⟨⟨Tryz.t172,?_,?_,?_,fun z h => h⟩,?_,?_⟩ <;> kernel_rfl
theorem zWq : zab 173 Tab.t173 := by refine ⟨⟨Tryz.t173,?_,?_,?_,fun z h => h⟩,?_,?_⟩ <;> kernel_rfl
theorem zWI : zab 174 Tab.t174 := by refine ⟨⟨Tryz.t174,?_,?_,?_,fun z h => h⟩,?_,?_⟩ <;> kernel_rfl
theorem zVB : zab 175 Tab.t175 := by refine ⟨⟨Tryz.t175,?_,?_,?_,fun z h => h⟩,?_,?_⟩ <;> kernel_rfl
theorem zWt : zab 176 Tab.t176 := by refine ⟨⟨Tryz.t176,?_,?_,?_,fun z h => h⟩,?_,?_⟩ <;> kernel_rfl
theorem zTI : zab 177 Tab.t177 := by refine ⟨⟨Tryz.t177,?_,?_,?_,fun z h => by cases h⟩,?_,?_⟩ <;> kernel_rfl
theorem zVy : zab 178 Tab.t178 := by refine ⟨⟨Tryz.t178,?_,?_,?_,fun z h => h⟩,?_,?_⟩ <;> kernel_rfl
theorem zNW : zab 179 Tab.t179 := by refine ⟨⟨Tryz.t179,?_,?_,?_,fun z h => h⟩,?_,?_⟩ <;> kernel_rfl
theorem zOd : zab 180 Tab.t180 := by refine ⟨⟨Tryz.t180,?_,?_,?_,fun z h => h⟩,?_,?_⟩ <;> kernel_rfl
theorem zWe : zab 181 Tab.t181 := by refine ⟨⟨Tryz.t181,?_,?_,?_,fun z h => h⟩,?_,?_⟩ <;> kernel_rfl
theorem zSl : zab 182 Tab.t182 := by refine ⟨⟨Tryz.t182,?_,?_,?_,fun z h => h⟩,?_,?_⟩ <;> kernel_rfl
theorem zSt : zab 183 Tab.t183 := by refine ⟨⟨Tryz.t183,?_,?_,?_,fun z h => h⟩,?_,?_⟩ <;> kernel_rfl
theorem zNZ : zab 184 Tab.t184 := by refine ⟨⟨Tryz.t184,?_,?_,?_,fun z h => h⟩,?_,?_⟩ <;> kernel_rfl
theorem zQs : zab 185 Tab.t185 := by refine ⟨⟨Tryz.t185,?_,?_,?_,fun z h => h⟩,?_,?_⟩ <;> kernel_rfl
theorem xfQ : AllFrom zab 124 [Tab.t124,Tab.t125,Tab.t126,Tab.t127,Tab.t128,Tab.t129,Tab.t130,Tab.t131,Tab.t132,Tab.t133,Tab.t134,Tab.t135,Tab.t136,Tab.t137,Tab.t138,Tab.t139,Tab.t140,Tab.t141,Tab.t142,Tab.t143,Tab.t144,Tab.t145,Tab.t146,Tab.t147,Tab.t148,Tab.t149,Tab.t150,Tab.t151,Tab.t152,Tab.t153,Tab.t154,Tab.t155,Tab.t156,Tab.t157,Tab.t158,Tab.t159,Tab.t160,Tab.t161,Tab.t162,Tab.t163,Tab.t164,Tab.t165,Tab.t166,Tab.t167,Tab.t168,Tab.t169,Tab.t170,Tab.t171,Tab.t172,Tab.t173,Tab.t174,Tab.t175,Tab.t176,Tab.t177,Tab.t178,Tab.t179,Tab.t180,Tab.t181,Tab.t182,Tab.t183,Tab.t184,Tab.t185] := .cons zPG (.cons zWg (.cons zTZ (.cons zSA (.cons zPZ (.cons zPt (.cons zVw (.cons zUX (.cons zTD (.cons zQQ (.cons zMB (.cons zSh (.cons zRv (.cons zMR (.cons zRz (.cons zTg (.cons zOM (.cons zND (.cons zWi (.cons zNs (.cons zSC (.cons zWf (.cons zWx (.cons zNt (.cons zRp (.cons zPU (.cons zSB (.cons zWn (.cons zPx (.cons zTk (.cons zRr (.cons zPO (.cons zMD (.cons zPB (.cons zRS (.cons zWc (.cons zWo (.cons zSP (.cons zPg (.cons zNd (.cons zNU (.cons zRu (.cons zUA (.cons zOW (.cons zTH (.cons zRP (.cons zUI (.cons zRQ (.cons zRK (.cons zWq (.cons zWI (.cons zVB (.cons zWt (.cons zTI (.cons zVy (.cons zNW (.cons zOd (.cons zWe (.cons zSl (.cons zSt (.cons zNZ (.cons zQs (.nil 186))))))))))))))))))))))))))))))))))))))))))))))))))))))))))))))
end Go.Proofs.YtgdkljcnebaiiaaGreat

namespace Go.Proofs.YtgdkljcnebaiiaaGreat
open Go Go.Sim
set_option maxRecDepth 100000
theorem zOF : zab 186 Tab.t186 := by refine ⟨⟨Tryz.t186,?_,?_,?_,fun z h => h⟩,?_,?_⟩ <;> kernel_rfl
theorem zTx : zab 187 Tab.t187 := by refine ⟨⟨Tryz.t187,?_,?_,?_,fun z h => h⟩,?_,?_⟩ <;> kernel_rfl
theorem zRc : zab 188 Tab.t188 := by refine ⟨⟨Tryz.t188,?_,?_,?_,fun z h => h⟩,?_,?_⟩ <;> kernel_rfl
theorem zSb : zab 189 Tab.t189 := by refine ⟨⟨Tryz.t189,?_,?_,?_,fun z h => h⟩,?_,?_⟩ <;> kernel_rfl
theorem zNp : zab 190 Tab.t190 := by refine ⟨⟨Tryz.t190,?_,?_,?_,fun z h => h⟩,?_,?_⟩ <;> kernel_rfl
theorem zQP : zab 191 Tab.t191 := by refine ⟨⟨Tryz.t191,?_,?_,?_,fun z h => h⟩,?_,?_⟩ <;> kernel_rfl
theorem zUL : zab 192 Tab.t192 := by refine ⟨⟨Tryz.t192,?_,?_,?_,fun z h => h⟩,?_,?_⟩ <;> kernel_rfl
theorem zWB : zab 193 Tab.t193 := by refine ⟨⟨Tryz.t193,?_,?_,?_,fun z h => h⟩,?_,?_⟩ <;> kernel_rfl
theorem zOp : zab 194 Tab.t194 := by refine ⟨⟨Tryz.t194,?_,?_,?_,fun z h => h⟩,?_,?_⟩ <;> kernel_rfl
theorem zOZ : zab 195 Tab.t195 := by refine ⟨⟨Tryz.t195,?_,?_,?_,fun z h => h⟩,?_,?_⟩ <;> kernel_rfl
theorem zWd : zab 196 Tab.t196 := by refine ⟨⟨Tryz.t196,?_,?_,?_,fun z h => h⟩,?_,?_⟩ <;> kernel_rfl
theorem zWh : zab 197 Tab.t197 := by refine ⟨⟨Tryz.t197,?_,?_,?_,fun z h => h⟩,?_,?_⟩ <;> kernel_rfl
theorem zSX : zab 198 Tab.t198 := by refine ⟨⟨Tryz.t198,?_,?_,?_,fun z h => h⟩,?_,?_⟩ <;> kernel_rfl
theorem zQq : zab 199 Tab.t199 := by refine ⟨⟨Tryz.t199,?_,?_,?_,fun z h => h⟩,?_,?_⟩ <;> kernel_rfl
theorem zQD : zab 200 Tab.t200 := by refine ⟨⟨Tryz.t200,?_,?_,?_,fun z h => h⟩,?_,?_⟩ <;> kernel_rfl
theorem zOg : zab 201 Tab.t201 := by refine ⟨⟨Tryz.t201,?_,?_,?_,fun z h => h⟩,?_,?_⟩ <;> kernel_rfl
theorem zQt : zab 202 Tab.t202 := by refine ⟨⟨Tryz.t202,?_,?_,?_,fun z h => h⟩,?_,?_⟩ <;> kernel_rfl
theorem zSu : zab 203 Tab.t203 := by refine ⟨⟨Tryz.t203,?_,?_,?_,fun z h => by cases h⟩,?_,?_⟩ <;> kernel_rfl
theorem zQV : zab 204 Tab.t204 := by refine ⟨⟨Tryz.t204,?_,?_,?_,fun z h => h⟩,?_,?_⟩ <;> kernel_rfl
theorem zSg : zab 205 Tab.t205 := by refine ⟨⟨Tryz.t205,?_,?_,?_,fun z h => h⟩,?_,?_⟩ <;> kernel_rfl
theorem zUd : zab 206 Tab.t206 := by refine ⟨⟨Tryz.t206,?_,?_,?_,fun z h => h⟩,?_,?_⟩ <;> kernel_rfl
theorem zQk : zab 207 Tab.t207 := by refine ⟨⟨Tryz.t207,?_,?_,?_,fun z h => by cases h⟩,?_,?_⟩ <;> kernel_rfl
theorem zPd : zab 208 Tab.t208 := by refine ⟨⟨Tryz.t208,?_,?_,?_,fun z h => h⟩,?_,?_⟩ <;> kernel_rfl
theorem zST : zab 209 Tab.t209 := by refine ⟨⟨Tryz.t209,?_,?_,?_,fun z h => h⟩,?_,?_⟩ <;> kernel_rfl
theorem zSO : zab 210 Tab.t210 := by refine ⟨⟨Tryz.t210,?_,?_,?_,fun z h => by cases h⟩,?_,?_⟩ <;> kernel_rfl
theorem zMM : zab 211 Tab.t211 := by refine ⟨⟨Tryz.t211,?_,?_,?_,fun z h => h⟩,?_,?_⟩ <;> kernel_rfl
theorem zVF : zab 212 Tab.t212 := by refine ⟨⟨Tryz.t212,?_,?_,?_,fun z h => h⟩,?_,?_⟩ <;> kernel_rfl
theorem zQI : zab 213 Tab.t213 := by refine ⟨⟨Tryz.t213,?_,?_,?_,fun z h => h⟩,?_,?_⟩ <;> kernel_rfl
theorem zUj : zab 214 Tab.t214 := by refine ⟨⟨Tryz.t214,?_,?_,?_,fun z h => h⟩,?_,?_⟩ <;> kernel_rfl
theorem zTK : zab 215 Tab.t215 := by refine ⟨⟨Tryz.t215,?_,?_,?_,fun z h => h⟩,?_,?_⟩ <;> kernel_rfl
theorem zMm : zab 216 Tab.t216 := by refine ⟨⟨Tryz.t216,?_,?_,?_,fun z h => h⟩,?_,?_⟩ <;> kernel_rfl
theorem zWD : zab 217 Tab.t217 := by refine ⟨⟨Tryz.t217,?_,?_,?_,fun z h => by cases h⟩,?_,?_⟩ <;> kernel_rfl
theorem zPC : zab 218 Tab.t218 := by refine ⟨⟨Tryz.t218,?_,?_,?_,fun z h => h⟩,?_,?_⟩ <;> kernel_rfl
theorem zOE : zab 219 Tab.t219 := by refine ⟨⟨Tryz.t219,?_,?_,?_,fun z h => by cases h⟩,?_,?_⟩ <;> kernel_rfl
theorem zVW : zab 220 Tab.t220 := by refine ⟨⟨Tryz.t220,?_,?_,?_,fun z h => h⟩,?_,?_⟩ <;> kernel_rfl
theorem zRV : zab 221 Tab.t221 := by refine ⟨⟨Tryz.t221,?_,?_,?_,fun z h => h⟩,?_,?_⟩ <;> kernel_rfl
theorem zQN : zab 222 Tab.t222 := by refine ⟨⟨Tryz.t222,?_,?_,?_,fun z h => h⟩,?_,?_⟩ <;> kernel_rfl
theorem zRN : zab 223 Tab.t223 := by refine ⟨⟨Tryz.t223,?_,?_,?_,fun z h => h⟩,?_,?_⟩ <;> kernel_rfl
theorem zOe : zab 224 Tab.t224 := by refine ⟨⟨Tryz.t224,?_,?_,?_,fun z h => h⟩,?_,?_⟩ <;> kernel_rfl
theorem zVS : zab 225 Tab.t225 := by refine ⟨⟨Tryz.t225,?_,?_,?_,fun z h => h⟩,?_,?_⟩ <;> kernel_rfl
theorem zTl : zab 226 Tab.t226 := by refine ⟨⟨Tryz.t226,?_,?_,?_,fun z h => h⟩,?_,?_⟩ <;> kernel_rfl
theorem zON : zab 227 Tab.t227 := by refine ⟨⟨Tryz.t227,?_,?_,?_,fun z h => h⟩,?_,?_⟩ <;> kernel_rfl
theorem zNK : zab 228 Tab.t228 := by refine ⟨⟨Tryz.t228,?_,?_,?_,fun z h => h⟩,?_,?_⟩ <;> kernel_rfl
theorem zSI : zab 229 Tab.t229 := by refine ⟨⟨Tryz.t229,?_,?_,?_,fun z h => h⟩,?_,?_⟩ <;> kernel_rfl
theorem zRs : zab 230 Tab.t230 := by refine ⟨⟨Tryz.t230,?_,?_,?_,fun z h => h⟩,?_,?_⟩ <;> kernel_rfl
theorem zQp : zab 231 Tab.t231 := by refine ⟨⟨Tryz.t231,?_,?_,?_,fun z h => by cases h⟩,?_,?_⟩ <;> kernel_rfl
theorem zNv : zab 232 Tab.t232 := by refine ⟨⟨Tryz.t232,?_,?_,?_,fun z h => h⟩,?_,?_⟩ <;> kernel_rfl
theorem zTm : zab 233 Tab.t233 := by refine ⟨⟨Tryz.t233,?_,?_,?_,fun z h => h⟩,?_,?_⟩ <;> kernel_rfl
theorem zWj : zab 234 Tab.t234 := by refine ⟨⟨Tryz.t234,?_,?_,?_,fun z h => by cases h⟩,?_,?_⟩ <;> kernel_rfl
theorem zOK : zab 235 Tab.t235 := by refine ⟨⟨Tryz.t235,?_,?_,?_,fun z h => h⟩,?_,?_⟩ <;> kernel_rfl
theorem zSV : zab 236 Tab.t236 := by refine ⟨⟨Tryz.t236,?_,?_,?_,fun z h => h⟩,?_,?_⟩ <;> kernel_rfl
theorem zOH : zab 237 Tab.t237 := by refine ⟨⟨Tryz.t237,?_,?_,?_,fun z h => h⟩,?_,?_⟩ <;> kernel_rfl
theorem zVq : zab 238 Tab.t238 := by refine ⟨⟨Tryz.t238,?_,?_,?_,fun z h => h⟩,?_,?_⟩ <;> kernel_rfl
theorem zNf : zab 239 Tab.t239 := by refine ⟨⟨Tryz.t239,?_,?_,?_,fun z h => h⟩,?_,?_⟩ <;> kernel_rfl
theorem zRE : zab 240 Tab.t240 := by refine ⟨⟨Tryz.t240,?_,?_,?_,fun z h => h⟩,?_,?_⟩ <;> kernel_rfl
theorem zPl : zab 241 Tab.t241 := by refine ⟨⟨Tryz.t241,?_,?_,?_,fun z h => h⟩,?_,?_⟩ <;> kernel_rfl
theorem zVt : zab 242 Tab.t242 := by refine ⟨⟨Tryz.t242,?_,?_,?_,fun z h => h⟩,?_,?_⟩ <;> kernel_rfl
theorem zVd : zab 243 Tab.t243 := by refine ⟨⟨Tryz.t243,?_,?_,?_,fun z h => h⟩,?_,?_⟩ <;> kernel_rfl
theorem zOO : zab 244 Tab.t244 := by refine ⟨⟨Tryz.t244,?_,?_,?_,fun z h => by cases h⟩,?_,?_⟩ <;> kernel_rfl
theorem zRd : zab 245 Tab.t245 := by refine ⟨⟨Tryz.t245,?_,?_,?_,fun z h => h⟩,?_,?_⟩ <;> kernel_rfl
theorem zQS : zab 246 Tab.t246 := by refine ⟨⟨Tryz.t246,?_,?_,?_,fun z h => h⟩,?_,?_⟩ <;> kernel_rfl
theorem zSv : zab 247 Tab.t247 := by refine ⟨⟨Tryz.t247,?_,?_,?_,fun z h => by cases h⟩,?_,?_⟩ <;> kernel_rfl
theorem zWP : AllFrom zab 186 [Tab.t186,Tab.t187,Tab.t188,Tab.t189,Tab.t190,Tab.t191,Tab.t192,Tab.t193,Tab.t194,Tab.t195,Tab.t196,Tab.t197,Tab.t198,Tab.t199,Tab.t200,Tab.t201,Tab.t202,Tab.t203,Tab.t204,Tab.t205,Tab.t206,Tab.t207,Tab.t208,Tab.t209,Tab.t210,Tab.t211,Tab.t212,Tab.t213,Tab.t214,Tab.t215,Tab.t216,Tab.t217,Tab.t218,Tab.t219,Tab.t220,Tab.t221,Tab.t222,Tab.t223,Tab.t224,Tab.t225,Tab.t226,Tab.t227,Tab.t228,Tab.t229,Tab.t230,Tab.t231,Tab.t232,Tab.t233,Tab.t234,Tab.t235,Tab.t236,Tab.t237,Tab.t238,Tab.t239,Tab.t240,Tab.t241,Tab.t242,Tab.t243,Tab.t244,Tab.t245,Tab.t246,Tab.t247] := .cons zOF (.cons zTx (.cons zRc (.cons zSb (.cons zNp (.cons zQP (.cons zUL (.cons zWB (.cons zOp (.cons zOZ (.cons zWd (.cons zWh (.cons zSX (.cons zQq (.cons zQD (.cons zOg (.cons zQt (.cons zSu (.cons zQV (.cons zSg (.cons zUd (.cons zQk (.cons zPd (.cons zST (.cons zSO (.cons zMM (.cons zVF (.cons zQI (.cons zUj (.cons zTK (.cons zMm (.cons zWD (.cons zPC (.cons zOE (.cons zVW (.cons zRV (.cons zQN (.cons zRN (.cons zOe (.cons zVS (.cons zTl (.cons zON (.cons zNK (.cons zSI (.cons zRs (.cons zQp (.cons zNv (.cons zTm (.cons zWj (.cons zOK (.cons zSV (.cons zOH (.cons zVq (.cons zNf (.cons zRE (.cons zPl (.cons zVt (.cons zVd (.cons zOO (.cons zRd (.cons zQS (.cons zSv (.nil 248))))))))))))))))))))))))))))))))))))))))))))))))))))))))))))))
end Go.Proofs.YtgdkljcnebaiiaaGreat

namespace Go.Proofs.YtgdkljcnebaiiaaGreat
open Go Go.Sim
set_option maxRecDepth 100000
theorem zNJ : zab 248 Tab.t248 := by refine ⟨⟨Tryz.t248,?_,?_,?_,fun z h => h⟩,?_,?_⟩ <;> kernel_rfl
theorem zPp : zab 249 Tab.t249 := by refine ⟨⟨Tryz.t249,?_,?_,?_,fun z h => h⟩,?_,?_⟩ <;> kernel_rfl
theorem zMu : zab 250 Tab.t250 := by refine ⟨⟨Tryz.t250,?_,?_,?_,fun z h => h⟩,?_,?_⟩ <;> kernel_rfl
theorem zVA : zab 251 Tab.t251 := by refine ⟨⟨Tryz.t251,?_,?_,?_,fun z h => h⟩,?_,?_⟩ <;> kernel_rfl
theorem zVf : zab 252 Tab.t252 := by refine ⟨⟨Tryz.t252,?_,?_,?_,fun z h => h⟩,?_,?_⟩ <;> kernel_rfl
theorem zTt : zab 253 Tab.t253 := by refine ⟨⟨Tryz.t253,?_,?_,?_,fun z h => h⟩,?_,?_⟩ <;> kernel_rfl
theorem zOA : zab 254 Tab.t254 := by refine ⟨⟨Tryz.t254,?_,?_,?_,fun z h => h⟩,?_,?_⟩ <;> kernel_rfl
theorem zQU : zab 255 Tab.t255 := by refine ⟨⟨Tryz.t255,?_,?_,?_,fun z h => h⟩,?_,?_⟩ <;> kernel_rfl
theorem zOB : zab 256 Tab.t256 := by refine ⟨⟨Tryz.t256,?_,?_,?_,fun z h => h⟩,?_,?_⟩ <;> kernel_rfl
theorem zTi : zab 257 Tab.t257 := by refine ⟨⟨Tryz.t257,?_,?_,?_,fun z h => h⟩,?_,?_⟩ <;> kernel_rfl
theorem zSd : zab 258 Tab.t258 := by refine ⟨⟨Tryz.t258,?_,?_,?_,fun z h => h⟩,?_,?_⟩ <;> kernel_rfl
theorem zTY : zab 259 Tab.t259 := by refine ⟨⟨Tryz.t259,?_,?_,?_,fun z h => h⟩,?_,?_⟩ <;> kernel_rfl
theorem zOy : zab 260 Tab.t260 := by refine ⟨⟨Tryz.t260,?_,?_,?_,fun z h => h⟩,?_,?_⟩ <;> kernel_rfl
theorem zOP : zab 261 Tab.t261 := by refine ⟨⟨Tryz.t261,?_,?_,?_,fun z h => h⟩,?_,?_⟩ <;> kernel_rfl
theorem zNb : zab 262 Tab.t262 := by refine ⟨⟨Tryz.t262,?_,?_,?_,fun z h => h⟩,?_,?_⟩ <;> kernel_rfl
theorem zSQ : zab 263 Tab.t263 := by refine ⟨⟨Tryz.t263,?_,?_,?_,fun z h => h⟩,?_,?_⟩ <;> kernel_rfl
theorem zTq : zab 264 Tab.t264 := by refine ⟨⟨Tryz.t264,?_,?_,?_,fun z h => h⟩,?_,?_⟩ <;> kernel_rfl
theorem zOX : zab 265 Tab.t265 := by refine ⟨⟨Tryz.t265,?_,?_,?_,fun z h => h⟩,?_,?_⟩ <;> kernel_rfl
theorem zRx : zab 266 Tab.t266 := by refine ⟨⟨Tryz.t266,?_,?_,?_,fun z h => h⟩,?_,?_⟩ <;> kernel_rfl
theorem zNB : zab 267 Tab.t267 := by refine ⟨⟨Tryz.t267,?_,?_,?_,fun z h => h⟩,?_,?_⟩ <;> kernel_rfl
theorem zOo : zab 268 Tab.t268 := by refine ⟨⟨Tryz.t268,?_,?_,?_,fun z h => h⟩,?_,?_⟩ <;> kernel_rfl
theorem zMX : zab 269 Tab.t269 := by refine ⟨⟨Tryz.t269,?_,?_,?_,fun z h => h⟩,?_,?_⟩ <;> kernel_rfl
theorem zSY : zab 270 Tab.t270 := by refine ⟨⟨Tryz.t270,?_,?_,?_,fun z h => h⟩,?_,?_⟩ <;> kernel_rfl
theorem zUM : zab 271 Tab.t271 := by refine ⟨⟨Tryz.t271,?_,?_,?_,fun z h => h⟩,?_,?_⟩ <;> kernel_rfl
theorem zVR : zab 272 Tab.t272 := by refine ⟨⟨Tryz.t272,?_,?_,?_,fun z h => h⟩,?_,?_⟩ <;> kernel_rfl
theorem zVO : zab 273 Tab.t273 := by refine ⟨⟨Tryz.t273,?_,?_,?_,fun z h => h⟩,?_,?_⟩ <;> kernel_rfl
theorem zTJ : zab 274 Tab.t274 := by refine ⟨⟨Tryz.t274,?_,?_,?_,fun z h => h⟩,?_,?_⟩ <;> kernel_rfl
theorem zSU : zab 275 Tab.t275 := by refine ⟨⟨Tryz.t275,?_,?_,?_,fun z h => h⟩,?_,?_⟩ <;> kernel_rfl
theorem zUO : zab 276 Tab.t276 := by refine ⟨⟨Tryz.t276,?_,?_,?_,fun z h => h⟩,?_,?_⟩ <;> kernel_rfl
theorem zOR : zab 277 Tab.t277 := by refine ⟨⟨Tryz.t277,?_,?_,?_,fun z h => h⟩,?_,?_⟩ <;> kernel_rfl
theorem zSz : zab 278 Tab.t278 := by refine ⟨⟨Tryz.t278,?_,?_,?_,fun z h => h⟩,?_,?_⟩ <;> kernel_rfl
theorem zWy : zab 279 Tab.t279 := by refine ⟨⟨Tryz.t279,?_,?_,?_,fun z h => h⟩,?_,?_⟩ <;> kernel_rfl
theorem zSq : zab 280 Tab.t280 := by refine ⟨⟨Tryz.t280,?_,?_,?_,fun z h => h⟩,?_,?_⟩ <;> kernel_rfl
theorem zNH : zab 281 Tab.t281 := by refine ⟨⟨Tryz.t281,?_,?_,?_,fun z h => h⟩,?_,?_⟩ <;> kernel_rfl
theorem zPa : zab 282 Tab.t282 := by refine ⟨⟨Tryz.t282,?_,?_,?_,fun z h => h⟩,?_,?_⟩ <;> kernel_rfl
theorem zMp : zab 283 Tab.t283 := by refine ⟨⟨Tryz.t283,?_,?_,?_,fun z h => h⟩,?_,?_⟩ <;> kernel_rfl
theorem zMQ : zab 284 Tab.t284 := by refine ⟨⟨Tryz.t284,?_,?_,?_,fun z h => h⟩,?_,?_⟩ <;> kernel_rfl
theorem zRw : zab 285 Tab.t285 := by refine ⟨⟨Tryz.t285,?_,?_,?_,fun z h => h⟩,?_,?_⟩ <;> kernel_rfl
theorem zUi : zab 286 Tab.t286 := by refine ⟨⟨Tryz.t286,?_,?_,?_,fun z h => h⟩,?_,?_⟩ <;> kernel_rfl
theorem zQH : zab 287 Tab.t287 := by refine ⟨⟨Tryz.t287,?_,?_,?_,fun z h => h⟩,?_,?_⟩ <;> kernel_rfl
theorem zRB : zab 288 Tab.t288 := by refine ⟨⟨Tryz.t288,?_,?_,?_,fun z h => h⟩,?_,?_⟩ <;> kernel_rfl
theorem zWC : zab 289 Tab.t289 := by refine ⟨⟨Tryz.t289,?_,?_,?_,fun z h => h⟩,?_,?_⟩ <;> kernel_rfl
theorem zTu : zab 290 Tab.t290 := by refine ⟨⟨Tryz.t290,?_,?_,?_,fun z h => h⟩,?_,?_⟩ <;> kernel_rfl
theorem zVv : zab 291 Tab.t291 := by refine ⟨⟨Tryz.t291,?_,?_,?_,fun z h => h⟩,?_,?_⟩ <;> kernel_rfl
theorem zTe : zab 292 Tab.t292 := by refine ⟨⟨Tryz.t292,?_,?_,?_,fun z h => h⟩,?_,?_⟩ <;> kernel_rfl
theorem zMK : zab 293 Tab.t293 := by refine ⟨⟨Tryz.t293,?_,?_,?_,fun z h => by cases h⟩,?_,?_⟩ <;> kernel_rfl
theorem zPA : zab 294 Tab.t294 := by refine ⟨⟨Tryz.t294,?_,?_,?_,fun z h => h⟩,?_,?_⟩ <;> kernel_rfl
theorem zMV : zab 295 Tab.t295 := by refine ⟨⟨Tryz.t295,?_,?_,?_,fun z h => h⟩,?_,?_⟩ <;> kernel_rfl
theorem zTp : zab 296 Tab.t296 := by refine ⟨⟨Tryz.t296,?_,?_,?_,fun z h => h⟩,?_,?_⟩ <;> kernel_rfl
theorem zPK : zab 297 Tab.t297 := by refine ⟨⟨Tryz.t297,?_,?_,?_,fun z h => h⟩,?_,?_⟩ <;> kernel_rfl
theorem zRf : zab 298 Tab.t298 := by refine ⟨⟨Tryz.t298,?_,?_,?_,fun z h => h⟩,?_,?_⟩ <;> kernel_rfl
theorem zTw : zab 299 Tab.t299 := by refine ⟨⟨Tryz.t299,?_,?_,?_,fun z h => h⟩,?_,?_⟩ <;> kernel_rfl
theorem zPf : zab 300 Tab.t300 := by refine ⟨⟨Tryz.t300,?_,?_,?_,fun z h => h⟩,?_,?_⟩ <;> kernel_rfl
theorem zPY : zab 301 Tab.t301 := by refine ⟨⟨Tryz.t301,?_,?_,?_,fun z h => h⟩,?_,?_⟩ <;> kernel_rfl
theorem zPX : zab 302 Tab.t302 := by refine ⟨⟨Tryz.t302,?_,?_,?_,fun z h => h⟩,?_,?_⟩ <;> kernel_rfl
theorem zUC : zab 303 Tab.t303 := by refine ⟨⟨Tryz.t303,?_,?_,?_,fun z h => h⟩,?_,?_⟩ <;> kernel_rfl
theorem zRO : zab 304 Tab.t304 := by refine ⟨⟨Tryz.t304,?_,?_,?_,fun z h => h⟩,?_,?_⟩ <;> kernel_rfl
theorem zRL : zab 305 Tab.t305 := by refine ⟨⟨Tryz.t305,?_,?_,?_,fun z h => h⟩,?_,?_⟩ <;> kernel_rfl
theorem zNR : zab 306 Tab.t306 := by refine ⟨⟨Tryz.t306,?_,?_,?_,fun z h => by cases h⟩,?_,?_⟩ <;> kernel_rfl
theorem zUU : zab 307 Tab.t307 := by refine ⟨⟨Tryz.t307,?_,?_,?_,fun z h => h⟩,?_,?_⟩ <;> kernel_rfl
theorem zUS : zab 308 Tab.t308 := by refine ⟨⟨Tryz.t308,?_,?_,?_,fun z h => h⟩,?_,?_⟩ <;> kernel_rfl
theorem zTS : zab 309 Tab.t309 := by refine ⟨⟨Tryz.t309,?_,?_,?_,fun z h => h⟩,?_,?_⟩ <;> kernel_rfl
theorem xbt : AllFrom zab 248 [Tab.t248,Tab.t249,Tab.t250,Tab.t251,Tab.t252,Tab.t253,Tab.t254,Tab.t255,Tab.t256,Tab.t257,Tab.t258,Tab.t259,Tab.t260,Tab.t261,Tab.t262,Tab.t263,Tab.t264,Tab.t265,Tab.t266,Tab.t267,Tab.t268,Tab.t269,Tab.t270,Tab.t271,Tab.t272,Tab.t273,Tab.t274,Tab.t275,Tab.t276,Tab.t277,Tab.t278,Tab.t279,Tab.t280,Tab.t281,Tab.t282,Tab.t283,Tab.t284,Tab.t285,Tab.t286,Tab.t287,Tab.t288,Tab.t289,Tab.t290,Tab.t291,Tab.t292,Tab.t293,Tab.t294,Tab.t295,Tab.t296,Tab.t297,Tab.t298,Tab.t299,Tab.t300,Tab.t301,Tab.t302,Tab.t303,Tab.t304,Tab.t305,Tab.t306,Tab.t307,Tab.t308,Tab.t309] := .cons zNJ (.cons zPp (.cons zMu (.cons zVA (.cons zVf (.cons zTt (.cons zOA (.cons zQU (.cons zOB (.cons zTi (.cons zSd (.cons zTY (.cons zOy (.cons zOP (.cons zNb (.cons zSQ (.cons zTq (.cons zOX (.cons zRx (.cons zNB (.cons zOo (.cons zMX (.cons zSY (.cons zUM (.cons zVR (.cons zVO (.cons zTJ (.cons zSU (.cons zUO (.cons zOR (.cons zSz (.cons zWy (.cons zSq (.cons zNH (.cons zPa (.cons zMp (.cons zMQ (.cons zRw (.cons zUi (.cons zQH (.cons zRB (.cons zWC (.cons zTu (.cons zVv (.cons zTe (.cons zMK (.cons zPA (.cons zMV (.cons zTp (.cons zPK (.cons zRf (.cons zTw (.cons zPf (.cons zPY (.cons zPX (.cons zUC (.cons zRO (.cons zRL (.cons zNR (.cons zUU (.cons zUS (.cons zTS (.nil 310))))))))))))))))))))))))))))))))))))))))))))))))))))))))))))))
end Go.Proofs.YtgdkljcnebaiiaaGreat

namespace Go.Proofs.YtgdkljcnebaiiaaGreat
open Go Go.Sim
set_option maxRecDepth 100000
theorem zPw : zab 310 Tab.t310 := by refine ⟨⟨Tryz.t310,?_,?_,?_,fun z h => h⟩,?_,?_⟩ <;> kernel_rfl
theorem zWa : zab 311 Tab.t311 := by refine ⟨⟨Tryz.t311,?_,?_,?_,fun z h => h⟩,?_,?_⟩ <;> kernel_rfl
theorem zWw : zab 312 Tab.t312 := by refine ⟨⟨Tryz.t312,?_,?_,?_,fun z h => h⟩,?_,?_⟩ <;> kernel_rfl
theorem zNr : zab 313 Tab.t313 := by refine ⟨⟨Tryz.t313,?_,?_,?_,fun z h => h⟩,?_,?_⟩ <;> kernel_rfl
theorem zRU : zab 314 Tab.t314 := by refine ⟨⟨Tryz.t314,?_,?_,?_,fun z h => h⟩,?_,?_⟩ <;> kernel_rfl
theorem zTd : zab 315 Tab.t315 := by refine ⟨⟨Tryz.t315,?_,?_,?_,fun z h => h⟩,?_,?_⟩ <;> kernel_rfl
theorem zPj : zab 316 Tab.t316 := by refine ⟨⟨Tryz.t316,?_,?_,?_,fun z h => h⟩,?_,?_⟩ <;> kernel_rfl
theorem zUm : zab 317 Tab.t317 := by refine ⟨⟨Tryz.t317,?_,?_,?_,fun z h => h⟩,?_,?_⟩ <;> kernel_rfl
theorem zMz : zab 318 Tab.t318 := by refine ⟨⟨Tryz.t318,?_,?_,?_,fun z h => h⟩,?_,?_⟩ <;> kernel_rfl
theorem zRt : zab 319 Tab.t319 := by refine ⟨⟨Tryz.t319,?_,?_,?_,fun z h => h⟩,?_,?_⟩ <;> kernel_rfl
theorem zOu : zab 320 Tab.t320 := by refine ⟨⟨Tryz.t320,?_,?_,?_,fun z h => by cases h⟩,?_,?_⟩ <;> kernel_rfl
theorem zQu : zab 321 Tab.t321 := by refine ⟨⟨Tryz.t321,?_,?_,?_,fun z h => h⟩,?_,?_⟩ <;> kernel_rfl
theorem zWA : zab 322 Tab.t322 := by refine ⟨⟨Tryz.t322,?_,?_,?_,fun z h => h⟩,?_,?_⟩ <;> kernel_rfl
theorem zOl : zab 323 Tab.t323 := by refine ⟨⟨Tryz.t323,?_,?_,?_,fun z h => h⟩,?_,?_⟩ <;> kernel_rfl
theorem zPJ : zab 324 Tab.t324 := by refine ⟨⟨Tryz.t324,?_,?_,?_,fun z h => h⟩,?_,?_⟩ <;> kernel_rfl
theorem zUs : zab 325 Tab.t325 := by refine ⟨⟨Tryz.t325,?_,?_,?_,fun z h => h⟩,?_,?_⟩ <;> kernel_rfl
theorem zRo : zab 326 Tab.t326 := by refine ⟨⟨Tryz.t326,?_,?_,?_,fun z h => h⟩,?_,?_⟩ <;> kernel_rfl
theorem zPR : zab 327 Tab.t327 := by refine ⟨⟨Tryz.t327,?_,?_,?_,fun z h => h⟩,?_,?_⟩ <;> kernel_rfl
theorem zMH : zab 328 Tab.t328 := by refine ⟨⟨Tryz.t328,?_,?_,?_,fun z h => h⟩,?_,?_⟩ <;> kernel_rfl
theorem zSp : zab 329 Tab.t329 := by refine ⟨⟨Tryz.t329,?_,?_,?_,fun z h => h⟩,?_,?_⟩ <;> kernel_rfl
theorem zNw : zab 330 Tab.t330 := by refine ⟨⟨Tryz.t330,?_,?_,?_,fun z h => h⟩,?_,?_⟩ <;> kernel_rfl
theorem zMO : zab 331 Tab.t331 := by refine ⟨⟨Tryz.t331,?_,?_,?_,fun z h => h⟩,?_,?_⟩ <;> kernel_rfl
theorem zUa : zab 332 Tab.t332 := by refine ⟨⟨Tryz.t332,?_,?_,?_,fun z h => h⟩,?_,?_⟩ <;> kernel_rfl
theorem zTW : zab 333 Tab.t333 := by refine ⟨⟨Tryz.t333,?_,?_,?_,fun z h => h⟩,?_,?_⟩ <;> kernel_rfl
theorem zTX : zab 334 Tab.t334 := by refine ⟨⟨Tryz.t334,?_,?_,?_,fun z h => h⟩,?_,?_⟩ <;> kernel_rfl
theorem zTc : zab 335 Tab.t335 := by refine ⟨⟨Tryz.t335,?_,?_,?_,fun z h => h⟩,?_,?_⟩ <;> kernel_rfl
theorem zSy : zab 336 Tab.t336 := by refine ⟨⟨Tryz.t336,?_,?_,?_,fun z h => h⟩,?_,?_⟩ <;> kernel_rfl
theorem zVL : zab 337 Tab.t337 := by refine ⟨⟨Tryz.t337,?_,?_,?_,fun z h => h⟩,?_,?_⟩ <;> kernel_rfl
theorem zUT : zab 338 Tab.t338 := by refine ⟨⟨Tryz.t338,?_,?_,?_,fun z h => h⟩,?_,?_⟩ <;> kernel_rfl
theorem zMF : zab 339 Tab.t339 := by refine ⟨⟨Tryz.t339,?_,?_,?_,fun z h => h⟩,?_,?_⟩ <;> kernel_rfl
theorem zPo : zab 340 Tab.t340 := by refine ⟨⟨Tryz.t340,?_,?_,?_,fun z h => h⟩,?_,?_⟩ <;> kernel_rfl
theorem zMN : zab 341 Tab.t341 := by refine ⟨⟨Tryz.t341,?_,?_,?_,fun z h => h⟩,?_,?_⟩ <;> kernel_rfl
theorem zUu : zab 342 Tab.t342 := by refine ⟨⟨Tryz.t342,?_,?_,?_,fun z h => h⟩,?_,?_⟩ <;> kernel_rfl
theorem zUw : zab 343 Tab.t343 := by refine ⟨⟨Tryz.t343,?_,?_,?_,fun z h => h⟩,?_,?_⟩ <;> kernel_rfl
theorem zNu : zab 344 Tab.t344 := by refine ⟨⟨Tryz.t344,?_,?_,?_,fun z h => by cases h⟩,?_,?_⟩ <;> kernel_rfl
theorem zPv : zab 345 Tab.t345 := by refine ⟨⟨Tryz.t345,?_,?_,?_,fun z h => h⟩,?_,?_⟩ <;> kernel_rfl
theorem zVH : zab 346 Tab.t346 := by refine ⟨⟨Tryz.t346,?_,?_,?_,fun z h => h⟩,?_,?_⟩ <;> kernel_rfl
theorem zTb : zab 347 Tab.t347 := by refine ⟨⟨Tryz.t347,?_,?_,?_,fun z h => h⟩,?_,?_⟩ <;> kernel_rfl
theorem zMy : zab 348 Tab.t348 := by refine ⟨⟨Tryz.t348,?_,?_,?_,fun z h => h⟩,?_,?_⟩ <;> kernel_rfl
theorem zOa : zab 349 Tab.t349 := by refine ⟨⟨Tryz.t349,?_,?_,?_,fun z h => by cases h⟩,?_,?_⟩ <;> kernel_rfl
theorem zVD : zab 350 Tab.t350 := by refine ⟨⟨Tryz.t350,?_,?_,?_,fun z h => h⟩,?_,?_⟩ <;> kernel_rfl
theorem zTG : zab 351 Tab.t351 := by refine ⟨⟨Tryz.t351,?_,?_,?_,fun z h => h⟩,?_,?_⟩ <;> kernel_rfl
theorem zSr : zab 352 Tab.t352 := by refine ⟨⟨Tryz.t352,?_,?_,?_,fun z h => h⟩,?_,?_⟩ <;> kernel_rfl
theorem zWE : zab 353 Tab.t353 := by refine ⟨⟨Tryz.t353,?_,?_,?_,fun z h => h⟩,?_,?_⟩ <;> kernel_rfl
theorem zPk : zab 354 Tab.t354 := by refine ⟨⟨Tryz.t354,?_,?_,?_,fun z h => h⟩,?_,?_⟩ <;> kernel_rfl
theorem zWl : zab 355 Tab.t355 := by refine ⟨⟨Tryz.t355,?_,?_,?_,fun z h => h⟩,?_,?_⟩ <;> kernel_rfl
theorem zVx : zab 356 Tab.t356 := by refine ⟨⟨Tryz.t356,?_,?_,?_,fun z h => h⟩,?_,?_⟩ <;> kernel_rfl
theorem zPr : zab 357 Tab.t357 := by refine ⟨⟨Tryz.t357,?_,?_,?_,fun z h => h⟩,?_,?_⟩ <;> kernel_rfl
theorem zNx : zab 358 Tab.t358 := by refine ⟨⟨Tryz.t358,?_,?_,?_,fun z h => h⟩,?_,?_⟩ <;> kernel_rfl
theorem zTA : zab 359 Tab.t359 := by refine ⟨⟨Tryz.t359,?_,?_,?_,fun z h => h⟩,?_,?_⟩ <;> kernel_rfl
theorem zWG : zab 360 Tab.t360 := by refine ⟨⟨Tryz.t360,?_,?_,?_,fun z h => h⟩,?_,?_⟩ <;> kernel_rfl
theorem zRR : zab 361 Tab.t361 := by refine ⟨⟨Tryz.t361,?_,?_,?_,fun z h => h⟩,?_,?_⟩ <;> kernel_rfl
theorem zVJ : zab 362 Tab.t362 := by refine ⟨⟨Tryz.t362,?_,?_,?_,fun z h => h⟩,?_,?_⟩ <;> kernel_rfl
theorem zME : zab 363 Tab.t363 := by refine ⟨⟨Tryz.t363,?_,?_,?_,fun z h => h⟩,?_,?_⟩ <;> kernel_rfl
theorem zQv : zab 364 Tab.t364 := by refine ⟨⟨Tryz.t364,?_,?_,?_,fun z h => h⟩,?_,?_⟩ <;> kernel_rfl
theorem zMY : zab 365 Tab.t365 := by refine ⟨⟨Tryz.t365,?_,?_,?_,fun z h => h⟩,?_,?_⟩ <;> kernel_rfl
theorem zWp : zab 366 Tab.t366 := by refine ⟨⟨Tryz.t366,?_,?_,?_,fun z h => h⟩,?_,?_⟩ <;> kernel_rfl
theorem zSn : zab 367 Tab.t367 := by refine ⟨⟨Tryz.t367,?_,?_,?_,fun z h => h⟩,?_,?_⟩ <;> kernel_rfl
theorem zVG : zab 368 Tab.t368 := by refine ⟨⟨Tryz.t368,?_,?_,?_,fun z h => h⟩,?_,?_⟩ <;> kernel_rfl
theorem zRG : zab 369 Tab.t369 := by refine ⟨⟨Tryz.t369,?_,?_,?_,fun z h => h⟩,?_,?_⟩ <;> kernel_rfl
theorem zNm : zab 370 Tab.t370 := by refine ⟨⟨Tryz.t370,?_,?_,?_,fun z h => h⟩,?_,?_⟩ <;> kernel_rfl
theorem zQh : zab 371 Tab.t371 := by refine ⟨⟨Tryz.t371,?_,?_,?_,fun z h => h⟩,?_,?_⟩ <;> kernel_rfl
theorem zZO : AllFrom zab 310 [Tab.t310,Tab.t311,Tab.t312,Tab.t313,Tab.t314,Tab.t315,Tab.t316,Tab.t317,Tab.t318,Tab.t319,Tab.t320,Tab.t321,Tab.t322,Tab.t323,Tab.t324,Tab.t325,Tab.t326,Tab.t327,Tab.t328,Tab.t329,Tab.t330,Tab.t331,Tab.t332,Tab.t333,Tab.t334,Tab.t335,Tab.t336,Tab.t337,Tab.t338,Tab.t339,Tab.t340,Tab.t341,Tab.t342,Tab.t343,Tab.t344,Tab.t345,Tab.t346,Tab.t347,Tab.t348,Tab.t349,Tab.t350,Tab.t351,Tab.t352,Tab.t353,Tab.t354,Tab.t355,Tab.t356,Tab.t357,Tab.t358,Tab.t359,Tab.t360,Tab.t361,Tab.t362,Tab.t363,Tab.t364,Tab.t365,Tab.t366,Tab.t367,Tab.t368,Tab.t369,Tab.t370,Tab.t371] := .cons zPw (.cons zWa (.cons zWw (.cons zNr (.cons zRU (.cons zTd (.cons zPj (.cons zUm (.cons zMz (.cons zRt (.cons zOu (.cons zQu (.cons zWA (.cons zOl (.cons zPJ (.cons zUs (.cons zRo (.cons zPR (.cons zMH (.cons zSp (.cons zNw (.cons zMO (.cons zUa (.cons zTW (.cons zTX (.cons zTc (.cons zSy (.cons zVL (.cons zUT (.cons zMF (.cons zPo (.cons zMN (.cons zUu (.cons zUw (.cons zNu (.cons zPv (.cons zVH (.cons zTb (.cons zMy (.cons zOa (.cons zVD (.cons zTG (.cons zSr (.cons zWE (.cons zPk (.cons zWl (.cons zVx (.cons zPr (.cons zNx (.cons zTA (.cons zWG (.cons zRR (.cons zVJ (.cons zME (.cons zQv (.cons zMY (.cons zWp (.cons zSn (.cons zVG (.cons zRG (.cons zNm (.cons zQh (.nil 372))))))))))))))))))))))))))))))))))))))))))))))))))))))))))))))
end Go.Proofs.YtgdkljcnebaiiaaGreat

namespace Go.Proofs.YtgdkljcnebaiiaaGreat
open Go Go.Sim
set_option maxRecDepth 100000
theorem zSa : zab 372 Tab.t372 := by refine ⟨⟨Tryz.t372,?_,?_,?_,fun z h => h⟩,?_,?_⟩ <;> kernel_rfl
theorem zOj : zab 373 Tab.t373 := by refine ⟨⟨Tryz.t373,?_,?_,?_,fun z h => h⟩,?_,?_⟩ <;> kernel_rfl
theorem zRk : zab 374 Tab.t374 := by refine ⟨⟨Tryz.t374,?_,?_,?_,fun z h => h⟩,?_,?_⟩ <;> kernel_rfl
theorem zVc : zab 375 Tab.t375 := by refine ⟨⟨Tryz.t375,?_,?_,?_,fun z h => h⟩,?_,?_⟩ <;> kernel_rfl
theorem zVo : zab 376 Tab.t376 := by refine ⟨⟨Tryz.t376,?_,?_,?_,fun z h => h⟩,?_,?_⟩ <;> kernel_rfl
theorem zNL : zab 377 Tab.t377 := by refine ⟨⟨Tryz.t377,?_,?_,?_,fun z h => by cases h⟩,?_,?_⟩ <;> kernel_rfl
theorem zTL : zab 378 Tab.t378 := by refine ⟨⟨Tryz.t378,?_,?_,?_,fun z h => h⟩,?_,?_⟩ <;> kernel_rfl
theorem zSM : zab 379 Tab.t379 := by refine ⟨⟨Tryz.t379,?_,?_,?_,fun z h => h⟩,?_,?_⟩ <;> kernel_rfl
theorem zSS : zab 380 Tab.t380 := by refine ⟨⟨Tryz.t380,?_,?_,?_,fun z h => h⟩,?_,?_⟩ <;> kernel_rfl
theorem zSs : zab 381 Tab.t381 := by refine ⟨⟨Tryz.t381,?_,?_,?_,fun z h => h⟩,?_,?_⟩ <;> kernel_rfl
theorem zNE : zab 382 Tab.t382 := by refine ⟨⟨Tryz.t382,?_,?_,?_,fun z h => h⟩,?_,?_⟩ <;> kernel_rfl
theorem zML : zab 383 Tab.t383 := by refine ⟨⟨Tryz.t383,?_,?_,?_,fun z h => h⟩,?_,?_⟩ <;> kernel_rfl
theorem zUk : zab 384 Tab.t384 := by refine ⟨⟨Tryz.t384,?_,?_,?_,fun z h => h⟩,?_,?_⟩ <;> kernel_rfl
theorem zRY : zab 385 Tab.t385 := by refine ⟨⟨Tryz.t385,?_,?_,?_,fun z h => h⟩,?_,?_⟩ <;> kernel_rfl
theorem zPE : zab 386 Tab.t386 := by refine ⟨⟨Tryz.t386,?_,?_,?_,fun z h => h⟩,?_,?_⟩ <;> kernel_rfl
theorem zWr : zab 387 Tab.t387 := by refine ⟨⟨Tryz.t387,?_,?_,?_,fun z h => h⟩,?_,?_⟩ <;> kernel_rfl
theorem zPQ : zab 388 Tab.t388 := by refine ⟨⟨Tryz.t388,?_,?_,?_,fun z h => h⟩,?_,?_⟩ <;> kernel_rfl
theorem zQK : zab 389 Tab.t389 := by refine ⟨⟨Tryz.t389,?_,?_,?_,fun z h => h⟩,?_,?_⟩ <;> kernel_rfl
theorem zTU : zab 390 Tab.t390 := by refine ⟨⟨Tryz.t390,?_,?_,?_,fun z h => by cases h⟩,?_,?_⟩ <;> kernel_rfl
theorem zVN : zab 391 Tab.t391 := by refine ⟨⟨Tryz.t391,?_,?_,?_,fun z h => h⟩,?_,?_⟩ <;> kernel_rfl
theorem zUy : zab 392 Tab.t392 := by refine ⟨⟨Tryz.t392,?_,?_,?_,fun z h => h⟩,?_,?_⟩ <;> kernel_rfl
theorem zNX : zab 393 Tab.t393 := by refine ⟨⟨Tryz.t393,?_,?_,?_,fun z h => h⟩,?_,?_⟩ <;> kernel_rfl
theorem zQf : zab 394 Tab.t394 := by refine ⟨⟨Tryz.t394,?_,?_,?_,fun z h => h⟩,?_,?_⟩ <;> kernel_rfl
theorem zOm : zab 395 Tab.t395 := by refine ⟨⟨Tryz.t395,?_,?_,?_,fun z h => h⟩,?_,?_⟩ <;> kernel_rfl
theorem zPh : zab 396 Tab.t396 := by refine ⟨⟨Tryz.t396,?_,?_,?_,fun z h => h⟩,?_,?_⟩ <;> kernel_rfl
theorem zUv : zab 397 Tab.t397 := by refine ⟨⟨Tryz.t397,?_,?_,?_,fun z h => h⟩,?_,?_⟩ <;> kernel_rfl
theorem zPb : zab 398 Tab.t398 := by refine ⟨⟨Tryz.t398,?_,?_,?_,fun z h => h⟩,?_,?_⟩ <;> kernel_rfl
theorem zUR : zab 399 Tab.t399 := by refine ⟨⟨Tryz.t399,?_,?_,?_,fun z h => h⟩,?_,?_⟩ <;> kernel_rfl
theorem zPq : zab 400 Tab.t400 := by refine ⟨⟨Tryz.t400,?_,?_,?_,fun z h => h⟩,?_,?_⟩ <;> kernel_rfl
theorem zPe : zab 401 Tab.t401 := by refine ⟨⟨Tryz.t401,?_,?_,?_,fun z h => h⟩,?_,?_⟩ <;> kernel_rfl
theorem zSL : zab 402 Tab.t402 := by refine ⟨⟨Tryz.t402,?_,?_,?_,fun z h => h⟩,?_,?_⟩ <;> kernel_rfl
theorem zNF : zab 403 Tab.t403 := by refine ⟨⟨Tryz.t403,?_,?_,?_,fun z h => h⟩,?_,?_⟩ <;> kernel_rfl
theorem zVz : zab 404 Tab.t404 := by refine ⟨⟨Tryz.t404,?_,?_,?_,fun z h => h⟩,?_,?_⟩ <;> kernel_rfl
theorem zOr : zab 405 Tab.t405 := by refine ⟨⟨Tryz.t405,?_,?_,?_,fun z h => h⟩,?_,?_⟩ <;> kernel_rfl
theorem zNc : zab 406 Tab.t406 := by refine ⟨⟨Tryz.t406,?_,?_,?_,fun z h => h⟩,?_,?_⟩ <;> kernel_rfl
theorem zRi : zab 407 Tab.t407 := by refine ⟨⟨Tryz.t407,?_,?_,?_,fun z h => h⟩,?_,?_⟩ <;> kernel_rfl
theorem zMC : zab 408 Tab.t408 := by refine ⟨⟨Tryz.t408,?_,?_,?_,fun z h => h⟩,?_,?_⟩ <;> kernel_rfl
theorem zSo : zab 409 Tab.t409 := by refine ⟨⟨Tryz.t409,?_,?_,?_,fun z h => h⟩,?_,?_⟩ <;> kernel_rfl
theorem zUN : zab 410 Tab.t410 := by refine ⟨⟨Tryz.t410,?_,?_,?_,fun z h => h⟩,?_,?_⟩ <;> kernel_rfl
theorem zQR : zab 411 Tab.t411 := by refine ⟨⟨Tryz.t411,?_,?_,?_,fun z h => h⟩,?_,?_⟩ <;> kernel_rfl
theorem zTN : zab 412 Tab.t412 := by refine ⟨⟨Tryz.t412,?_,?_,?_,fun z h => h⟩,?_,?_⟩ <;> kernel_rfl
theorem zVa : zab 413 Tab.t413 := by refine ⟨⟨Tryz.t413,?_,?_,?_,fun z h => h⟩,?_,?_⟩ <;> kernel_rfl
theorem zPS : zab 414 Tab.t414 := by refine ⟨⟨Tryz.t414,?_,?_,?_,fun z h => h⟩,?_,?_⟩ <;> kernel_rfl
theorem zVk : zab 415 Tab.t415 := by refine ⟨⟨Tryz.t415,?_,?_,?_,fun z h => h⟩,?_,?_⟩ <;> kernel_rfl
theorem zMJ : zab 416 Tab.t416 := by refine ⟨⟨Tryz.t416,?_,?_,?_,fun z h => h⟩,?_,?_⟩ <;> kernel_rfl
theorem zSm : zab 417 Tab.t417 := by refine ⟨⟨Tryz.t417,?_,?_,?_,fun z h => h⟩,?_,?_⟩ <;> kernel_rfl
theorem zQa : zab 418 Tab.t418 := by refine ⟨⟨Tryz.t418,?_,?_,?_,fun z h => h⟩,?_,?_⟩ <;> kernel_rfl
theorem zNe : zab 419 Tab.t419 := by refine ⟨⟨Tryz.t419,?_,?_,?_,fun z h => h⟩,?_,?_⟩ <;> kernel_rfl
theorem zUV : zab 420 Tab.t420 := by refine ⟨⟨Tryz.t420,?_,?_,?_,fun z h => h⟩,?_,?_⟩ <;> kernel_rfl
theorem zQl : zab 421 Tab.t421 := by refine ⟨⟨Tryz.t421,?_,?_,?_,fun z h => h⟩,?_,?_⟩ <;> kernel_rfl
theorem zQL : zab 422 Tab.t422 := by refine ⟨⟨Tryz.t422,?_,?_,?_,fun z h => h⟩,?_,?_⟩ <;> kernel_rfl
theorem zMG : zab 423 Tab.t423 := by refine ⟨⟨Tryz.t423,?_,?_,?_,fun z h => h⟩,?_,?_⟩ <;> kernel_rfl
theorem zVQ : zab 424 Tab.t424 := by refine ⟨⟨Tryz.t424,?_,?_,?_,fun z h => h⟩,?_,?_⟩ <;> kernel_rfl
theorem zTV : zab 425 Tab.t425 := by refine ⟨⟨Tryz.t425,?_,?_,?_,fun z h => h⟩,?_,?_⟩ <;> kernel_rfl
theorem zUG : zab 426 Tab.t426 := by refine ⟨⟨Tryz.t426,?_,?_,?_,fun z h => h⟩,?_,?_⟩ <;> kernel_rfl
theorem zNo : zab 427 Tab.t427 := by refine ⟨⟨Tryz.t427,?_,?_,?_,fun z h => h⟩,?_,?_⟩ <;> kernel_rfl
theorem zVE : zab 428 Tab.t428 := by refine ⟨⟨Tryz.t428,?_,?_,?_,fun z h => h⟩,?_,?_⟩ <;> kernel_rfl
theorem zQe : zab 429 Tab.t429 := by refine ⟨⟨Tryz.t429,?_,?_,?_,fun z h => by cases h⟩,?_,?_⟩ <;> kernel_rfl
theorem zNz : zab 430 Tab.t430 := by refine ⟨⟨Tryz.t430,?_,?_,?_,fun z h => h⟩,?_,?_⟩ <;> kernel_rfl
theorem zOS : zab 431 Tab.t431 := by refine ⟨⟨Tryz.t431,?_,?_,?_,fun z h => h⟩,?_,?_⟩ <;> kernel_rfl
theorem zMU : zab 432 Tab.t432 := by refine ⟨⟨Tryz.t432,?_,?_,?_,fun z h => h⟩,?_,?_⟩ <;> kernel_rfl
theorem zUW : zab 433 Tab.t433 := by refine ⟨⟨Tryz.t433,?_,?_,?_,fun z h => h⟩,?_,?_⟩ <;> kernel_rfl
theorem zZk : AllFrom zab 372 [Tab.t372,Tab.t373,Tab.t374,Tab.t375,Tab.t376,Tab.t377,Tab.t378,Tab.t379,Tab.t380,Tab.t381,Tab.t382,Tab.t383,Tab.t384,Tab.t385,Tab.t386,Tab.t387,Tab.t388,Tab.t389,Tab.t390,Tab.t391,Tab.t392,Tab.t393,Tab.t394,Tab.t395,Tab.t396,Tab.t397,Tab.t398,Tab.t399,Tab.t400,Tab.t401,Tab.t402,Tab.t403,Tab.t404,Tab.t405,Tab.t406,Tab.t407,Tab.t408,Tab.t409,Tab.t410,Tab.t411,Tab.t412,Tab.t413,Tab.t414,Tab.t415,Tab.t416,Tab.t417,Tab.t418,Tab.t419,Tab.t420,Tab.t421,Tab.t422,Tab.t423,Tab.t424,Tab.t425,Tab.t426,Tab.t427,Tab.t428,Tab.t429,Tab.t430,Tab.t431,Tab.t432,Tab.t433] := .cons zSa (.cons zOj (.cons zRk (.cons zVc (.cons zVo (.cons zNL (.cons zTL (.cons zSM (.cons zSS (.cons zSs (.cons zNE (.cons zML (.cons zUk (.cons zRY (.cons zPE (.cons zWr (.cons zPQ (.cons zQK (.cons zTU (.cons zVN (.cons zUy (.cons zNX (.cons zQf (.cons zOm (.cons zPh (.cons zUv (.cons zPb (.cons zUR (.cons zPq (.cons zPe (.cons zSL (.cons zNF (.cons zVz (.cons zOr (.cons zNc (.cons zRi (.cons zMC (.cons zSo (.cons zUN (.cons zQR (.cons zTN (.cons zVa (.cons zPS (.cons zVk (.cons zMJ (.cons zSm (.cons zQa (.cons zNe (.cons zUV (.cons zQl (.cons zQL (.cons zMG (.cons zVQ (.cons zTV (.cons zUG (.cons zNo (.cons zVE (.cons zQe (.cons zNz (.cons zOS (.cons zMU (.cons zUW (.nil 434))))))))))))))))))))))))))))))))))))))))))))))))))))))))))))))
end Go.Proofs.YtgdkljcnebaiiaaGreat

namespace Go.Proofs.YtgdkljcnebaiiaaGreat
open Go Go.Sim
set_option maxRecDepth 100000
theorem zQw : zab 434 Tab.t434 := by refine ⟨⟨Tryz.t434,?_,?_,?_,fun z h => h⟩,?_,?_⟩ <;> kernel_rfl
theorem zTR : zab 435 Tab.t435 := by refine ⟨⟨Tryz.t435,?_,?_,?_,fun z h => h⟩,?_,?_⟩ <;> kernel_rfl
theorem zPD : zab 436 Tab.t436 := by refine ⟨⟨Tryz.t436,?_,?_,?_,fun z h => h⟩,?_,?_⟩ <;> kernel_rfl
theorem zPF : zab 437 Tab.t437 := by refine ⟨⟨Tryz.t437,?_,?_,?_,fun z h => h⟩,?_,?_⟩ <;> kernel_rfl
theorem zNl : zab 438 Tab.t438 := by refine ⟨⟨Tryz.t438,?_,?_,?_,fun z h => h⟩,?_,?_⟩ <;> kernel_rfl
theorem zWk : zab 439 Tab.t439 := by refine ⟨⟨Tryz.t439,?_,?_,?_,fun z h => h⟩,?_,?_⟩ <;> kernel_rfl
theorem zVh : zab 440 Tab.t440 := by refine ⟨⟨Tryz.t440,?_,?_,?_,fun z h => h⟩,?_,?_⟩ <;> kernel_rfl
theorem zQA : zab 441 Tab.t441 := by refine ⟨⟨Tryz.t441,?_,?_,?_,fun z h => h⟩,?_,?_⟩ <;> kernel_rfl
theorem zUr : zab 442 Tab.t442 := by refine ⟨⟨Tryz.t442,?_,?_,?_,fun z h => h⟩,?_,?_⟩ <;> kernel_rfl
theorem zNy : zab 443 Tab.t443 := by refine ⟨⟨Tryz.t443,?_,?_,?_,fun z h => h⟩,?_,?_⟩ <;> kernel_rfl
theorem zWm : zab 444 Tab.t444 := by refine ⟨⟨Tryz.t444,?_,?_,?_,fun z h => h⟩,?_,?_⟩ <;> kernel_rfl
theorem zVj : zab 445 Tab.t445 := by refine ⟨⟨Tryz.t445,?_,?_,?_,fun z h => h⟩,?_,?_⟩ <;> kernel_rfl
theorem xki : AllFrom zab 434 [Tab.t434,Tab.t435,Tab.t436,Tab.t437,Tab.t438,Tab.t439,Tab.t440,Tab.t441,Tab.t442,Tab.t443,Tab.t444,Tab.t445] := .cons zQw (.cons zTR (.cons zPD (.cons zPF (.cons zNl (.cons zWk (.cons zVh (.cons zQA (.cons zUr (.cons zNy (.cons zWm (.cons zVj (.nil 446))))))))))))
end Go.Proofs.YtgdkljcnebaiiaaGreat

namespace Go.Proofs.YtgdkljcnebaiiaaGreat
open Go Go.Sim
set_option maxRecDepth 100000
theorem zYu : AllFrom zhy 0 [Tryz.f0,Tryz.f1,Tryz.f2,Tryz.f3,Tryz.f4,Tryz.f5,Tryz.f6,Tryz.f7,Tryz.f8,Tryz.f9,Tryz.f10,Tryz.f11,Tryz.f12,Tryz.f13,Tryz.f14,Tryz.f15,Tryz.f16,Tryz.f17,Tryz.f18,Tryz.f19,Tryz.f20,Tryz.f21,Tryz.f22,Tryz.f23,Tryz.f24,Tryz.f25,Tryz.f26,Tryz.f27,Tryz.f28,Tryz.f29,Tryz.f30,Tryz.f31,Tryz.f32,Tryz.f33,Tryz.f34,Tryz.f35,Tryz.f36,Tryz.f37,Tryz.f38,Tryz.f39,Tryz.f40,Tryz.f41,Tryz.f42,Tryz.f43,Tryz.f44,Tryz.f45,Tryz.f46,Tryz.f47,Tryz.f48,Tryz.f49,Tryz.f50,Tryz.f51,Tryz.f52,Tryz.f53,Tryz.f54,Tryz.f55,Tryz.f56,Tryz.f57,Tryz.f58,Tryz.f59,Tryz.f60,Tryz.f61] := .cons ⟨Tryz.func0,fun h => absurd h (by rw [show Tryz.f0.body.isSome = false by kernel_rfl]; simp)⟩ (.cons ⟨Tryz.func1,fun h => absurd h (by rw [show Tryz.f1.body.isSome = false by kernel_rfl]; simp)⟩ (.cons ⟨Tryz.func2,fun _ => Tryz.call2⟩ (.cons ⟨Tryz.func3,fun _ => Tryz.call3⟩ (.cons ⟨Tryz.func4,fun _ => Tryz.call4⟩ (.cons ⟨Tryz.func5,fun _ => Tryz.call5⟩ (.cons ⟨Tryz.func6,fun _ => Tryz.call6⟩ (.cons ⟨Tryz.func7,fun _ => Tryz.call7⟩ (.cons ⟨Tryz.func8,fun _ => Tryz.call8⟩ (.cons ⟨Tryz.func9,fun _ => Tryz.call9⟩ (.cons ⟨Tryz.func10,fun _ => Tryz.call10⟩ (.cons ⟨Tryz.func11,fun _ => Tryz.call11⟩ (.cons ⟨Tryz.func12,fun _ => Tryz.call12⟩ (.cons ⟨Tryz.func13,fun _ => Tryz.call13⟩ (.cons ⟨Tryz.func14,fun _ => Tryz.call14⟩ (.cons ⟨Tryz.func15,fun _ => Tryz.call15⟩ (.cons ⟨Tryz.func16,fun _ => Tryz.call16⟩ (.cons ⟨Tryz.func17,fun _ => Tryz.call17⟩ (.cons ⟨Tryz.func18,fun _ => Tryz.call18⟩ (.cons ⟨Tryz.func19,fun _ => Tryz.call19⟩ (.cons ⟨Tryz.func20,fun _ => Tryz.call20⟩ (.cons ⟨Tryz.func21,fun _ => Tryz.call21⟩ (.cons ⟨Tryz.func22,fun _ => Tryz.call22⟩ (.cons ⟨Tryz.func23,fun _ => Tryz.call23⟩ (.cons ⟨Tryz.func24,fun _ => Tryz.call24⟩ (.cons ⟨Tryz.func25,fun _ => Tryz.call25⟩ (.cons ⟨Tryz.func26,fun _ => Tryz.call26⟩ (.cons ⟨Tryz.func27,fun _ => Tryz.call27⟩ (.cons ⟨Tryz.func28,fun _ => Tryz.call28⟩ (.cons ⟨Tryz.func29,fun _ => Tryz.call29⟩ (.cons ⟨Tryz.func30,fun _ => Tryz.call30⟩ (.cons ⟨Tryz.func31,fun _ => Tryz.call31⟩ (.cons ⟨Tryz.func32,fun _ => Tryz.call32⟩ (.cons ⟨Tryz.func33,fun _ => Tryz.call33⟩ (.cons ⟨Tryz.func34,fun h => absurd h (by rw [show Tryz.f34.body.isSome = false by kernel_rfl]; simp)⟩ (.cons ⟨Tryz.func35,fun _ => Tryz.call35⟩ (.cons ⟨Tryz.func36,fun _ => Tryz.call36⟩ (.cons ⟨Tryz.func37,fun _ => Tryz.call37⟩ (.cons ⟨Tryz.func38,fun _ => Tryz.call38⟩ (.cons ⟨Tryz.func39,fun _ => Tryz.call39⟩ (.cons ⟨Tryz.func40,fun _ => Tryz.call40⟩ (.cons ⟨Tryz.func41,fun _ => Tryz.call41⟩ (.cons ⟨Tryz.func42,fun _ => Tryz.call42⟩ (.cons ⟨Tryz.func43,fun _ => Tryz.call43⟩ (.cons ⟨Tryz.func44,fun _ => Tryz.call44⟩ (.cons ⟨Tryz.func45,fun _ => Tryz.call45⟩ (.cons ⟨Tryz.func46,fun _ => Tryz.call46⟩ (.cons ⟨Tryz.func47,fun _ => Tryz.call47⟩ (.cons ⟨Tryz.func48,fun _ => Tryz.call48⟩ (.cons ⟨Tryz.func49,fun _ => Tryz.call49⟩ (.cons ⟨Tryz.func50,fun _ => Tryz.call50⟩ (.cons ⟨Tryz.func51,fun _ => Tryz.call51⟩ (.cons ⟨Tryz.func52,fun _ => Tryz.call52⟩ (.cons ⟨Tryz.func53,fun h => absurd h (by rw [show Tryz.f53.body.isSome = false by kernel_rfl]; simp)⟩ (.cons ⟨Tryz.func54,fun _ => Tryz.call54⟩ (.cons ⟨Tryz.func55,fun _ => Tryz.call55⟩ (.cons ⟨Tryz.func56,fun _ => Tryz.call56⟩ (.cons ⟨Tryz.func57,fun _ => Tryz.call57⟩ (.cons ⟨Tryz.func58,fun _ => Tryz.call58⟩ (.cons ⟨Tryz.func59,fun h => absurd h (by rw [show Tryz.f59.body.isSome = false by kernel_rfl]; simp)⟩ (.cons ⟨Tryz.func60,fun _ => Tryz.call60⟩ (.cons ⟨Tryz.func61,fun h => absurd h (by rw [show Tryz.f61.body.isSome = false by kernel_rfl]; simp)⟩ (.nil 62))))))))))))))))))))))))))))))))))))))))))))))))))))))))))))))
theorem xjt : AllFrom zhy 62 [Tryz.f62,Tryz.f63,Tryz.f64,Tryz.f65,Tryz.f66,Tryz.f67,Tryz.f68,Tryz.f69,Tryz.f70,Tryz.f71,Tryz.f72,Tryz.f73,Tryz.f74,Tryz.f75,Tryz.f76,Tryz.f77,Tryz.f78,Tryz.f79,Tryz.f80,Tryz.f81,Tryz.f82,Tryz.f83,Tryz.f84,Tryz.f85,Tryz.f86,Tryz.f87,Tryz.f88,Tryz.f89,Tryz.f90,Tryz.f91,Tryz.f92,Tryz.f93,Tryz.f94,Tryz.f95,Tryz.f96,Tryz.f97,Tryz.f98,Tryz.f99,Tryz.f100,Tryz.f101,Tryz.f102,Tryz.f103,Tryz.f104,Tryz.f105,Tryz.f106,Tryz.f107,Tryz.f108,Tryz.f109,Tryz.f110,Tryz.f111,Tryz.f112,Tryz.f113,Tryz.f114,Tryz.f115,Tryz.f116,Tryz.f117,Tryz.f118,Tryz.f119,Tryz.f120,Tryz.f121,Tryz.f122,Tryz.f123] := .cons ⟨Tryz.func62,fun _ => Tryz.call62⟩ (.cons ⟨Tryz.func63,fun _ => Tryz.call63⟩ (.cons ⟨Tryz.func64,fun _ => Tryz.call64⟩ (.cons ⟨Tryz.func65,fun _ => Tryz.call65⟩ (.cons ⟨Tryz.func66,fun _ => Tryz.call66⟩ (.cons ⟨Tryz.func67,fun _ => Tryz.call67⟩ (.cons ⟨Tryz.func68,fun _ => Tryz.call68⟩ (.cons ⟨Tryz.func69,fun _ => Tryz.call69⟩ (.cons ⟨Tryz.func70,fun _ => Tryz.call70⟩ (.cons ⟨Tryz.func71,fun _ => Tryz.call71⟩ (.cons ⟨Tryz.func72,fun _ => Tryz.call72⟩ (.cons ⟨Tryz.func73,fun _ => Tryz.call73⟩ (.cons ⟨Tryz.func74,fun _ => Tryz.call74⟩ (.cons ⟨Tryz.func75,fun _ => Tryz.call75⟩ (.cons ⟨Tryz.func76,fun _ => Tryz.call76⟩ (.cons ⟨Tryz.func77,fun _ => Tryz.call77⟩ (.cons ⟨Tryz.func78,fun _ => Tryz.call78⟩ (.cons ⟨Tryz.func79,fun _ => Tryz.call79⟩ (.cons ⟨Tryz.func80,fun _ => Tryz.call80⟩ (.cons ⟨Tryz.func81,fun _ => Tryz.call81⟩ (.cons ⟨Tryz.func82,fun _ => Tryz.call82⟩ (.cons ⟨Tryz.func83,fun _ => Tryz.call83⟩ (.cons ⟨Tryz.func84,fun _ => Tryz.call84⟩ (.cons ⟨Tryz.func85,fun _ => Tryz.call85⟩ (.cons ⟨Tryz.func86,fun _ => Tryz.call86⟩ (.cons ⟨Tryz.func87,fun _ => Tryz.call87⟩ (.cons ⟨Tryz.func88,fun _ => Tryz.call88⟩ (.cons ⟨Tryz.func89,fun _ => Tryz.call89⟩ (.cons ⟨Tryz.func90,fun _ => Tryz.call90⟩ (.cons ⟨Tryz.func91,fun _ => Tryz.call91⟩ (.cons ⟨Tryz.func92,fun _ => Tryz.call92⟩ (.cons ⟨Tryz.func93,fun _ => Tryz.call93⟩ (.cons ⟨Tryz.func94,fun _ => Tryz.call94⟩ (.cons ⟨Tryz.func95,fun _ => Tryz.call95⟩ (.cons ⟨Tryz.func96,fun _ => Tryz.call96⟩ (.cons ⟨Tryz.func97,fun _ => Tryz.call97⟩ (.cons ⟨Tryz.func98,fun _ => Tryz.call98⟩ (.cons ⟨Tryz.func99,fun _ => Tryz.call99⟩ (.cons ⟨Tryz.func100,fun _ => Tryz.call100⟩ (.cons ⟨Tryz.func101,fun _ => Tryz.call101⟩ (.cons ⟨Tryz.func102,fun _ => Tryz.call102⟩ (.cons ⟨Tryz.func103,fun _ => Tryz.call103⟩ (.cons ⟨Tryz.func104,fun _ => Tryz.call104⟩ (.cons ⟨Tryz.func105,fun _ => Tryz.call105⟩ (.cons ⟨Tryz.func106,fun _ => Tryz.call106⟩ (.cons ⟨Tryz.func107,fun _ => Tryz.call107⟩ (.cons ⟨Tryz.func108,fun _ => Tryz.call108⟩ (.cons ⟨Tryz.func109,fun _ => Tryz.call109⟩ (.cons ⟨Tryz.func110,fun _ => Tryz.call110⟩ (.cons ⟨Tryz.func111,fun _ => Tryz.call111⟩ (.cons ⟨Tryz.func112,fun _ => Tryz.call112⟩ (.cons ⟨Tryz.func113,fun _ => Tryz.call113⟩ (.cons ⟨Tryz.func114,fun _ => Tryz.call114⟩ (.cons ⟨Tryz.func115,fun _ => Tryz.call115⟩ (.cons ⟨Tryz.func116,fun _ => Tryz.call116⟩ (.cons ⟨Tryz.func117,fun h => absurd h (by rw [show Tryz.f117.body.isSome = false by kernel_rfl]; simp)⟩ (.cons ⟨Tryz.func118,fun _ => Tryz.call118⟩ (.cons ⟨Tryz.func119,fun _ => Tryz.call119⟩ (.cons ⟨Tryz.func120,fun _ => Tryz.call120⟩ (.cons ⟨Tryz.func121,fun _ => Tryz.call121⟩ (.cons ⟨Tryz.func122,fun _ => Tryz.call122⟩ (.cons ⟨Tryz.func123,fun _ => Tryz.call123⟩ (.nil 124))))))))))))))))))))))))))))))))))))))))))))))))))))))))))))))
theorem zYA : AllFrom zhy 124 [Tryz.f124,Tryz.f125,Tryz.f126,Tryz.f127,Tryz.f128,Tryz.f129,Tryz.f130,Tryz.f131,Tryz.f132,Tryz.f133,Tryz.f134,Tryz.f135,Tryz.f136,Tryz.f137,Tryz.f138,Tryz.f139,Tryz.f140,Tryz.f141,Tryz.f142,Tryz.f143,Tryz.f144,Tryz.f145,Tryz.f146,Tryz.f147,Tryz.f148,Tryz.f149,Tryz.f150,Tryz.f151,Tryz.f152,Tryz.f153,Tryz.f154,Tryz.f155,Tryz.f156,Tryz.f157,Tryz.f158,Tryz.f159,Tryz.f160,Tryz.f161,Tryz.f162,Tryz.f163,Tryz.f164,Tryz.f165,Tryz.f166,Tryz.f167,Tryz.f168,Tryz.f169,Tryz.f170,Tryz.f171,Tryz.f172,Tryz.f173,Tryz.f174,Tryz.f175,Tryz.f176,Tryz.f177,Tryz.f178,Tryz.f179,Tryz.f180,Tryz.f181,Tryz.f182,Tryz.f183,Tryz.f184,Tryz.f185] := .cons ⟨Tryz.func124,fun _ => Tryz.call124⟩ (.cons ⟨Tryz.func125,fun _ => Tryz.call125⟩ (.cons ⟨Tryz.func126,fun _ => Tryz.call126⟩ (.cons ⟨Tryz.func127,fun _ => Tryz.call127⟩ (.cons ⟨Tryz.func128,fun _ => Tryz.call128⟩ (.cons ⟨Tryz.func129,fun _ => Tryz.call129⟩ (.cons ⟨Tryz.func130,fun _ => Tryz.call130⟩ (.cons ⟨Tryz.func131,fun _ => Tryz.call131⟩ (.cons ⟨Tryz.func132,fun _ => Tryz.call132⟩ (.cons ⟨Tryz.func133,fun _ => Tryz.call133⟩ (.cons ⟨Tryz.func134,fun _ => Tryz.call134⟩ (.cons ⟨Tryz.func135,fun _ => Tryz.call135⟩ (.cons ⟨Tryz.func136,fun _ => Tryz.call136⟩ (.cons ⟨Tryz.func137,fun _ => Tryz.call137⟩ (.cons ⟨Tryz.func138,fun _ => Tryz.call138⟩ (.cons ⟨Tryz.func139,fun _ => Tryz.call139⟩ (.cons ⟨Tryz.func140,fun _ => Tryz.call140⟩ (.cons ⟨Tryz.func141,fun _ => Tryz.call141⟩ (.cons ⟨Tryz.func142,fun _ => Tryz.call142⟩ (.cons ⟨Tryz.func143,fun _ => Tryz.call143⟩ (.cons ⟨Tryz.func144,fun _ => Tryz.call144⟩ (.cons ⟨Tryz.func145,fun _ => Tryz.call145⟩ (.cons ⟨Tryz.func146,fun _ => Tryz.call146⟩ (.cons ⟨Tryz.func147,fun _ => Tryz.call147⟩ (.cons ⟨Tryz.func148,fun _ => Tryz.call148⟩ (.cons ⟨Tryz.func149,fun _ => Tryz.call149⟩ (.cons ⟨Tryz.func150,fun _ => Tryz.call150⟩ (.cons ⟨Tryz.func151,fun _ => Tryz.call151⟩ (.cons ⟨Tryz.func152,fun _ => Tryz.call152⟩ (.cons ⟨Tryz.func153,fun _ => Tryz.call153⟩ (.cons ⟨Tryz.func154,fun _ => Tryz.call154⟩ (.cons ⟨Tryz.func155,fun _ => Tryz.call155⟩ (.cons ⟨Tryz.func156,fun _ => Tryz.call156⟩ (.cons ⟨Tryz.func157,fun _ => Tryz.call157⟩ (.cons ⟨Tryz.func158,fun _ => Tryz.call158⟩ (.cons ⟨Tryz.func159,fun _ => Tryz.call159⟩ (.cons ⟨Tryz.func160,fun _ => Tryz.call160⟩ (.cons ⟨Tryz.func161,fun _ => Tryz.call161⟩ (.cons ⟨Tryz.func162,fun _ => Tryz.call162⟩ (.cons ⟨Tryz.func163,fun _ => Tryz.call163⟩ (.cons ⟨Tryz.func164,fun _ => Tryz.call164⟩ (.cons ⟨Tryz.func165,fun _ => Tryz.call165⟩ (.cons ⟨Tryz.func166,fun _ => Tryz.call166⟩ (.cons ⟨Tryz.func167,fun _ => Tryz.call167⟩ (.cons ⟨Tryz.func168,fun _ => Tryz.call168⟩ (.cons ⟨Tryz.func169,fun _ => Tryz.call169⟩ (.cons ⟨Tryz.func170,fun _ => Tryz.call170⟩ (.cons ⟨Tryz.func171,fun _ => Tryz.call171⟩ (.cons ⟨Tryz.func172,fun _ => Tryz.call172⟩ (.cons ⟨Tryz.func173,fun _ => Tryz.call173⟩ (.cons ⟨Tryz.func174,fun _ => Tryz.call174⟩ (.cons ⟨Tryz.func175,fun _ => Tryz.call175⟩ (.cons ⟨Tryz.func176,fun _ => Tryz.call176⟩ (.cons ⟨Tryz.func177,fun _ => Tryz.call177⟩ (.cons ⟨Tryz.func178,fun _ => Tryz.call178⟩ (.cons ⟨Tryz.func179,fun _ => Tryz.call179⟩ (.cons ⟨Tryz.func180,fun _ => Tryz.call180⟩ (.cons ⟨Tryz.func181,fun _ => Tryz.call181⟩ (.cons ⟨Tryz.func182,fun _ => Tryz.call182⟩ (.cons ⟨Tryz.func183,fun _ => Tryz.call183⟩ (.cons ⟨Tryz.func184,fun _ => Tryz.call184⟩ (.cons ⟨Tryz.func185,fun _ => Tryz.call185⟩ (.nil 186))))))))))))))))))))))))))))))))))))))))))))))))))))))))))))))
theorem xdb : AllFrom zhy 186 [Tryz.f186,Tryz.f187,Tryz.f188,Tryz.f189,Tryz.f190,Tryz.f191,Tryz.f192,Tryz.f193,Tryz.f194,Tryz.f195,Tryz.f196,Tryz.f197,Tryz.f198,Tryz.f199,Tryz.f200,Tryz.f201,Tryz.f202,Tryz.f203,Tryz.f204,Tryz.f205,Tryz.f206,Tryz.f207,Tryz.f208,Tryz.f209,Tryz.f210,Tryz.f211,Tryz.f212,Tryz.f213,Tryz.f214,Tryz.f215,Tryz.f216,Tryz.f217,Tryz.f218,Tryz.f219,Tryz.f220,Tryz.f221,Tryz.f222,Tryz.f223,Tryz.f224,Tryz.f225,Tryz.f226,Tryz.f227,Tryz.f228,Tryz.f229,Tryz.f230,Tryz.f231,Tryz.f232,Tryz.f233,Tryz.f234,Tryz.f235,Tryz.f236,Tryz.f237,Tryz.f238,Tryz.f239,Tryz.f240,Tryz.f241,Tryz.f242,Tryz.f243,Tryz.f244,Tryz.f245,Tryz.f246,Tryz.f247] := .cons ⟨Tryz.func186,fun _ => Tryz.call186⟩ (.cons ⟨Tryz.func187,fun h => absurd h (by rw [show Tryz.f187.body.isSome = false by kernel_rfl]; simp)⟩ (.cons ⟨Tryz.func188,fun _ => Tryz.call188⟩ (.cons ⟨Tryz.func189,fun _ => Tryz.call189⟩ (.cons ⟨Tryz.func190,fun _ => Tryz.call190⟩ (.cons ⟨Tryz.func191,fun h => absurd h (by rw [show Tryz.f191.body.isSome = false by kernel_rfl]; simp)⟩ (.cons ⟨Tryz.func192,fun _ => Tryz.call192⟩ (.cons ⟨Tryz.func193,fun _ => Tryz.call193⟩ (.cons ⟨Tryz.func194,fun _ => Tryz.call194⟩ (.cons ⟨Tryz.func195,fun _ => Tryz.call195⟩ (.cons ⟨Tryz.func196,fun _ => Tryz.call196⟩ (.cons ⟨Tryz.func197,fun _ => Tryz.call197⟩ (.cons ⟨Tryz.func198,fun _ => Tryz.call198⟩ (.cons ⟨Tryz.func199,fun _ => Tryz.call199⟩ (.cons ⟨Tryz.func200,fun _ => Tryz.call200⟩ (.cons ⟨Tryz.func201,fun _ => Tryz.call201⟩ (.cons ⟨Tryz.func202,fun _ => Tryz.call202⟩ (.cons ⟨Tryz.func203,fun h => absurd h (by rw [show Tryz.f203.body.isSome = false by kernel_rfl]; simp)⟩ (.cons ⟨Tryz.func204,fun _ => Tryz.call204⟩ (.cons ⟨Tryz.func205,fun h => absurd h (by rw [show Tryz.f205.body.isSome = false by kernel_rfl]; simp)⟩ (.cons ⟨Tryz.func206,fun h => absurd h (by rw [show Tryz.f206.body.isSome = false by kernel_rfl]; simp)⟩ (.cons ⟨Tryz.func207,fun _ => Tryz.call207⟩ (.cons ⟨Tryz.func208,fun _ => Tryz.call208⟩ (.cons ⟨Tryz.func209,fun h => absurd h (by rw [show Tryz.f209.body.isSome = false by kernel_rfl]; simp)⟩ (.cons ⟨Tryz.func210,fun h => absurd h (by rw [show Tryz.f210.body.isSome = false by kernel_rfl]; simp)⟩ (.cons ⟨Tryz.func211,fun _ => Tryz.call211⟩ (.cons ⟨Tryz.func212,fun h => absurd h (by rw [show Tryz.f212.body.isSome = false by kernel_rfl]; simp)⟩ (.cons ⟨Tryz.func213,fun _ => Tryz.call213⟩ (.cons ⟨Tryz.func214,fun _ => Tryz.call214⟩ (.cons ⟨Tryz.func215,fun _ => Tryz.call215⟩ (.cons ⟨Tryz.func216,fun _ => Tryz.call216⟩ (.cons ⟨Tryz.func217,fun h => absurd h (by rw [show Tryz.f217.body.isSome = false by kernel_rfl]; simp)⟩ (.cons ⟨Tryz.func218,fun _ => Tryz.call218⟩ (.cons ⟨Tryz.func219,fun _ => Tryz.call219⟩ (.cons ⟨Tryz.func220,fun _ => Tryz.call220⟩ (.cons ⟨Tryz.func221,fun _ => Tryz.call221⟩ (.cons ⟨Tryz.func222,fun _ => Tryz.call222⟩ (.cons ⟨Tryz.func223,fun _ => Tryz.call223⟩ (.cons ⟨Tryz.func224,fun _ => Tryz.call224⟩ (.cons ⟨Tryz.func225,fun _ => Tryz.call225⟩ (.cons ⟨Tryz.func226,fun _ => Tryz.call226⟩ (.cons ⟨Tryz.func227,fun _ => Tryz.call227⟩ (.cons ⟨Tryz.func228,fun _ => Tryz.call228⟩ (.cons ⟨Tryz.func229,fun _ => Tryz.call229⟩ (.cons ⟨Tryz.func230,fun _ => Tryz.call230⟩ (.cons ⟨Tryz.func231,fun _ => Tryz.call231⟩ (.cons ⟨Tryz.func232,fun _ => Tryz.call232⟩ (.cons ⟨Tryz.func233,fun _ => Tryz.call233⟩ (.cons ⟨Tryz.func234,fun _ => Tryz.call234⟩ (.cons ⟨Tryz.func235,fun _ => Tryz.call235⟩ (.cons ⟨Tryz.func236,fun _ => Tryz.call236⟩ (.cons ⟨Tryz.func237,fun _ => Tryz.call237⟩ (.cons ⟨Tryz.func238,fun _ => Tryz.call238⟩ (.cons ⟨Tryz.func239,fun _ => Tryz.call239⟩ (.cons ⟨Tryz.func240,fun _ => Tryz.call240⟩ (.cons ⟨Tryz.func241,fun _ => Tryz.call241⟩ (.cons ⟨Tryz.func242,fun _ => Tryz.call242⟩ (.cons ⟨Tryz.func243,fun _ => Tryz.call243⟩ (.cons ⟨Tryz.func244,fun _ => Tryz.call244⟩ (.cons ⟨Tryz.func245,fun _ => Tryz.call245⟩ (.cons ⟨Tryz.func246,fun _ => Tryz.call246⟩ (.cons ⟨Tryz.func247,fun _ => Tryz.call247⟩ (.nil 248))))))))))))))))))))))))))))))))))))))))))))))))))))))))))))))
theorem xhE : AllFrom zhy 248 [Tryz.f248,Tryz.f249,Tryz.f250,Tryz.f251,Tryz.f252,Tryz.f253,Tryz.f254,Tryz.f255,Tryz.f256,Tryz.f257,Tryz.f258,Tryz.f259,Tryz.f260,Tryz.f261,Tryz.f262,Tryz.f263,Tryz.f264,Tryz.f265,Tryz.f266,Tryz.f267,Tryz.f268,Tryz.f269,Tryz.f270,Tryz.f271,Tryz.f272,Tryz.f273,Tryz.f274,Tryz.f275,Tryz.f276,Tryz.f277,Tryz.f278,Tryz.f279,Tryz.f280,Tryz.f281,Tryz.f282,Tryz.f283,Tryz.f284,Tryz.f285,Tryz.f286,Tryz.f287,Tryz.f288,Tryz.f289,Tryz.f290,Tryz.f291,Tryz.f292,Tryz.f293,Tryz.f294,Tryz.f295,Tryz.f296,Tryz.f297,Tryz.f298,Tryz.f299,Tryz.f300,Tryz.f301,Tryz.f302,Tryz.f303,Tryz.f304,Tryz.f305,Tryz.f306,Tryz.f307,Tryz.f308,Tryz.f309] := .cons ⟨Tryz.func248,fun _ => Tryz.call248⟩ (.cons ⟨Tryz.func249,fun _ => Tryz.call249⟩ (.cons ⟨Tryz.func250,fun _ => Tryz.call250⟩ (.cons ⟨Tryz.func251,fun _ => Tryz.call251⟩ (.cons ⟨Tryz.func252,fun _ => Tryz.call252⟩ (.cons ⟨Tryz.func253,fun _ => Tryz.call253⟩ (.cons ⟨Tryz.func254,fun _ => Tryz.call254⟩ (.cons ⟨Tryz.func255,fun _ => Tryz.call255⟩ (.cons ⟨Tryz.func256,fun _ => Tryz.call256⟩ (.cons ⟨Tryz.func257,fun _ => Tryz.call257⟩ (.cons ⟨Tryz.func258,fun _ => Tryz.call258⟩ (.cons ⟨Tryz.func259,fun _ => Tryz.call259⟩ (.cons ⟨Tryz.func260,fun h => absurd h (by rw [show Tryz.f260.body.isSome = false by kernel_rfl]; simp)⟩ (.cons ⟨Tryz.func261,fun h => absurd h (by rw [show Tryz.f261.body.isSome = false by kernel_rfl]; simp)⟩ (.cons ⟨Tryz.func262,fun _ => Tryz.call262⟩ (.cons ⟨Tryz.func263,fun _ => Tryz.call263⟩ (.cons ⟨Tryz.func264,fun _ => Tryz.call264⟩ (.cons ⟨Tryz.func265,fun h => absurd h (by rw [show Tryz.f265.body.isSome = false by kernel_rfl]; simp)⟩ (.cons ⟨Tryz.func266,fun h => absurd h (by rw [show Tryz.f266.body.isSome = false by kernel_rfl]; simp)⟩ (.cons ⟨Tryz.func267,fun _ => Tryz.call267⟩ (.cons ⟨Tryz.func268,fun _ => Tryz.call268⟩ (.cons ⟨Tryz.func269,fun _ => Tryz.call269⟩ (.cons ⟨Tryz.func270,fun _ => Tryz.call270⟩ (.cons ⟨Tryz.func271,fun _ => Tryz.call271⟩ (.cons ⟨Tryz.func272,fun _ => Tryz.call272⟩ (.cons ⟨Tryz.func273,fun _ => Tryz.call273⟩ (.cons ⟨Tryz.func274,fun _ => Tryz.call274⟩ (.cons ⟨Tryz.func275,fun _ => Tryz.call275⟩ (.cons ⟨Tryz.func276,fun _ => Tryz.call276⟩ (.cons ⟨Tryz.func277,fun _ => Tryz.call277⟩ (.cons ⟨Tryz.func278,fun _ => Tryz.call278⟩ (.cons ⟨Tryz.func279,fun _ => Tryz.call279⟩ (.cons ⟨Tryz.func280,fun _ => Tryz.call280⟩ (.cons ⟨Tryz.func281,fun _ => Tryz.call281⟩ (.cons ⟨Tryz.func282,fun _ => Tryz.call282⟩ (.cons ⟨Tryz.func283,fun _ => Tryz.call283⟩ (.cons ⟨Tryz.func284,fun _ => Tryz.call284⟩ (.cons ⟨Tryz.func285,fun _ => Tryz.call285⟩ (.cons ⟨Tryz.func286,fun _ => Tryz.call286⟩ (.cons ⟨Tryz.func287,fun _ => Tryz.call287⟩ (.cons ⟨Tryz.func288,fun _ => Tryz.call288⟩ (.cons ⟨Tryz.func289,fun _ => Tryz.call289⟩ (.cons ⟨Tryz.func290,fun _ => Tryz.call290⟩ (.cons ⟨Tryz.func291,fun _ => Tryz.call291⟩ (.cons ⟨Tryz.func292,fun _ => Tryz.call292⟩ (.cons ⟨Tryz.func293,fun h => absurd h (by rw [show Tryz.f293.body.isSome = false by kernel_rfl]; simp)⟩ (.cons ⟨Tryz.func294,fun _ => Tryz.call294⟩ (.cons ⟨Tryz.func295,fun _ => Tryz.call295⟩ (.cons ⟨Tryz.func296,fun _ => Tryz.call296⟩ (.cons ⟨Tryz.func297,fun _ => Tryz.call297⟩ (.cons ⟨Tryz.func298,fun _ => Tryz.call298⟩ (.cons ⟨Tryz.func299,fun _ => Tryz.call299⟩ (.cons ⟨Tryz.func300,fun _ => Tryz.call300⟩ (.cons ⟨Tryz.func301,fun _ => Tryz.call301⟩ (.cons ⟨Tryz.func302,fun _ => Tryz.call302⟩ (.cons ⟨Tryz.func303,fun _ => Tryz.call303⟩ (.cons ⟨Tryz.func304,fun _ => Tryz.call304⟩ (.cons ⟨Tryz.func305,fun h => absurd h (by rw [show Tryz.f305.body.isSome = false by kernel_rfl]; simp)⟩ (.cons ⟨Tryz.func306,fun _ => Tryz.call306⟩ (.cons ⟨Tryz.func307,fun _ => Tryz.call307⟩ (.cons ⟨Tryz.func308,fun _ => Tryz.call308⟩ (.cons ⟨Tryz.func309,fun _ => Tryz.call309⟩ (.nil 310))))))))))))))))))))))))))))))))))))))))))))))))))))))))))))))
theorem xbg : AllFrom zhy 310 [Tryz.f310,Tryz.f311,Tryz.f312,Tryz.f313,Tryz.f314,Tryz.f315,Tryz.f316,Tryz.f317,Tryz.f318,Tryz.f319,Tryz.f320,Tryz.f321,Tryz.f322,Tryz.f323,Tryz.f324,Tryz.f325,Tryz.f326,Tryz.f327,Tryz.f328,Tryz.f329,Tryz.f330,Tryz.f331,Tryz.f332,Tryz.f333,Tryz.f334,Tryz.f335,Tryz.f336,Tryz.f337,Tryz.f338,Tryz.f339] := .cons ⟨Tryz.func310,fun _ => Tryz.call310⟩ (.cons ⟨Tryz.func311,fun _ => Tryz.call311⟩ (.cons ⟨Tryz.func312,fun h => absurd h (by rw [show Tryz.f312.body.isSome = false by kernel_rfl]; simp)⟩ (.cons ⟨Tryz.func313,fun h => absurd h (by rw [show Tryz.f313.body.isSome = false by kernel_rfl]; simp)⟩ (.cons ⟨Tryz.func314,fun _ => Tryz.call314⟩ (.cons ⟨Tryz.func315,fun _ => Tryz.call315⟩ (.cons ⟨Tryz.func316,fun _ => Tryz.call316⟩ (.cons ⟨Tryz.func317,fun _ => Tryz.call317⟩ (.cons ⟨Tryz.func318,fun _ => Tryz.call318⟩ (.cons ⟨Tryz.func319,fun _ => Tryz.call319⟩ (.cons ⟨Tryz.func320,fun _ => Tryz.call320⟩ (.cons ⟨Tryz.func321,fun _ => Tryz.call321⟩ (.cons ⟨Tryz.func322,fun h => absurd h (by rw [show Tryz.f322.body.isSome = false by kernel_rfl]; simp)⟩ (.cons ⟨Tryz.func323,fun h => absurd h (by rw [show Tryz.f323.body.isSome = false by kernel_rfl]; simp)⟩ (.cons ⟨Tryz.func324,fun h => absurd h (by rw [show Tryz.f324.body.isSome = false by kernel_rfl]; simp)⟩ (.cons ⟨Tryz.func325,fun h => absurd h (by rw [show Tryz.f325.body.isSome = false by kernel_rfl]; simp)⟩ (.cons ⟨Tryz.func326,fun h => absurd h (by rw [show Tryz.f326.body.isSome = false by kernel_rfl]; simp)⟩ (.cons ⟨Tryz.func327,fun h => absurd h (by rw [show Tryz.f327.body.isSome = false by kernel_rfl]; simp)⟩ (.cons ⟨Tryz.func328,fun h => absurd h (by rw [show Tryz.f328.body.isSome = false by kernel_rfl]; simp)⟩ (.cons ⟨Tryz.func329,fun h => absurd h (by rw [show Tryz.f329.body.isSome = false by kernel_rfl]; simp)⟩ (.cons ⟨Tryz.func330,fun h => absurd h (by rw [show Tryz.f330.body.isSome = false by kernel_rfl]; simp)⟩ (.cons ⟨Tryz.func331,fun h => absurd h (by rw [show Tryz.f331.body.isSome = false by kernel_rfl]; simp)⟩ (.cons ⟨Tryz.func332,fun h => absurd h (by rw [show Tryz.f332.body.isSome = false by kernel_rfl]; simp)⟩ (.cons ⟨Tryz.func333,fun h => absurd h (by rw [show Tryz.f333.body.isSome = false by kernel_rfl]; simp)⟩ (.cons ⟨Tryz.func334,fun h => absurd h (by rw [show Tryz.f334.body.isSome = false by kernel_rfl]; simp)⟩ (.cons ⟨Tryz.func335,fun h => absurd h (by rw [show Tryz.f335.body.isSome = false by kernel_rfl]; simp)⟩ (.cons ⟨Tryz.func336,fun h => absurd h (by rw [show Tryz.f336.body.isSome = false by kernel_rfl]; simp)⟩ (.cons ⟨Tryz.func337,fun h => absurd h (by rw [show Tryz.f337.body.isSome = false by kernel_rfl]; simp)⟩ (.cons ⟨Tryz.func338,fun h => absurd h (by rw [show Tryz.f338.body.isSome = false by kernel_rfl]; simp)⟩ (.cons ⟨Tryz.func339,fun h => absurd h (by rw [show Tryz.f339.body.isSome = false by kernel_rfl]; simp)⟩ (.nil 340))))))))))))))))))))))))))))))
theorem zTv : AllFrom zab 0 Tab.typeList := (zZt.append (zZm.append (xfQ.append (zWP.append (xbt.append (zZO.append (zZk.append xki)))))))
theorem zAe : AllFrom zhy 0 Tab.funcList := (zYu.append (xjt.append (zYA.append (xdb.append (xhE.append xbg)))))
theorem zyy : Tab.types = Tr.ofL 33 Tab.typeList := by kernel_rfl
theorem zrD : Tab.funcs = Tr.ofL 33 Tab.funcList := by kernel_rfl
end Go.Proofs.YtgdkljcnebaiiaaGreat

namespace Go.Proofs.YtgdkljcnebaiiaaGreat
open Go Go.Sim
set_option maxRecDepth 100000

theorem zwf (n : Nat) (a c : Int) (w : World) : (Op.equalIn (n + 1) 3 (.int .i64 a) (.int .i64 c)).run Tryz.prog w = .ok (a == c) w := by
 unfold Op.equalIn
 rw [Sem.run_bind,run_underlying Tryz.underlying3]
 simp
theorem zBP (a b c d : Int) (w : World) : (Op.equal 122 (.agg #[.int .i64 a,.int .i64 b]) (.agg #[.int .i64 c,.int .i64 d])).run Tryz.prog w = .ok ((a == c) && (b == d)) w := by
 unfold Op.equal Op.maxDepth Op.equalIn
 rw [Sem.run_bind,run_underlying Tryz.underlying122]
 simp only [Result.andThen_ok]
 simp [part,run_underlying Tryz.underlying3,zwf,Go.isAgg,Go.sizeOf]
 by_cases h1 : a = c <;> by_cases h2 : b = d <;> simp [h1,h2]
theorem zwS (a b e c d f : Int) (w : World) : (Op.equal 37 (.agg #[.int .i64 a,.int .i64 b,.int .i64 e]) (.agg #[.int .i64 c,.int .i64 d,.int .i64 f])).run Tryz.prog w = .ok ((a == c) && ((b == d) && (e == f))) w := by
 unfold Op.equal Op.maxDepth Op.equalIn
 rw [Sem.run_bind,run_underlying Tryz.underlying37]
 simp only [Result.andThen_ok]
 simp [part,run_underlying Tryz.underlying3,zwf,Go.isAgg,Go.sizeOf]
 by_cases h1 : a = c <;> by_cases h2 : b = d <;> by_cases h3 : e = f <;> simp [h1,h2,h3]
theorem zyh (a b : Int) (empty : Bool) (w : World) : (Instr.checkKey empty 10000 122 (.agg #[.int .i64 a,.int .i64 b])).run Tryz.prog w = .ok () w := by
 unfold Instr.checkKey
 rw [Sem.run_bind,run_underlying Tryz.underlying122]
 simp only [Result.andThen_ok]
 have h3 : ∀ n (x : Int),(Instr.checkKey empty (n + 1) 3 (.int .i64 x)).run Tryz.prog w = .ok () w := fun n x => by
  unfold Instr.checkKey
  rw [Sem.run_bind,run_underlying Tryz.underlying3]
  simp
 simp [part,run_underlying Tryz.underlying3,h3,Go.isAgg,Go.sizeOf]
theorem zif (x y : Int) : zdJ.intEq x y = (x == y) := by
 cases x with
 | ofNat a => cases y with
  | ofNat b =>
   simp only [zdJ.intEq]
   rw [Bool.eq_iff_iff]
   simp only [zaD,decide_eq_true_eq,beq_iff_eq]
   exact ⟨fun e => by rw [e],fun e => Int.ofNat.inj e⟩
  | negSucc b => simp [zdJ.intEq]
 | negSucc a => cases y with
  | ofNat b => simp [zdJ.intEq]
  | negSucc b =>
   simp only [zdJ.intEq]
   rw [Bool.eq_iff_iff]
   simp [zaD]
theorem zmM {a b : Value} {r : Bool} (h : zdJ (.int .i64) a b = some r) : ∃ x y,a = .int .i64 x ∧ b = .int .i64 y ∧ r = (x == y) := by
 unfold zdJ at h
 split at h
 ·rename_i k k1 x k2 y e
  cases e
  split at h
  ·rename_i e1
   split at h
   ·rename_i e2
    have e1 : k1 = .i64 := by have := eq_of_beq e1; exact this.symm
    have e2 : k2 = .i64 := by have := eq_of_beq e2; exact this.symm
    subst e1 e2
    exact ⟨x,y,rfl,rfl,by rw [← zif]; exact (Option.some.inj h).symm⟩
   ·simp at h
  ·simp at h
 ·rename_i e; cases e
 ·rename_i e; cases e
 ·simp at h
theorem zjL {c : CK} {ks : List CK} {xs ys : List Value} {r : Bool} (h : zbT (c :: ks) xs ys = some r) : ∃ x xs' y ys' t u,xs = x :: xs' ∧ ys = y :: ys' ∧ zdJ c x y = some t ∧ zbT ks xs' ys' = some u ∧ r = (t && u) := by
 cases xs with
 | nil => cases ys <;> simp [zbT] at h
 | cons x xs =>
  cases ys with
  | nil => simp [zbT] at h
  | cons y ys =>
   unfold zbT at h
   split at h
   ·simp at h
   ·rename_i t h1
    split at h
    ·simp at h
    ·rename_i u h2
     exact ⟨x,xs,y,ys,t,u,rfl,rfl,h1,h2,(Option.some.inj h).symm⟩
theorem zvQ {xs ys : List Value} {r : Bool} (h : zbT [] xs ys = some r) : xs = [] ∧ ys = [] ∧ r = true := by
 cases xs <;> cases ys <;> simp [zbT] at h ⊢
 exact h
theorem zjd {xs ys : List Value} {r : Bool} (h : zbT [.int .i64,.int .i64] xs ys = some r) : ∃ a b c d,xs = [.int .i64 a,.int .i64 b] ∧ ys = [.int .i64 c,.int .i64 d] ∧ r = ((a == c) && (b == d)) := by
 obtain ⟨x1,xs1,y1,ys1,t1,u1,rfl,rfl,h1,h2,rfl⟩ := zjL h
 obtain ⟨x2,xs2,y2,ys2,t2,u2,rfl,rfl,h3,h4,rfl⟩ := zjL h2
 obtain ⟨rfl,rfl,rfl⟩ := zvQ h4
 obtain ⟨a,c,rfl,rfl,rfl⟩ := zmM h1
 obtain ⟨b,d,rfl,rfl,rfl⟩ := zmM h3
 exact ⟨a,b,c,d,rfl,rfl,by rw [Bool.and_true]⟩

theorem zsB {xs ys : List Value} {r : Bool} (h : zbT [.int .i64,.int .i64,.int .i64] xs ys = some r) : ∃ a b e c d f,xs = [.int .i64 a,.int .i64 b,.int .i64 e] ∧ ys = [.int .i64 c,.int .i64 d,.int .i64 f] ∧ r = ((a == c) && ((b == d) && (e == f))) := by
 obtain ⟨x1,xs1,y1,ys1,t1,u1,rfl,rfl,h1,h2,rfl⟩ := zjL h
 obtain ⟨b,e,d,f,rfl,rfl,rfl⟩ := zjd h2
 obtain ⟨a,c,rfl,rfl,rfl⟩ := zmM h1
 exact ⟨a,b,e,c,d,f,rfl,rfl,rfl⟩

noncomputable def Eo (O : Nat → Option (List Value → SHeap → Except String (Value × SHeap))) : Env :=
 { P := Tryz.prog,T := Tab.types.get,F := Tab.funcs.get,X := fun _ => none,O,lies := fun _ _ _ _ => false,eqT := fun t => bif Nat.beq t 122 then some [.int .i64,.int .i64] else bif Nat.beq t 37 then some [.int .i64,.int .i64,.int .i64] else none,keyT := fun t => Nat.beq t 122,bytesLie := fun _ _ => false,M := fun _ _ => none,A := fun _ _ => none,Q := fun _ => none,G := 0 }

theorem zdC (O : Nat → Option (List Value → SHeap → Except String (Value × SHeap))) : EnvOK (Eo O) where
 type := fun t ti h => by
  have h : (Tr.ofL 33 Tab.typeList).get t = some ti := by rw [← zyy]; exact h
  have := zTv.get t ti (zcJ h)
  rw [Nat.zero_add] at this
  exact this
 func := fun f fn h => by
  have h : (Tr.ofL 33 Tab.funcList).get f = some fn := by rw [← zrD]; exact h
  have := zAe.get f fn (zcJ h)
  rw [Nat.zero_add] at this
  exact this.1
 call := fun f fn h => by
  have h : (Tr.ofL 33 Tab.funcList).get f = some fn := by rw [← zrD]; exact h
  have := zAe.get f fn (zcJ h)
  rw [Nat.zero_add] at this
  exact this.2
 same := fun f h x w => by cases h
 makeNoZero := fun f e h => by cases h
 lies := fun e n o u h => by cases h
 eqT := fun t ks h => by
  simp only [Eo] at h
  cases e : Nat.beq t 122 with
  | false =>
   rw [e,cond_false] at h
   cases e2 : Nat.beq t 37 with
   | false => rw [e2] at h; simp at h
   | true =>
    rw [e2,cond_true] at h
    obtain rfl := Nat.eq_of_beq_eq_true e2
    obtain rfl := Option.some.inj h
    refine ⟨by kernel_rfl,fun xs ys b hb w => ?_⟩
    obtain ⟨a1,a2,a3,a4,a5,a6,h1,h2,rfl⟩ := zsB hb
    obtain ⟨xs⟩ := xs
    obtain ⟨ys⟩ := ys
    simp only at h1 h2
    subst h1 h2
    exact zwS a1 a2 a3 a4 a5 a6 w
  | true =>
   rw [e,cond_true] at h
   obtain rfl := Nat.eq_of_beq_eq_true e
   obtain rfl := Option.some.inj h
   refine ⟨by kernel_rfl,fun xs ys b hb w => ?_⟩
   obtain ⟨a1,a2,a3,a4,h1,h2,rfl⟩ := zjd hb
   obtain ⟨xs⟩ := xs
   obtain ⟨ys⟩ := ys
   simp only at h1 h2
   subst h1 h2
   exact zBP a1 a2 a3 a4 w
 keyT := fun t h => by
  have h : Nat.beq t 122 = true := h
  obtain rfl := Nat.eq_of_beq_eq_true h
  refine ⟨⟨_,Tryz.underlying122⟩,fun ks xs b hq hb empty w => ?_⟩
  have hq : some [CK.int .i64,CK.int .i64] = some ks := hq
  obtain rfl := Option.some.inj hq
  obtain ⟨a1,a2,a3,a4,h1,_,_⟩ := zjd hb
  obtain ⟨xs⟩ := xs
  simp only at h1
  subst h1
  exact zyh a1 a2 empty w
 bytesLie := fun e u h => by cases h
 outer := fun f g h => by cases h
 meth := fun t name f b h => by cases h
 asks := fun t a b h => by cases h
 held := fun t e h => by cases h

theorem zOQ : Tryz.prog.follows .mixedOrders = true := by kernel_rfl

end Go.Proofs.YtgdkljcnebaiiaaGreat

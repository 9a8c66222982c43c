/- Calls, worked out by the kernel. -/
import Derived.Test.YtgdkljcnebaiiaaGreatMem
import Derived.KernelRfl
set_option linter.unusedVariables false
set_option linter.unusedSimpArgs false
namespace Go.Proofs.YtgdkljcnebaiiaaGreat
open Go Go.Sim
set_option maxRecDepth 1000000
theorem xfE : kOK O20 298 M55 = true := by kernel_rfl
theorem xik : kOK O20 298 M66 = true := by kernel_rfl
theorem xbE : kOK O23 87 M96 = true := by kernel_rfl
theorem zNj : kOK O39 44 zJA = true := by kernel_rfl
theorem zUB : kOK O27 141 zJe = true := by kernel_rfl
theorem zTB : kOK O29 92 zCC = true := by kernel_rfl
theorem zSR : kOK O23 87 zGe = true := by kernel_rfl
theorem xlz : kOK O12 88 M25 = true := by kernel_rfl
theorem zNQ : kOK O24 89 zGU = true := by kernel_rfl
theorem zXk : kOK O12 88 M20 = true := by kernel_rfl
theorem zUc : kOK O23 87 zGT = true := by kernel_rfl
theorem zVZ : kOK O26 90 zKa = true := by kernel_rfl
theorem zPP : kOK O28 164 zHG = true := by kernel_rfl
theorem zxw : cOK O31 m186 [[2,0]] = true := by kernel_rfl
theorem zxV : cOK O31 m186 [[5,1]] = true := by kernel_rfl
theorem zWz : kOK O46 48 zIt = true := by kernel_rfl
theorem zyE : cOK O31 m186 [[3,3]] = true := by kernel_rfl
end Go.Proofs.YtgdkljcnebaiiaaGreat

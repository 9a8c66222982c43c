/- Calls, worked out by the kernel. -/
import Derived.Test.YtgdkljcnebaiiaaGreatMem
import Derived.KernelRfl
set_option linter.unusedVariables false
set_option linter.unusedSimpArgs false
namespace Go.Proofs.YtgdkljcnebaiiaaGreat
open Go Go.Sim
set_option maxRecDepth 1000000
theorem xhY : kOK O20 298 M62 = true := by kernel_rfl
theorem xgO : kOK O20 298 M73 = true := by kernel_rfl
theorem zNP : kOK O38 13 zLB = true := by kernel_rfl
theorem zTr : kOK O23 87 zCs = true := by kernel_rfl
theorem zSJ : kOK O27 141 zKo = true := by kernel_rfl
theorem zVV : kOK O49 4 zCL = true := by kernel_rfl
theorem xjM : kOK O12 88 M31 = true := by kernel_rfl
theorem zRX : kOK O29 92 zFj = true := by kernel_rfl
theorem zMW : kOK O24 89 zBW = true := by kernel_rfl
theorem zUY : kOK O24 89 zKk = true := by kernel_rfl
theorem zPu : kOK O26 90 zKb = true := by kernel_rfl
theorem zOG : kOK O26 90 zIi = true := by kernel_rfl
theorem xdq : kOK O18 198 M49 = true := by kernel_rfl
theorem zBH : cOK O31 m186 [[0,4]] = true := by kernel_rfl
theorem zzF : cOK O31 m186 [[3,5]] = true := by kernel_rfl
theorem xbW : kOK O9 230 M10 = true := by kernel_rfl
theorem zAu : cOK O31 m186 [[0,0]] = true := by kernel_rfl
theorem zUE : kOK O37 163 zCT = true := by kernel_rfl
end Go.Proofs.YtgdkljcnebaiiaaGreat

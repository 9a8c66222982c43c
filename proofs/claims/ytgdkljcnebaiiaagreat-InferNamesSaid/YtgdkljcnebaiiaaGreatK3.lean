/- Calls, worked out by the kernel. -/
import Derived.Test.YtgdkljcnebaiiaaGreatMem
import Derived.KernelRfl
set_option linter.unusedVariables false
set_option linter.unusedSimpArgs false
namespace Go.Proofs.YtgdkljcnebaiiaaGreat
open Go Go.Sim
set_option maxRecDepth 1000000
theorem zVi : kOK O30 39 zHT = true := by kernel_rfl
theorem zXO : kOK O20 298 M75 = true := by kernel_rfl
theorem zMr : kOK O23 87 zCQ = true := by kernel_rfl
theorem zNg : kOK O23 87 zFC = true := by kernel_rfl
theorem zUQ : kOK O35 167 zFI = true := by kernel_rfl
theorem zOz : kOK O43 181 zCG = true := by kernel_rfl
theorem zVI : kOK O28 164 zIP = true := by kernel_rfl
theorem zZn : kOK O23 87 M88 = true := by kernel_rfl
theorem zUe : kOK O24 89 zDV = true := by kernel_rfl
theorem zNq : kOK O29 92 zHD = true := by kernel_rfl
theorem zUl : kOK O26 90 zFf = true := by kernel_rfl
theorem zVs : kOK O26 90 zFi = true := by kernel_rfl
theorem zPL : kOK O23 87 zCt = true := by kernel_rfl
theorem zAY : cOK O31 m186 [[0,2]] = true := by kernel_rfl
theorem zxx : cOK O31 m186 [[3,2]] = true := by kernel_rfl
theorem zUf : kOK O42 180 zBV = true := by kernel_rfl
theorem rM5 : kOK O6 127 M5 = true := by kernel_rfl
end Go.Proofs.YtgdkljcnebaiiaaGreat

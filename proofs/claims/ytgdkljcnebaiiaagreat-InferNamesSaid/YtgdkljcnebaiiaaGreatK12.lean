/- Calls, worked out by the kernel. -/
import Derived.Test.YtgdkljcnebaiiaaGreatMem
import Derived.KernelRfl
set_option linter.unusedVariables false
set_option linter.unusedSimpArgs false
namespace Go.Proofs.YtgdkljcnebaiiaaGreat
open Go Go.Sim
set_option maxRecDepth 1000000
theorem xgw : kOK O20 298 M59 = true := by kernel_rfl
theorem xdv : kOK O20 298 M70 = true := by kernel_rfl
theorem zRF : kOK O23 87 zEk = true := by kernel_rfl
theorem xmy : kOK O18 198 M45 = true := by kernel_rfl
theorem xlW : kOK O12 88 M27 = true := by kernel_rfl
theorem rM7 : kOK O8 214 M7 = true := by kernel_rfl
theorem zSK : kOK O41 6 zCF = true := by kernel_rfl
theorem xbw : kOK O23 87 M90 = true := by kernel_rfl
theorem zOC : kOK O24 89 zGw = true := by kernel_rfl
theorem xdw : kOK O21 134 M80 = true := by kernel_rfl
theorem zRj : kOK O26 90 zLH = true := by kernel_rfl
theorem xis : kOK O23 87 M94 = true := by kernel_rfl
theorem xaV : kOK O23 87 M95 = true := by kernel_rfl
theorem zBb : cOK O31 m186 [[1,0]] = true := by kernel_rfl
theorem zys : cOK O31 m186 [[4,1]] = true := by kernel_rfl
theorem zYG : kOK O23 87 M87 = true := by kernel_rfl
theorem zxX : cOK O31 m186 [[4,4]] = true := by kernel_rfl
end Go.Proofs.YtgdkljcnebaiiaaGreat

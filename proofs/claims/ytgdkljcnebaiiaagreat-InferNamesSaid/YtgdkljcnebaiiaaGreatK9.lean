/- Calls, worked out by the kernel. -/
import Derived.Test.YtgdkljcnebaiiaaGreatMem
import Derived.KernelRfl
set_option linter.unusedVariables false
set_option linter.unusedSimpArgs false
namespace Go.Proofs.YtgdkljcnebaiiaaGreat
open Go Go.Sim
set_option maxRecDepth 1000000
theorem xjZ : kOK O20 298 M56 = true := by kernel_rfl
theorem xbI : kOK O20 298 M67 = true := by kernel_rfl
theorem xmt : kOK O23 87 M98 = true := by kernel_rfl
theorem zWL : kOK O12 88 M18 = true := by kernel_rfl
theorem xdX : kOK O12 88 M17 = true := by kernel_rfl
theorem zTf : kOK O47 7 zCx = true := by kernel_rfl
theorem zTn : kOK O27 141 zCN = true := by kernel_rfl
theorem zVT : kOK O29 92 zHJ = true := by kernel_rfl
theorem zSf : kOK O24 89 zLz = true := by kernel_rfl
theorem zWb : kOK O24 89 zLw = true := by kernel_rfl
theorem zQc : kOK O26 90 zGW = true := by kernel_rfl
theorem rM1 : kOK O2 28 M1 = true := by kernel_rfl
theorem zQr : kOK O23 87 zGj = true := by kernel_rfl
theorem zyK : cOK O31 m186 [[2,5]] = true := by kernel_rfl
theorem zRD : kOK O48 56 zIo = true := by kernel_rfl
theorem xfH : kOK O19 133 M51 = true := by kernel_rfl
theorem xln : kOK O16 86 M42 = true := by kernel_rfl
end Go.Proofs.YtgdkljcnebaiiaaGreat

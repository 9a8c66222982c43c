/- Calls, worked out by the kernel. -/
import Derived.Test.YtgdkljcnebaiiaaGreatMem
import Derived.KernelRfl
set_option linter.unusedVariables false
set_option linter.unusedSimpArgs false
namespace Go.Proofs.YtgdkljcnebaiiaaGreat
open Go Go.Sim
set_option maxRecDepth 1000000
theorem xlj : kOK O20 298 M60 = true := by kernel_rfl
theorem zZG : kOK O20 298 M71 = true := by kernel_rfl
theorem zTO : kOK O36 97 zHf = true := by kernel_rfl
theorem xcc : kOK O10 215 M11 = true := by kernel_rfl
theorem xmj : kOK O12 88 M29 = true := by kernel_rfl
theorem xeh : kOK O12 88 M28 = true := by kernel_rfl
theorem zRZ : kOK O27 141 zJQ = true := by kernel_rfl
theorem zOc : kOK O29 92 zKt = true := by kernel_rfl
theorem xhz : kOK O22 204 M82 = true := by kernel_rfl
theorem zMZ : kOK O24 89 zJY = true := by kernel_rfl
theorem zUP : kOK O26 90 zJt = true := by kernel_rfl
theorem zVn : kOK O23 87 zJx = true := by kernel_rfl
theorem zVe : kOK O23 87 zFV = true := by kernel_rfl
theorem zzk : cOK O31 m186 [[1,5]] = true := by kernel_rfl
theorem zxM : cOK O31 m186 [[5,0]] = true := by kernel_rfl
theorem zVm : kOK O32 96 zGb = true := by kernel_rfl
theorem zzd : cOK O31 m186 [[5,5]] = true := by kernel_rfl
end Go.Proofs.YtgdkljcnebaiiaaGreat

/- Calls, worked out by the kernel. -/
import Derived.Test.YtgdkljcnebaiiaaGreatMem
import Derived.KernelRfl
set_option linter.unusedVariables false
set_option linter.unusedSimpArgs false
namespace Go.Proofs.YtgdkljcnebaiiaaGreat
open Go Go.Sim
set_option maxRecDepth 1000000
theorem xaY : kOK O20 298 M61 = true := by kernel_rfl
theorem xbK : kOK O20 298 M72 = true := by kernel_rfl
theorem zOk : kOK O29 92 zIA = true := by kernel_rfl
theorem zTT : kOK O29 92 zIs = true := by kernel_rfl
theorem zQX : kOK O23 87 zLy = true := by kernel_rfl
theorem zSc : kOK O23 87 zDM = true := by kernel_rfl
theorem zQx : kOK O48 56 zEz = true := by kernel_rfl
theorem zMn : kOK O34 161 zJh = true := by kernel_rfl
theorem zNM : kOK O24 89 zDh = true := by kernel_rfl
theorem zVK : kOK O24 89 zJd = true := by kernel_rfl
theorem zRT : kOK O26 90 zDH = true := by kernel_rfl
theorem zMT : kOK O23 87 zKQ = true := by kernel_rfl
theorem zOD : kOK O23 87 zKz = true := by kernel_rfl
theorem zxF : cOK O31 m186 [[2,4]] = true := by kernel_rfl
theorem zzc : cOK O31 m186 [[5,4]] = true := by kernel_rfl
theorem rM6 : kOK O7 82 M6 = true := by kernel_rfl
theorem xjA : kOK O15 85 M41 = true := by kernel_rfl
end Go.Proofs.YtgdkljcnebaiiaaGreat

/- Calls, worked out by the kernel. -/
import Derived.Test.YtgdkljcnebaiiaaGreatMem
import Derived.KernelRfl
set_option linter.unusedVariables false
set_option linter.unusedSimpArgs false
namespace Go.Proofs.YtgdkljcnebaiiaaGreat
open Go Go.Sim
set_option maxRecDepth 1000000
theorem xdP : kOK O20 298 M58 = true := by kernel_rfl
theorem xkX : kOK O20 298 M69 = true := by kernel_rfl
theorem zQM : kOK O23 87 zJf = true := by kernel_rfl
theorem zZN : kOK O18 198 M44 = true := by kernel_rfl
theorem zSG : kOK O28 164 zJv = true := by kernel_rfl
theorem zVb : kOK O23 87 zEJ = true := by kernel_rfl
theorem zQC : kOK O23 87 zKO = true := by kernel_rfl
theorem xgE : kOK O23 87 M92 = true := by kernel_rfl
theorem zNi : kOK O24 89 zJl = true := by kernel_rfl
theorem zPn : kOK O29 92 zLD = true := by kernel_rfl
theorem zWH : kOK O29 92 zKV = true := by kernel_rfl
theorem zOT : kOK O26 90 zIW = true := by kernel_rfl
theorem xch : kOK O11 136 M16 = true := by kernel_rfl
theorem zBq : cOK O31 m186 [[0,5]] = true := by kernel_rfl
theorem zzO : cOK O31 m186 [[4,0]] = true := by kernel_rfl
theorem xcv : kOK O23 87 M85 = true := by kernel_rfl
theorem zMt : kOK O33 24 zFH = true := by kernel_rfl
theorem zQO : kOK O45 182 zJH = true := by kernel_rfl
end Go.Proofs.YtgdkljcnebaiiaaGreat

/- Calls, worked out by the kernel. -/
import Derived.Test.YtgdkljcnebaiiaaGreatMem
import Derived.KernelRfl
set_option linter.unusedVariables false
set_option linter.unusedSimpArgs false
namespace Go.Proofs.YtgdkljcnebaiiaaGreat
open Go Go.Sim
set_option maxRecDepth 1000000
theorem zOb : kOK O30 39 zJr = true := by kernel_rfl
theorem xeV : kOK O20 298 M76 = true := by kernel_rfl
theorem zUg : kOK O23 87 zKB = true := by kernel_rfl
theorem zVP : kOK O23 87 zJL = true := by kernel_rfl
theorem zPy : kOK O49 4 zEx = true := by kernel_rfl
theorem xaX : kOK O23 87 M93 = true := by kernel_rfl
theorem xfv : kOK O12 88 M34 = true := by kernel_rfl
theorem zOI : kOK O23 87 zKF = true := by kernel_rfl
theorem zPV : kOK O24 89 zFA = true := by kernel_rfl
theorem zOx : kOK O24 89 zFo = true := by kernel_rfl
theorem zTM : kOK O26 90 zKe = true := by kernel_rfl
theorem zNO : kOK O28 164 zLe = true := by kernel_rfl
theorem rM2 : kOK O3 11 M2 = true := by kernel_rfl
theorem zxY : cOK O31 m186 [[2,1]] = true := by kernel_rfl
theorem zxG : cOK O31 m186 [[5,2]] = true := by kernel_rfl
theorem xkq : kOK O17 128 M43 = true := by kernel_rfl
theorem zBe : cOK O31 m186 [[1,1]] = true := by kernel_rfl
theorem rM4 : kOK O5 37 M4 = true := by kernel_rfl
end Go.Proofs.YtgdkljcnebaiiaaGreat

/- Calls, worked out by the kernel. -/
import Derived.Test.YtgdkljcnebaiiaaGreatMem
import Derived.KernelRfl
set_option linter.unusedVariables false
set_option linter.unusedSimpArgs false
namespace Go.Proofs.YtgdkljcnebaiiaaGreat
open Go Go.Sim
set_option maxRecDepth 1000000
theorem xhZ : kOK O20 298 M54 = true := by kernel_rfl
theorem zXm : kOK O20 298 M65 = true := by kernel_rfl
theorem zVu : kOK O47 7 zEW = true := by kernel_rfl
theorem xkW : kOK O18 198 M46 = true := by kernel_rfl
theorem zNY : kOK O29 92 zET = true := by kernel_rfl
theorem rM8 : kOK O8 214 M8 = true := by kernel_rfl
theorem xij : kOK O12 88 M22 = true := by kernel_rfl
theorem xcH : kOK O23 87 M86 = true := by kernel_rfl
theorem zUF : kOK O24 89 zCm = true := by kernel_rfl
theorem zPW : kOK O24 89 zGG = true := by kernel_rfl
theorem zNA : kOK O26 90 zBX = true := by kernel_rfl
theorem zUZ : kOK O41 6 zGi = true := by kernel_rfl
theorem zYa : kOK O23 87 M97 = true := by kernel_rfl
theorem zBL : cOK O31 m186 [[1,3]] = true := by kernel_rfl
theorem zzP : cOK O31 m186 [[4,3]] = true := by kernel_rfl
theorem xhv : kOK O23 87 M91 = true := by kernel_rfl
end Go.Proofs.YtgdkljcnebaiiaaGreat

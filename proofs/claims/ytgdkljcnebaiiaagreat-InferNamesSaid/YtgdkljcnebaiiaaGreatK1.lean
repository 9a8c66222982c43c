/- Calls, worked out by the kernel. -/
import Derived.Test.YtgdkljcnebaiiaaGreatMem
import Derived.KernelRfl
set_option linter.unusedVariables false
set_option linter.unusedSimpArgs false
namespace Go.Proofs.YtgdkljcnebaiiaaGreat
open Go Go.Sim
set_option maxRecDepth 1000000
theorem zSD : kOK O30 39 zKT = true := by kernel_rfl
theorem zVr : kOK O30 39 zDR = true := by kernel_rfl
theorem zSF : kOK O23 87 zDG = true := by kernel_rfl
theorem xjE : kOK O10 215 M14 = true := by kernel_rfl
theorem zPM : kOK O29 92 zGS = true := by kernel_rfl
theorem xhM : kOK O21 134 M78 = true := by kernel_rfl
theorem zQn : kOK O28 164 zGg = true := by kernel_rfl
theorem zOi : kOK O23 87 zEm = true := by kernel_rfl
theorem zNV : kOK O24 89 zLt = true := by kernel_rfl
theorem zUJ : kOK O47 7 zEl = true := by kernel_rfl
theorem zMP : kOK O26 90 zJX = true := by kernel_rfl
theorem zOU : kOK O29 92 zLJ = true := by kernel_rfl
theorem zyG : cOK O31 m186 [[2,3]] = true := by kernel_rfl
theorem zyX : cOK O31 m186 [[5,3]] = true := by kernel_rfl
theorem zSw : kOK O40 47 zIJ = true := by kernel_rfl
theorem zzl : cOK O31 m186 [[2,2]] = true := by kernel_rfl
end Go.Proofs.YtgdkljcnebaiiaaGreat

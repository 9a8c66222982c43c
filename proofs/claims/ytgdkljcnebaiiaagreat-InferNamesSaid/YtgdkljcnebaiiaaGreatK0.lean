/- Calls, worked out by the kernel. -/
import Derived.Test.YtgdkljcnebaiiaaGreatMem
import Derived.KernelRfl
set_option linter.unusedVariables false
set_option linter.unusedSimpArgs false
namespace Go.Proofs.YtgdkljcnebaiiaaGreat
open Go Go.Sim
set_option maxRecDepth 1000000
theorem zRm : kOK O30 39 zEM = true := by kernel_rfl
theorem xhw : kOK O20 298 M77 = true := by kernel_rfl
theorem zOf : kOK O41 6 zGC = true := by kernel_rfl
theorem zSx : kOK O27 141 zEV = true := by kernel_rfl
theorem xat : kOK O10 215 M13 = true := by kernel_rfl
theorem zXc : kOK O12 88 M30 = true := by kernel_rfl
theorem xmu : kOK O12 88 M35 = true := by kernel_rfl
theorem zTP : kOK O24 89 zDA = true := by kernel_rfl
theorem zSe : kOK O24 89 zID = true := by kernel_rfl
theorem zOt : kOK O26 90 zJJ = true := by kernel_rfl
theorem zTz : kOK O43 181 zIM = true := by kernel_rfl
theorem xmH : kOK O23 87 M99 = true := by kernel_rfl
theorem zyx : cOK O31 m186 [[1,4]] = true := by kernel_rfl
theorem zyj : cOK O31 m186 [[4,5]] = true := by kernel_rfl
theorem xdV : kOK O14 83 M40 = true := by kernel_rfl
theorem rM3 : kOK O4 36 M3 = true := by kernel_rfl
end Go.Proofs.YtgdkljcnebaiiaaGreat

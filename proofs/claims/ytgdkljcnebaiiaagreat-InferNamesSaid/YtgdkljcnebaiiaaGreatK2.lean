/- Calls, worked out by the kernel. -/
import Derived.Test.YtgdkljcnebaiiaaGreatMem
import Derived.KernelRfl
set_option linter.unusedVariables false
set_option linter.unusedSimpArgs false
namespace Go.Proofs.YtgdkljcnebaiiaaGreat
open Go Go.Sim
set_option maxRecDepth 1000000
theorem zOY : kOK O30 39 zIn = true := by kernel_rfl
theorem xdl : kOK O20 298 M74 = true := by kernel_rfl
theorem zNS : kOK O34 161 zJu = true := by kernel_rfl
theorem zOw : kOK O36 97 zDs = true := by kernel_rfl
theorem xeI : kOK O12 88 M21 = true := by kernel_rfl
theorem zTs : kOK O23 87 zGr = true := by kernel_rfl
theorem xie : kOK O12 88 M36 = true := by kernel_rfl
theorem xlg : kOK O23 87 M84 = true := by kernel_rfl
theorem zPi : kOK O24 89 zMh = true := by kernel_rfl
theorem zQT : kOK O24 89 zFl = true := by kernel_rfl
theorem zOn : kOK O26 90 zDe = true := by kernel_rfl
theorem zUb : kOK O26 90 zGp = true := by kernel_rfl
theorem zQF : kOK O25 219 zLp = true := by kernel_rfl
theorem zBn : cOK O31 m186 [[0,1]] = true := by kernel_rfl
theorem zzG : cOK O31 m186 [[3,1]] = true := by kernel_rfl
theorem rM9 : kOK O8 214 M9 = true := by kernel_rfl
theorem xjy : kOK O13 129 M39 = true := by kernel_rfl
end Go.Proofs.YtgdkljcnebaiiaaGreat

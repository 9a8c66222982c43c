/- Calls, worked out by the kernel. -/
import Derived.Test.YtgdkljcnebaiiaaGreatMem
import Derived.KernelRfl
set_option linter.unusedVariables false
set_option linter.unusedSimpArgs false
namespace Go.Proofs.YtgdkljcnebaiiaaGreat
open Go Go.Sim
set_option maxRecDepth 1000000
theorem xad : kOK O20 298 M53 = true := by kernel_rfl
theorem xbd : kOK O20 298 M64 = true := by kernel_rfl
theorem zSE : kOK O38 13 zFh = true := by kernel_rfl
theorem xgK : kOK O18 198 M47 = true := by kernel_rfl
theorem zNn : kOK O23 87 zMc = true := by kernel_rfl
theorem zQG : kOK O23 87 zDB = true := by kernel_rfl
theorem xeP : kOK O12 88 M33 = true := by kernel_rfl
theorem zSi : kOK O29 92 zEB = true := by kernel_rfl
theorem xgk : kOK O12 88 M26 = true := by kernel_rfl
theorem zQi : kOK O24 89 zHP = true := by kernel_rfl
theorem zUo : kOK O26 90 zEs = true := by kernel_rfl
theorem zQE : kOK O26 90 zEe = true := by kernel_rfl
theorem xaB : kOK O12 88 M38 = true := by kernel_rfl
theorem zRb : kOK O44 178 zCn = true := by kernel_rfl
theorem zzp : cOK O31 m186 [[3,0]] = true := by kernel_rfl
theorem xkU : kOK O23 87 M83 = true := by kernel_rfl
theorem rM0 : kOK O1 9 M0 = true := by kernel_rfl
end Go.Proofs.YtgdkljcnebaiiaaGreat

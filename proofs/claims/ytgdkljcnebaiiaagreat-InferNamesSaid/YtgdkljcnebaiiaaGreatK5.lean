/- Calls, worked out by the kernel. -/
import Derived.Test.YtgdkljcnebaiiaaGreatMem
import Derived.KernelRfl
set_option linter.unusedVariables false
set_option linter.unusedSimpArgs false
namespace Go.Proofs.YtgdkljcnebaiiaaGreat
open Go Go.Sim
set_option maxRecDepth 1000000
theorem xmP : kOK O20 298 M52 = true := by kernel_rfl
theorem zXB : kOK O20 298 M63 = true := by kernel_rfl
theorem zWu : kOK O39 44 zFq = true := by kernel_rfl
theorem xjf : kOK O18 198 M48 = true := by kernel_rfl
theorem xbj : kOK O10 215 M12 = true := by kernel_rfl
theorem xhK : kOK O21 134 M79 = true := by kernel_rfl
theorem xas : kOK O12 88 M19 = true := by kernel_rfl
theorem xke : kOK O12 88 M32 = true := by kernel_rfl
theorem zNN : kOK O24 89 zKN = true := by kernel_rfl
theorem xbq : kOK O21 134 M81 = true := by kernel_rfl
theorem zMw : kOK O26 90 zIe = true := by kernel_rfl
theorem zUq : kOK O41 6 zJC = true := by kernel_rfl
theorem zMq : kOK O48 56 zKR = true := by kernel_rfl
theorem zAR : cOK O31 m186 [[0,3]] = true := by kernel_rfl
theorem zzT : cOK O31 m186 [[3,4]] = true := by kernel_rfl
theorem zXL : kOK O10 215 M15 = true := by kernel_rfl
theorem zbf : cOK O31 m585 [[0,0],[0,1],[0,2],[0,3],[0,4],[0,5],[1,0],[1,1],[1,2],[1,3],[1,4],[1,5],[2,0],[2,1],[2,2],[2,3],[2,4],[2,5],[3,0],[3,1],[3,2],[3,3],[3,4],[3,5],[4,0],[4,1],[4,2],[4,3],[4,4],[4,5],[5,0],[5,1],[5,2],[5,3],[5,4],[5,5]] = true := by kernel_rfl
end Go.Proofs.YtgdkljcnebaiiaaGreat

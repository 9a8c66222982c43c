/- Calls, worked out by the kernel. -/
import Derived.Test.YtgdkljcnebaiiaaGreatMem
import Derived.KernelRfl
set_option linter.unusedVariables false
set_option linter.unusedSimpArgs false
namespace Go.Proofs.YtgdkljcnebaiiaaGreat
open Go Go.Sim
set_option maxRecDepth 1000000
theorem zWN : kOK O20 298 M57 = true := by kernel_rfl
theorem xbr : kOK O20 298 M68 = true := by kernel_rfl
theorem zTj : kOK O23 87 zHr = true := by kernel_rfl
theorem xkS : kOK O12 88 M24 = true := by kernel_rfl
theorem xaA : kOK O19 133 M50 = true := by kernel_rfl
theorem zRq : kOK O29 92 zIl = true := by kernel_rfl
theorem zYK : kOK O12 88 M23 = true := by kernel_rfl
theorem xfI : kOK O12 88 M37 = true := by kernel_rfl
theorem zMI : kOK O24 89 zDq = true := by kernel_rfl
theorem zNk : kOK O29 92 zEK = true := by kernel_rfl
theorem zPN : kOK O23 87 zHI = true := by kernel_rfl
theorem zQm : kOK O23 87 zIZ = true := by kernel_rfl
theorem zQy : kOK O47 7 zDo = true := by kernel_rfl
theorem zAw : cOK O31 m186 [[1,2]] = true := by kernel_rfl
theorem zxE : cOK O31 m186 [[4,2]] = true := by kernel_rfl
theorem zYc : kOK O23 87 M89 = true := by kernel_rfl
theorem zbe : cOK O31 m408 [[0,0],[0,1],[0,2],[0,3],[0,4],[0,5],[1,0],[1,1],[1,2],[1,3],[1,4],[1,5],[2,0],[2,1],[2,2],[2,3],[2,4],[2,5],[3,0],[3,1],[3,2],[3,3],[3,4],[3,5],[4,0],[4,1],[4,2],[4,3],[4,4],[4,5],[5,0],[5,1],[5,2],[5,3],[5,4],[5,5]] = true := by kernel_rfl
end Go.Proofs.YtgdkljcnebaiiaaGreat

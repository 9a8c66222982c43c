/- Calls, worked out by the kernel. -/
import Derived.Test.YtgiompikfhhkmaaGreatDoorMem
import Derived.KernelRfl
set_option linter.unusedVariables false
set_option linter.unusedSimpArgs false
namespace Go.Proofs.YtgiompikfhhkmaaGreatDoor
open Go Go.Sim
set_option maxRecDepth 1000000
theorem r292x13904 : memoRun (Go.Sim.run (Eo O8) 60) m292x13904 = true := by kernel_rfl
theorem r151x8185 : memoRun (Go.Sim.run (Eo O10) 60) m151x8185 = true := by kernel_rfl
theorem r201x6699 : memoRun (Go.Sim.run (Eo O1) 60) m201x6699 = true := by kernel_rfl
theorem r158x27664 : memoRun (Go.Sim.run (Eo O1) 60) m158x27664 = true := by kernel_rfl
theorem r71x28811 : memoRun (Go.Sim.run (Eo O10) 60) m71x28811 = true := by kernel_rfl
theorem r76x23902 : memoRun (Go.Sim.run (Eo O16) 60) m76x23902 = true := by kernel_rfl
theorem r158x29221 : memoRun (Go.Sim.run (Eo O1) 60) m158x29221 = true := by kernel_rfl
end Go.Proofs.YtgiompikfhhkmaaGreatDoor

/- Calls, worked out by the kernel. -/
import Derived.Test.YtgiompikfhhkmaaGreatDoorMem
import Derived.KernelRfl
set_option linter.unusedVariables false
set_option linter.unusedSimpArgs false
namespace Go.Proofs.YtgiompikfhhkmaaGreatDoor
open Go Go.Sim
set_option maxRecDepth 1000000
theorem r292x8807 : memoRun (Go.Sim.run (Eo O8) 60) m292x8807 = true := by kernel_rfl
theorem r151x7799 : memoRun (Go.Sim.run (Eo O10) 60) m151x7799 = true := by kernel_rfl
theorem r201x6704 : memoRun (Go.Sim.run (Eo O1) 60) m201x6704 = true := by kernel_rfl
theorem r158x28139 : memoRun (Go.Sim.run (Eo O1) 60) m158x28139 = true := by kernel_rfl
theorem r71x7535 : memoRun (Go.Sim.run (Eo O10) 60) m71x7535 = true := by kernel_rfl
theorem r76x28500 : memoRun (Go.Sim.run (Eo O16) 60) m76x28500 = true := by kernel_rfl
theorem r158x29472 : memoRun (Go.Sim.run (Eo O1) 60) m158x29472 = true := by kernel_rfl
end Go.Proofs.YtgiompikfhhkmaaGreatDoor

/- Calls, worked out by the kernel. -/
import Derived.Test.YtgiompikfhhkmaaGreatDoorMem
import Derived.KernelRfl
set_option linter.unusedVariables false
set_option linter.unusedSimpArgs false
namespace Go.Proofs.YtgiompikfhhkmaaGreatDoor
open Go Go.Sim
set_option maxRecDepth 1000000
theorem r201x6724 : memoRun (Go.Sim.run (Eo O1) 60) m201x6724 = true := by kernel_rfl
theorem r22x5308 : memoRun (Go.Sim.run (Eo O10) 60) m22x5308 = true := by kernel_rfl
theorem r201x7399 : memoRun (Go.Sim.run (Eo O1) 60) m201x7399 = true := by kernel_rfl
theorem r158x18503 : memoRun (Go.Sim.run (Eo O1) 60) m158x18503 = true := by kernel_rfl
theorem r201x7233 : memoRun (Go.Sim.run (Eo O1) 60) m201x7233 = true := by kernel_rfl
theorem r158x26352 : memoRun (Go.Sim.run (Eo O1) 60) m158x26352 = true := by kernel_rfl
theorem r159x24904 : memoRun (Go.Sim.run (Eo O10) 60) m159x24904 = true := by kernel_rfl
theorem r151x29083 : memoRun (Go.Sim.run (Eo O10) 60) m151x29083 = true := by kernel_rfl
theorem r172x2685 : memoRun (Go.Sim.run (Eo O1) 60) m172x2685 = true := by kernel_rfl
end Go.Proofs.YtgiompikfhhkmaaGreatDoor

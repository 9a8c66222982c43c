/- Calls, worked out by the kernel. -/
import Derived.Test.YtgiompikfhhkmaaGreatDoorMem
import Derived.KernelRfl
set_option linter.unusedVariables false
set_option linter.unusedSimpArgs false
namespace Go.Proofs.YtgiompikfhhkmaaGreatDoor
open Go Go.Sim
set_option maxRecDepth 1000000
theorem r101x993 : memoRun (Go.Sim.run (Eo O16) 60) m101x993 = true := by kernel_rfl
theorem r66x5968 : memoRun (Go.Sim.run (Eo O10) 60) m66x5968 = true := by kernel_rfl
theorem r201x7528 : memoRun (Go.Sim.run (Eo O1) 60) m201x7528 = true := by kernel_rfl
theorem r158x23974 : memoRun (Go.Sim.run (Eo O1) 60) m158x23974 = true := by kernel_rfl
theorem r201x7384 : memoRun (Go.Sim.run (Eo O1) 60) m201x7384 = true := by kernel_rfl
theorem r158x28574 : memoRun (Go.Sim.run (Eo O1) 60) m158x28574 = true := by kernel_rfl
theorem r151x8652 : memoRun (Go.Sim.run (Eo O10) 60) m151x8652 = true := by kernel_rfl
theorem r151x29564 : memoRun (Go.Sim.run (Eo O10) 60) m151x29564 = true := by kernel_rfl
theorem r172x1685 : memoRun (Go.Sim.run (Eo O1) 60) m172x1685 = true := by kernel_rfl
end Go.Proofs.YtgiompikfhhkmaaGreatDoor

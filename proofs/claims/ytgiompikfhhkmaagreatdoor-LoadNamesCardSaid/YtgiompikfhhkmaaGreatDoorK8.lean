/- Calls, worked out by the kernel. -/
import Derived.Test.YtgiompikfhhkmaaGreatDoorMem
import Derived.KernelRfl
set_option linter.unusedVariables false
set_option linter.unusedSimpArgs false
namespace Go.Proofs.YtgiompikfhhkmaaGreatDoor
open Go Go.Sim
set_option maxRecDepth 1000000
theorem r105x3031 : memoRun (Go.Sim.run (Eo O1) 60) m105x3031 = true := by kernel_rfl
theorem r21x4093 : memoRun (Go.Sim.run (Eo O19) 60) m21x4093 = true := by kernel_rfl
theorem r100x53 : memoRun (Go.Sim.run (Eo O16) 60) m100x53 = true := by kernel_rfl
theorem r158x23579 : memoRun (Go.Sim.run (Eo O1) 60) m158x23579 = true := by kernel_rfl
theorem r201x7379 : memoRun (Go.Sim.run (Eo O1) 60) m201x7379 = true := by kernel_rfl
theorem r158x7947 : memoRun (Go.Sim.run (Eo O1) 60) m158x7947 = true := by kernel_rfl
theorem r69x7248 : memoRun (Go.Sim.run (Eo O8) 60) m69x7248 = true := by kernel_rfl
theorem r172x2379 : memoRun (Go.Sim.run (Eo O1) 60) m172x2379 = true := by kernel_rfl
theorem r172x544 : memoRun (Go.Sim.run (Eo O1) 60) m172x544 = true := by kernel_rfl
end Go.Proofs.YtgiompikfhhkmaaGreatDoor

/- Calls, worked out by the kernel. -/
import Derived.Test.YtgiompikfhhkmaaGreatDoorMem
import Derived.KernelRfl
set_option linter.unusedVariables false
set_option linter.unusedSimpArgs false
namespace Go.Proofs.YtgiompikfhhkmaaGreatDoor
open Go Go.Sim
set_option maxRecDepth 1000000
theorem r201x27134 : memoRun (Go.Sim.run (Eo O1) 60) m201x27134 = true := by kernel_rfl
theorem r201x6459 : memoRun (Go.Sim.run (Eo O1) 60) m201x6459 = true := by kernel_rfl
theorem r172x2837 : memoRun (Go.Sim.run (Eo O1) 60) m172x2837 = true := by kernel_rfl
theorem r201x6449 : memoRun (Go.Sim.run (Eo O1) 60) m201x6449 = true := by kernel_rfl
theorem r201x27127 : memoRun (Go.Sim.run (Eo O1) 60) m201x27127 = true := by kernel_rfl
theorem r71x26028 : memoRun (Go.Sim.run (Eo O10) 60) m71x26028 = true := by kernel_rfl
theorem r69x6953 : memoRun (Go.Sim.run (Eo O8) 60) m69x6953 = true := by kernel_rfl
theorem r172x2311 : memoRun (Go.Sim.run (Eo O1) 60) m172x2311 = true := by kernel_rfl
theorem r172x2448 : memoRun (Go.Sim.run (Eo O1) 60) m172x2448 = true := by kernel_rfl
end Go.Proofs.YtgiompikfhhkmaaGreatDoor

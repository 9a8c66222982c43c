/- Calls, worked out by the kernel. -/
import Derived.Test.YtgiompikfhhkmaaGreatDoorMem
import Derived.KernelRfl
set_option linter.unusedVariables false
set_option linter.unusedSimpArgs false
namespace Go.Proofs.YtgiompikfhhkmaaGreatDoor
open Go Go.Sim
set_option maxRecDepth 1000000
theorem r201x7099 : memoRun (Go.Sim.run (Eo O1) 60) m201x7099 = true := by kernel_rfl
theorem r17x39 : memoRun (Go.Sim.run (Eo O19) 60) m17x39 = true := by kernel_rfl
theorem r201x7089 : memoRun (Go.Sim.run (Eo O1) 60) m201x7089 = true := by kernel_rfl
theorem r151x27443 : memoRun (Go.Sim.run (Eo O10) 60) m151x27443 = true := by kernel_rfl
theorem r201x7079 : memoRun (Go.Sim.run (Eo O1) 60) m201x7079 = true := by kernel_rfl
theorem r158x24599 : memoRun (Go.Sim.run (Eo O1) 60) m158x24599 = true := by kernel_rfl
theorem r172x1598 : memoRun (Go.Sim.run (Eo O1) 60) m172x1598 = true := by kernel_rfl
theorem r158x25855 : memoRun (Go.Sim.run (Eo O1) 60) m158x25855 = true := by kernel_rfl
theorem r201x28493 : memoRun (Go.Sim.run (Eo O1) 60) m201x28493 = true := by kernel_rfl
end Go.Proofs.YtgiompikfhhkmaaGreatDoor

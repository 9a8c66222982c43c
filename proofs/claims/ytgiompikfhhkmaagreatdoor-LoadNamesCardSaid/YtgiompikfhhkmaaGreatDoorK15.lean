/- Calls, worked out by the kernel. -/
import Derived.Test.YtgiompikfhhkmaaGreatDoorMem
import Derived.KernelRfl
set_option linter.unusedVariables false
set_option linter.unusedSimpArgs false
namespace Go.Proofs.YtgiompikfhhkmaaGreatDoor
open Go Go.Sim
set_option maxRecDepth 1000000
theorem r201x7243 : memoRun (Go.Sim.run (Eo O1) 60) m201x7243 = true := by kernel_rfl
theorem r201x6217 : memoRun (Go.Sim.run (Eo O1) 60) m201x6217 = true := by kernel_rfl
theorem r201x6719 : memoRun (Go.Sim.run (Eo O1) 60) m201x6719 = true := by kernel_rfl
theorem r172x1490 : memoRun (Go.Sim.run (Eo O1) 60) m172x1490 = true := by kernel_rfl
theorem r201x6729 : memoRun (Go.Sim.run (Eo O1) 60) m201x6729 = true := by kernel_rfl
theorem r172x1692 : memoRun (Go.Sim.run (Eo O1) 60) m172x1692 = true := by kernel_rfl
theorem r172x659 : memoRun (Go.Sim.run (Eo O1) 60) m172x659 = true := by kernel_rfl
theorem r69x7104 : memoRun (Go.Sim.run (Eo O8) 60) m69x7104 = true := by kernel_rfl
theorem r172x2706 : memoRun (Go.Sim.run (Eo O1) 60) m172x2706 = true := by kernel_rfl
end Go.Proofs.YtgiompikfhhkmaaGreatDoor

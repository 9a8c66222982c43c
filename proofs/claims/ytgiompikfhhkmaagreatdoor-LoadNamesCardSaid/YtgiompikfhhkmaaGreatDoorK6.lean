/- Calls, worked out by the kernel. -/
import Derived.Test.YtgiompikfhhkmaaGreatDoorMem
import Derived.KernelRfl
set_option linter.unusedVariables false
set_option linter.unusedSimpArgs false
namespace Go.Proofs.YtgiompikfhhkmaaGreatDoor
open Go Go.Sim
set_option maxRecDepth 1000000
theorem r201x25496 : memoRun (Go.Sim.run (Eo O1) 60) m201x25496 = true := by kernel_rfl
theorem r201x6212 : memoRun (Go.Sim.run (Eo O1) 60) m201x6212 = true := by kernel_rfl
theorem r172x1789 : memoRun (Go.Sim.run (Eo O1) 60) m172x1789 = true := by kernel_rfl
theorem r201x6444 : memoRun (Go.Sim.run (Eo O1) 60) m201x6444 = true := by kernel_rfl
theorem r201x7523 : memoRun (Go.Sim.run (Eo O1) 60) m201x7523 = true := by kernel_rfl
theorem r70x7503 : memoRun (Go.Sim.run (Eo O10) 60) m70x7503 = true := by kernel_rfl
theorem r69x6076 : memoRun (Go.Sim.run (Eo O8) 60) m69x6076 = true := by kernel_rfl
theorem r172x1373 : memoRun (Go.Sim.run (Eo O1) 60) m172x1373 = true := by kernel_rfl
theorem r172x1678 : memoRun (Go.Sim.run (Eo O1) 60) m172x1678 = true := by kernel_rfl
end Go.Proofs.YtgiompikfhhkmaaGreatDoor

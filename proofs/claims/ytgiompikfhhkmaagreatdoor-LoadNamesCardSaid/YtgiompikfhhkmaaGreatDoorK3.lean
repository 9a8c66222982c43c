/- Calls, worked out by the kernel. -/
import Derived.Test.YtgiompikfhhkmaaGreatDoorMem
import Derived.KernelRfl
set_option linter.unusedVariables false
set_option linter.unusedSimpArgs false
namespace Go.Proofs.YtgiompikfhhkmaaGreatDoor
open Go Go.Sim
set_option maxRecDepth 1000000
theorem r24x5256 : memoRun (Go.Sim.run (Eo O19) 60) m24x5256 = true := by kernel_rfl
theorem r201x7084 : memoRun (Go.Sim.run (Eo O1) 60) m201x7084 = true := by kernel_rfl
theorem r172x2469 : memoRun (Go.Sim.run (Eo O1) 60) m172x2469 = true := by kernel_rfl
theorem r201x7074 : memoRun (Go.Sim.run (Eo O1) 60) m201x7074 = true := by kernel_rfl
theorem r172x2726 : memoRun (Go.Sim.run (Eo O1) 60) m172x2726 = true := by kernel_rfl
theorem r69x6568 : memoRun (Go.Sim.run (Eo O8) 60) m69x6568 = true := by kernel_rfl
theorem r172x1428 : memoRun (Go.Sim.run (Eo O1) 60) m172x1428 = true := by kernel_rfl
theorem r159x28468 : memoRun (Go.Sim.run (Eo O10) 60) m159x28468 = true := by kernel_rfl
end Go.Proofs.YtgiompikfhhkmaaGreatDoor

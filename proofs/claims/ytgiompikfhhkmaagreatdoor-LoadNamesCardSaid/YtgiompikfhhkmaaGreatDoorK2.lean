/- Calls, worked out by the kernel. -/
import Derived.Test.YtgiompikfhhkmaaGreatDoorMem
import Derived.KernelRfl
set_option linter.unusedVariables false
set_option linter.unusedSimpArgs false
namespace Go.Proofs.YtgiompikfhhkmaaGreatDoor
open Go Go.Sim
set_option maxRecDepth 1000000
theorem r292x18980 : memoRun (Go.Sim.run (Eo O8) 60) m292x18980 = true := by kernel_rfl
theorem r151x26903 : memoRun (Go.Sim.run (Eo O10) 60) m151x26903 = true := by kernel_rfl
theorem r201x6454 : memoRun (Go.Sim.run (Eo O1) 60) m201x6454 = true := by kernel_rfl
theorem r158x27138 : memoRun (Go.Sim.run (Eo O1) 60) m158x27138 = true := by kernel_rfl
theorem r71x24293 : memoRun (Go.Sim.run (Eo O10) 60) m71x24293 = true := by kernel_rfl
theorem r76x25783 : memoRun (Go.Sim.run (Eo O16) 60) m76x25783 = true := by kernel_rfl
theorem r69x7414 : memoRun (Go.Sim.run (Eo O8) 60) m69x7414 = true := by kernel_rfl
theorem r172x1483 : memoRun (Go.Sim.run (Eo O1) 60) m172x1483 = true := by kernel_rfl
end Go.Proofs.YtgiompikfhhkmaaGreatDoor

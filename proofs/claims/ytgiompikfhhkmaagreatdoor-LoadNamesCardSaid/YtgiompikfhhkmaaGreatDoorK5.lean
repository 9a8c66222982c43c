/- Calls, worked out by the kernel. -/
import Derived.Test.YtgiompikfhhkmaaGreatDoorMem
import Derived.KernelRfl
set_option linter.unusedVariables false
set_option linter.unusedSimpArgs false
namespace Go.Proofs.YtgiompikfhhkmaaGreatDoor
open Go Go.Sim
set_option maxRecDepth 1000000
theorem r201x25058 : memoRun (Go.Sim.run (Eo O1) 60) m201x25058 = true := by kernel_rfl
theorem r201x6207 : memoRun (Go.Sim.run (Eo O1) 60) m201x6207 = true := by kernel_rfl
theorem r172x850 : memoRun (Go.Sim.run (Eo O1) 60) m172x850 = true := by kernel_rfl
theorem r201x6202 : memoRun (Go.Sim.run (Eo O1) 60) m201x6202 = true := by kernel_rfl
theorem r201x7409 : memoRun (Go.Sim.run (Eo O1) 60) m201x7409 = true := by kernel_rfl
theorem r44x30108 : memoRunN (Eo O1) (Go.Sim.run (Eo O1) 60) m44x30108 = true := by kernel_rfl
theorem r151x18825 : memoRun (Go.Sim.run (Eo O10) 60) m151x18825 = true := by kernel_rfl
theorem r69x6828 : memoRun (Go.Sim.run (Eo O8) 60) m69x6828 = true := by kernel_rfl
theorem r172x739 : memoRun (Go.Sim.run (Eo O1) 60) m172x739 = true := by kernel_rfl
end Go.Proofs.YtgiompikfhhkmaaGreatDoor

/- Calls, worked out by the kernel. -/
import Derived.Test.YtgiompikfhhkmaaGreatDoorMem
import Derived.KernelRfl
set_option linter.unusedVariables false
set_option linter.unusedSimpArgs false
namespace Go.Proofs.YtgiompikfhhkmaaGreatDoor
open Go Go.Sim
set_option maxRecDepth 1000000
theorem r201x6464 : memoRun (Go.Sim.run (Eo O1) 60) m201x6464 = true := by kernel_rfl
theorem r22x4246 : memoRun (Go.Sim.run (Eo O10) 60) m22x4246 = true := by kernel_rfl
theorem r201x7394 : memoRun (Go.Sim.run (Eo O1) 60) m201x7394 = true := by kernel_rfl
theorem r158x13406 : memoRun (Go.Sim.run (Eo O1) 60) m158x13406 = true := by kernel_rfl
theorem r201x7228 : memoRun (Go.Sim.run (Eo O1) 60) m201x7228 = true := by kernel_rfl
theorem r158x25500 : memoRun (Go.Sim.run (Eo O1) 60) m158x25500 = true := by kernel_rfl
theorem r159x25344 : memoRun (Go.Sim.run (Eo O10) 60) m159x25344 = true := by kernel_rfl
theorem r151x29334 : memoRun (Go.Sim.run (Eo O10) 60) m151x29334 = true := by kernel_rfl
theorem r172x746 : memoRun (Go.Sim.run (Eo O1) 60) m172x746 = true := by kernel_rfl
end Go.Proofs.YtgiompikfhhkmaaGreatDoor

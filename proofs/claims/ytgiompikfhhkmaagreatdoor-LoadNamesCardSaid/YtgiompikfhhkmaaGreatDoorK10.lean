/- Calls, worked out by the kernel. -/
import Derived.Test.YtgiompikfhhkmaaGreatDoorMem
import Derived.KernelRfl
set_option linter.unusedVariables false
set_option linter.unusedSimpArgs false
namespace Go.Proofs.YtgiompikfhhkmaaGreatDoor
open Go Go.Sim
set_option maxRecDepth 1000000
theorem r23x4906 : memoRun (Go.Sim.run (Eo O19) 60) m23x4906 = true := by kernel_rfl
theorem r201x7094 : memoRun (Go.Sim.run (Eo O1) 60) m201x7094 = true := by kernel_rfl
theorem r201x7238 : memoRun (Go.Sim.run (Eo O1) 60) m201x7238 = true := by kernel_rfl
theorem r158x8332 : memoRun (Go.Sim.run (Eo O1) 60) m158x8332 = true := by kernel_rfl
theorem r201x7223 : memoRun (Go.Sim.run (Eo O1) 60) m201x7223 = true := by kernel_rfl
theorem r158x25062 : memoRun (Go.Sim.run (Eo O1) 60) m158x25062 = true := by kernel_rfl
theorem r172x2591 : memoRun (Go.Sim.run (Eo O1) 60) m172x2591 = true := by kernel_rfl
theorem r172x434 : memoRun (Go.Sim.run (Eo O1) 60) m172x434 = true := by kernel_rfl
theorem r76x26282 : memoRun (Go.Sim.run (Eo O16) 60) m76x26282 = true := by kernel_rfl
end Go.Proofs.YtgiompikfhhkmaaGreatDoor

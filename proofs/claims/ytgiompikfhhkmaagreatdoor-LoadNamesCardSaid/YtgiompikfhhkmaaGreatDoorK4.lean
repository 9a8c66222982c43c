/- Calls, worked out by the kernel. -/
import Derived.Test.YtgiompikfhhkmaaGreatDoorMem
import Derived.KernelRfl
set_option linter.unusedVariables false
set_option linter.unusedSimpArgs false
namespace Go.Proofs.YtgiompikfhhkmaaGreatDoor
open Go Go.Sim
set_option maxRecDepth 1000000
theorem r104x3020 : memoRun (Go.Sim.run (Eo O1) 60) m104x3020 = true := by kernel_rfl
theorem r201x6714 : memoRun (Go.Sim.run (Eo O1) 60) m201x6714 = true := by kernel_rfl
theorem r172x551 : memoRun (Go.Sim.run (Eo O1) 60) m172x551 = true := by kernel_rfl
theorem r201x6709 : memoRun (Go.Sim.run (Eo O1) 60) m201x6709 = true := by kernel_rfl
theorem r172x753 : memoRun (Go.Sim.run (Eo O1) 60) m172x753 = true := by kernel_rfl
theorem r71x26631 : memoRun (Go.Sim.run (Eo O10) 60) m71x26631 = true := by kernel_rfl
theorem r69x6325 : memoRun (Go.Sim.run (Eo O8) 60) m69x6325 = true := by kernel_rfl
theorem r158x29702 : memoRun (Go.Sim.run (Eo O1) 60) m158x29702 = true := by kernel_rfl
end Go.Proofs.YtgiompikfhhkmaaGreatDoor

/- Calls, worked out by the kernel. -/
import Derived.Test.YtgiompikfhhkmaaGreatDoorMem
import Derived.KernelRfl
set_option linter.unusedVariables false
set_option linter.unusedSimpArgs false
namespace Go.Proofs.YtgiompikfhhkmaaGreatDoor
open Go Go.Sim
set_option maxRecDepth 1000000
theorem r201x6222 : memoRun (Go.Sim.run (Eo O1) 60) m201x6222 = true := by kernel_rfl
theorem r201x7404 : memoRun (Go.Sim.run (Eo O1) 60) m201x7404 = true := by kernel_rfl
theorem r151x27969 : memoRun (Go.Sim.run (Eo O10) 60) m151x27969 = true := by kernel_rfl
theorem r201x6197 : memoRun (Go.Sim.run (Eo O1) 60) m201x6197 = true := by kernel_rfl
theorem r201x7389 : memoRun (Go.Sim.run (Eo O1) 60) m201x7389 = true := by kernel_rfl
theorem r65x5259 : memoRun (Go.Sim.run (Eo O1) 60) m65x5259 = true := by kernel_rfl
theorem r151x13749 : memoRun (Go.Sim.run (Eo O10) 60) m151x13749 = true := by kernel_rfl
theorem r172x489 : memoRun (Go.Sim.run (Eo O1) 60) m172x489 = true := by kernel_rfl
theorem r159x28480 : memoRun (Go.Sim.run (Eo O10) 60) m159x28480 = true := by kernel_rfl
end Go.Proofs.YtgiompikfhhkmaaGreatDoor

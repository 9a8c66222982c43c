/- One call, worked out by the kernel. -/
import Derived.Test.YtaclddcneogolaaGreatDoorMem
import Derived.KernelRfl
set_option linter.unusedVariables false
set_option linter.unusedSimpArgs false
namespace Go.Proofs.YtaclddcneogolaaGreatDoor
open Go Go.Sim
set_option maxRecDepth 1000000
theorem r105x1602 : memoRun (Go.Sim.run (Eo O2) 60) m105x1602 = true := by kernel_rfl
end Go.Proofs.YtaclddcneogolaaGreatDoor

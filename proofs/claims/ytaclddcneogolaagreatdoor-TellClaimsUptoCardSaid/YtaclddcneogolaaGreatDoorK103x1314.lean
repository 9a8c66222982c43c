/- One call, worked out by the kernel. -/
import Derived.Test.YtaclddcneogolaaGreatDoorMem
import Derived.KernelRfl
set_option linter.unusedVariables false
set_option linter.unusedSimpArgs false
namespace Go.Proofs.YtaclddcneogolaaGreatDoor
open Go Go.Sim
set_option maxRecDepth 1000000
theorem r103x1314 : memoRun (Go.Sim.run (Eo O2) 60) m103x1314 = true := by kernel_rfl
end Go.Proofs.YtaclddcneogolaaGreatDoor

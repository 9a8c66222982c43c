/- The check ahead of every body, worked out by the kernel. -/
import Derived.Test.YtaclddcneogolaaGreatDoorMem
import Derived.KernelRfl
set_option linter.unusedVariables false
set_option linter.unusedSimpArgs false
namespace Go.Proofs.YtaclddcneogolaaGreatDoor
open Go Go.Sim
set_option maxRecDepth 1000000
theorem r7 : isTrue (Go.Sim.run (Eo OL) 60 (.call 7 #[] .normal) h0) = true := by kernel_rfl
end Go.Proofs.YtaclddcneogolaaGreatDoor

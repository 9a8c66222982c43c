/- The whole call, worked out by the kernel. -/
import Derived.Test.YtgiompikfhhkmaaGreatDoorMem
import Derived.KernelRfl
set_option linter.unusedVariables false
set_option linter.unusedSimpArgs false
namespace Go.Proofs.YtgiompikfhhkmaaGreatDoor
open Go Go.Sim
set_option maxRecDepth 1000000
theorem rTop : isTrue (Go.Sim.run (Eo OL) 60 (.call 3 #[] .normal) h0) = true := by kernel_rfl
end Go.Proofs.YtgiompikfhhkmaaGreatDoor

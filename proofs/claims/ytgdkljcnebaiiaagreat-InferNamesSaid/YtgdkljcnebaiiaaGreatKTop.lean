/- The whole call, worked out by the kernel. -/
import Derived.Test.YtgdkljcnebaiiaaGreatMem
import Derived.KernelRfl
set_option linter.unusedVariables false
set_option linter.unusedSimpArgs false
namespace Go.Proofs.YtgdkljcnebaiiaaGreat
open Go Go.Sim
set_option maxRecDepth 1000000
theorem xji : zrJ (Go.Sim.run (Eo OL) 60 (.call 3 #[] .normal) h0) = true := by kernel_rfl
end Go.Proofs.YtgdkljcnebaiiaaGreat

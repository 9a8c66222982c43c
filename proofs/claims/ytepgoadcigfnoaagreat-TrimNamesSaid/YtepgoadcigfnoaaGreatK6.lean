/- Calls, worked out by the kernel. -/
import Derived.Test.YtepgoadcigfnoaaGreatMem
import Derived.KernelRfl
set_option linter.unusedVariables false
set_option linter.unusedSimpArgs false
namespace Go.Proofs.YtepgoadcigfnoaaGreat
open Go Go.Sim
set_option maxRecDepth 1000000
theorem r21x167 : memoRun (Go.Sim.run (Eo O1) 60) m21x167 = true := by kernel_rfl
theorem r163x1727 : memoRun (Go.Sim.run (Eo O1) 60) m163x1727 = true := by kernel_rfl
theorem r163x6610 : memoRun (Go.Sim.run (Eo O1) 60) m163x6610 = true := by kernel_rfl
theorem r168x2690 : memoRun (Go.Sim.run (Eo O1) 60) m168x2690 = true := by kernel_rfl
theorem r198x11142 : memoRun (Go.Sim.run (Eo O1) 60) m198x11142 = true := by kernel_rfl
end Go.Proofs.YtepgoadcigfnoaaGreat

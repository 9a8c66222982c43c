/- Calls, worked out by the kernel. -/
import Derived.Test.YtepgoadcigfnoaaGreatMem
import Derived.KernelRfl
set_option linter.unusedVariables false
set_option linter.unusedSimpArgs false
namespace Go.Proofs.YtepgoadcigfnoaaGreat
open Go Go.Sim
set_option maxRecDepth 1000000
theorem r30x4477 : memoRun (Go.Sim.run (Eo O13) 60) m30x4477 = true := by kernel_rfl
theorem r163x3131 : memoRun (Go.Sim.run (Eo O1) 60) m163x3131 = true := by kernel_rfl
theorem r163x10286 : memoRun (Go.Sim.run (Eo O1) 60) m163x10286 = true := by kernel_rfl
theorem r194x8897 : memoRun (Go.Sim.run (Eo O1) 60) m194x8897 = true := by kernel_rfl
theorem r200x11372 : memoRun (Go.Sim.run (Eo O10) 60) m200x11372 = true := by kernel_rfl
end Go.Proofs.YtepgoadcigfnoaaGreat

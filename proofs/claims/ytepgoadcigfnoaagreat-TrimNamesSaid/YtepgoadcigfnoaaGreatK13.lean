/- Calls, worked out by the kernel. -/
import Derived.Test.YtepgoadcigfnoaaGreatMem
import Derived.KernelRfl
set_option linter.unusedVariables false
set_option linter.unusedSimpArgs false
namespace Go.Proofs.YtepgoadcigfnoaaGreat
open Go Go.Sim
set_option maxRecDepth 1000000
theorem r26x12166 : memoRun (Go.Sim.run (Eo O13) 60) m26x12166 = true := by kernel_rfl
theorem r163x2847 : memoRun (Go.Sim.run (Eo O1) 60) m163x2847 = true := by kernel_rfl
theorem r163x9586 : memoRun (Go.Sim.run (Eo O1) 60) m163x9586 = true := by kernel_rfl
theorem r194x5459 : memoRun (Go.Sim.run (Eo O1) 60) m194x5459 = true := by kernel_rfl
theorem r200x11078 : memoRun (Go.Sim.run (Eo O10) 60) m200x11078 = true := by kernel_rfl
end Go.Proofs.YtepgoadcigfnoaaGreat

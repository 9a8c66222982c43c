/- Calls, worked out by the kernel. -/
import Derived.Test.YtepgoadcigfnoaaGreatMem
import Derived.KernelRfl
set_option linter.unusedVariables false
set_option linter.unusedSimpArgs false
namespace Go.Proofs.YtepgoadcigfnoaaGreat
open Go Go.Sim
set_option maxRecDepth 1000000
theorem r26x7878 : memoRun (Go.Sim.run (Eo O13) 60) m26x7878 = true := by kernel_rfl
theorem r163x2841 : memoRun (Go.Sim.run (Eo O1) 60) m163x2841 = true := by kernel_rfl
theorem r163x9568 : memoRun (Go.Sim.run (Eo O1) 60) m163x9568 = true := by kernel_rfl
theorem r194x1452 : memoRun (Go.Sim.run (Eo O1) 60) m194x1452 = true := by kernel_rfl
theorem r200x10112 : memoRun (Go.Sim.run (Eo O10) 60) m200x10112 = true := by kernel_rfl
end Go.Proofs.YtepgoadcigfnoaaGreat

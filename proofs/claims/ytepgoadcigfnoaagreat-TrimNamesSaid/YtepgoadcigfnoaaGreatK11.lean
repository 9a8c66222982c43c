/- Calls, worked out by the kernel. -/
import Derived.Test.YtepgoadcigfnoaaGreatMem
import Derived.KernelRfl
set_option linter.unusedVariables false
set_option linter.unusedSimpArgs false
namespace Go.Proofs.YtepgoadcigfnoaaGreat
open Go Go.Sim
set_option maxRecDepth 1000000
theorem r26x433 : memoRun (Go.Sim.run (Eo O13) 60) m26x433 = true := by kernel_rfl
theorem r163x2141 : memoRun (Go.Sim.run (Eo O1) 60) m163x2141 = true := by kernel_rfl
theorem r163x9475 : memoRun (Go.Sim.run (Eo O1) 60) m163x9475 = true := by kernel_rfl
theorem r168x10401 : memoRun (Go.Sim.run (Eo O1) 60) m168x10401 = true := by kernel_rfl
theorem r200x7225 : memoRun (Go.Sim.run (Eo O10) 60) m200x7225 = true := by kernel_rfl
end Go.Proofs.YtepgoadcigfnoaaGreat

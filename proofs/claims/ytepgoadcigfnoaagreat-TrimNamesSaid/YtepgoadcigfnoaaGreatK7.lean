/- Calls, worked out by the kernel. -/
import Derived.Test.YtepgoadcigfnoaaGreatMem
import Derived.KernelRfl
set_option linter.unusedVariables false
set_option linter.unusedSimpArgs false
namespace Go.Proofs.YtepgoadcigfnoaaGreat
open Go Go.Sim
set_option maxRecDepth 1000000
theorem r21x4945 : memoRun (Go.Sim.run (Eo O1) 60) m21x4945 = true := by kernel_rfl
theorem r163x1907 : memoRun (Go.Sim.run (Eo O1) 60) m163x1907 = true := by kernel_rfl
theorem r163x9080 : memoRun (Go.Sim.run (Eo O1) 60) m163x9080 = true := by kernel_rfl
theorem r168x2956 : memoRun (Go.Sim.run (Eo O1) 60) m168x2956 = true := by kernel_rfl
theorem r200x2667 : memoRun (Go.Sim.run (Eo O10) 60) m200x2667 = true := by kernel_rfl
end Go.Proofs.YtepgoadcigfnoaaGreat

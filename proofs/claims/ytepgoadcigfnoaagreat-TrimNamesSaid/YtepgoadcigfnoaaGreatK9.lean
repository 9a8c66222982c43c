/- Calls, worked out by the kernel. -/
import Derived.Test.YtepgoadcigfnoaaGreatMem
import Derived.KernelRfl
set_option linter.unusedVariables false
set_option linter.unusedSimpArgs false
namespace Go.Proofs.YtepgoadcigfnoaaGreat
open Go Go.Sim
set_option maxRecDepth 1000000
theorem r24x3 : memoRun (Go.Sim.run (Eo O1) 60) m24x3 = true := by kernel_rfl
theorem r163x2030 : memoRun (Go.Sim.run (Eo O1) 60) m163x2030 = true := by kernel_rfl
theorem r163x9352 : memoRun (Go.Sim.run (Eo O1) 60) m163x9352 = true := by kernel_rfl
theorem r168x6599 : memoRun (Go.Sim.run (Eo O1) 60) m168x6599 = true := by kernel_rfl
theorem r200x3927 : memoRun (Go.Sim.run (Eo O10) 60) m200x3927 = true := by kernel_rfl
end Go.Proofs.YtepgoadcigfnoaaGreat

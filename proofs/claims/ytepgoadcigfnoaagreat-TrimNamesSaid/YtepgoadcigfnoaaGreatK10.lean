/- Calls, worked out by the kernel. -/
import Derived.Test.YtepgoadcigfnoaaGreatMem
import Derived.KernelRfl
set_option linter.unusedVariables false
set_option linter.unusedSimpArgs false
namespace Go.Proofs.YtepgoadcigfnoaaGreat
open Go Go.Sim
set_option maxRecDepth 1000000
theorem r24x4745 : memoRun (Go.Sim.run (Eo O1) 60) m24x4745 = true := by kernel_rfl
theorem r163x2123 : memoRun (Go.Sim.run (Eo O1) 60) m163x2123 = true := by kernel_rfl
theorem r163x9470 : memoRun (Go.Sim.run (Eo O1) 60) m163x9470 = true := by kernel_rfl
theorem r168x10135 : memoRun (Go.Sim.run (Eo O1) 60) m168x10135 = true := by kernel_rfl
theorem r200x6564 : memoRun (Go.Sim.run (Eo O10) 60) m200x6564 = true := by kernel_rfl
end Go.Proofs.YtepgoadcigfnoaaGreat

/- Calls, worked out by the kernel. -/
import Derived.Test.YtepgoadcigfnoaaGreatMem
import Derived.KernelRfl
set_option linter.unusedVariables false
set_option linter.unusedSimpArgs false
namespace Go.Proofs.YtepgoadcigfnoaaGreat
open Go Go.Sim
set_option maxRecDepth 1000000
theorem r21x11900 : memoRun (Go.Sim.run (Eo O1) 60) m21x11900 = true := by kernel_rfl
theorem r163x2025 : memoRun (Go.Sim.run (Eo O1) 60) m163x2025 = true := by kernel_rfl
theorem r163x9172 : memoRun (Go.Sim.run (Eo O1) 60) m163x9172 = true := by kernel_rfl
theorem r168x6587 : memoRun (Go.Sim.run (Eo O1) 60) m168x6587 = true := by kernel_rfl
theorem r200x3633 : memoRun (Go.Sim.run (Eo O10) 60) m200x3633 = true := by kernel_rfl
end Go.Proofs.YtepgoadcigfnoaaGreat

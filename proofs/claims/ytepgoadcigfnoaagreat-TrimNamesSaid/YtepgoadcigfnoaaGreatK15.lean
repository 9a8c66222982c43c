/- Calls, worked out by the kernel. -/
import Derived.Test.YtepgoadcigfnoaaGreatMem
import Derived.KernelRfl
set_option linter.unusedVariables false
set_option linter.unusedSimpArgs false
namespace Go.Proofs.YtepgoadcigfnoaaGreat
open Go Go.Sim
set_option maxRecDepth 1000000
theorem r75x4477 : memoRunN (Eo O1) (Go.Sim.run (Eo O1) 60) m75x4477 = true := by kernel_rfl
theorem r163x3138 : memoRun (Go.Sim.run (Eo O1) 60) m163x3138 = true := by kernel_rfl
theorem r163x10292 : memoRun (Go.Sim.run (Eo O1) 60) m163x10292 = true := by kernel_rfl
theorem r198x2412 : memoRun (Go.Sim.run (Eo O1) 60) m198x2412 = true := by kernel_rfl
end Go.Proofs.YtepgoadcigfnoaaGreat

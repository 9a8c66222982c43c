/- Calls, worked out by the kernel. -/
import Derived.Test.YtepgoadcigfnoaaGreatMem
import Derived.KernelRfl
set_option linter.unusedVariables false
set_option linter.unusedSimpArgs false
namespace Go.Proofs.YtepgoadcigfnoaaGreat
open Go Go.Sim
set_option maxRecDepth 1000000
theorem r18x8481 : memoRun (Go.Sim.run (Eo O1) 60) m18x8481 = true := by kernel_rfl
theorem r163x1635 : memoRun (Go.Sim.run (Eo O1) 60) m163x1635 = true := by kernel_rfl
theorem r163x6038 : memoRun (Go.Sim.run (Eo O1) 60) m163x6038 = true := by kernel_rfl
theorem r164x9569 : memoRun (Go.Sim.run (Eo O10) 60) m164x9569 = true := by kernel_rfl
theorem r198x11065 : memoRun (Go.Sim.run (Eo O1) 60) m198x11065 = true := by kernel_rfl
end Go.Proofs.YtepgoadcigfnoaaGreat

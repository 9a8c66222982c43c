/- Calls, worked out by the kernel. -/
import Derived.Test.YtepgoadcigfnoaaGreatMem
import Derived.KernelRfl
set_option linter.unusedVariables false
set_option linter.unusedSimpArgs false
namespace Go.Proofs.YtepgoadcigfnoaaGreat
open Go Go.Sim
set_option maxRecDepth 1000000
theorem r18x1036 : memoRun (Go.Sim.run (Eo O1) 60) m18x1036 = true := by kernel_rfl
theorem r123x5206 : memoRun (Go.Sim.run (Eo O12) 60) m123x5206 = true := by kernel_rfl
theorem r163x5640 : memoRun (Go.Sim.run (Eo O1) 60) m163x5640 = true := by kernel_rfl
theorem r163x10583 : memoRun (Go.Sim.run (Eo O1) 60) m163x10583 = true := by kernel_rfl
theorem r198x3697 : memoRun (Go.Sim.run (Eo O1) 60) m198x3697 = true := by kernel_rfl
end Go.Proofs.YtepgoadcigfnoaaGreat

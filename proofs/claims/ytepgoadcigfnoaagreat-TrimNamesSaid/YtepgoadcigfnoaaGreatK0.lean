/- Calls, worked out by the kernel. -/
import Derived.Test.YtepgoadcigfnoaaGreatMem
import Derived.KernelRfl
set_option linter.unusedVariables false
set_option linter.unusedSimpArgs false
namespace Go.Proofs.YtepgoadcigfnoaaGreat
open Go Go.Sim
set_option maxRecDepth 1000000
theorem r18x519 : memoRun (Go.Sim.run (Eo O1) 60) m18x519 = true := by kernel_rfl
theorem r123x1008 : memoRun (Go.Sim.run (Eo O12) 60) m123x1008 = true := by kernel_rfl
theorem r163x3231 : memoRun (Go.Sim.run (Eo O1) 60) m163x3231 = true := by kernel_rfl
theorem r163x10576 : memoRun (Go.Sim.run (Eo O1) 60) m163x10576 = true := by kernel_rfl
theorem r198x3620 : memoRun (Go.Sim.run (Eo O1) 60) m198x3620 = true := by kernel_rfl
end Go.Proofs.YtepgoadcigfnoaaGreat

/- Calls, worked out by the kernel. -/
import Derived.Test.YtepgoadcigfnoaaGreatMem
import Derived.KernelRfl
set_option linter.unusedVariables false
set_option linter.unusedSimpArgs false
namespace Go.Proofs.YtepgoadcigfnoaaGreat
open Go Go.Sim
set_option maxRecDepth 1000000
theorem r18x4512 : memoRun (Go.Sim.run (Eo O1) 60) m18x4512 = true := by kernel_rfl
theorem r123x8453 : memoRun (Go.Sim.run (Eo O12) 60) m123x8453 = true := by kernel_rfl
theorem r163x5816 : memoRun (Go.Sim.run (Eo O1) 60) m163x5816 = true := by kernel_rfl
theorem r163x10676 : memoRun (Go.Sim.run (Eo O1) 60) m163x10676 = true := by kernel_rfl
theorem r198x6309 : memoRun (Go.Sim.run (Eo O1) 60) m198x6309 = true := by kernel_rfl
end Go.Proofs.YtepgoadcigfnoaaGreat

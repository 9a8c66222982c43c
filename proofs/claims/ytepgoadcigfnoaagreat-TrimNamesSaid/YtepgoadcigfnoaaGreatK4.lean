/- Calls, worked out by the kernel. -/
import Derived.Test.YtepgoadcigfnoaaGreatMem
import Derived.KernelRfl
set_option linter.unusedVariables false
set_option linter.unusedSimpArgs false
namespace Go.Proofs.YtepgoadcigfnoaaGreat
open Go Go.Sim
set_option maxRecDepth 1000000
theorem r18x7964 : memoRun (Go.Sim.run (Eo O1) 60) m18x7964 = true := by kernel_rfl
theorem r140x4936 : memoRunN (Eo O1) (Go.Sim.run (Eo O1) 60) m140x4936 = true := by kernel_rfl
theorem r163x6020 : memoRun (Go.Sim.run (Eo O1) 60) m163x6020 = true := by kernel_rfl
theorem r164x6021 : memoRun (Go.Sim.run (Eo O10) 60) m164x6021 = true := by kernel_rfl
theorem r198x9857 : memoRun (Go.Sim.run (Eo O1) 60) m198x9857 = true := by kernel_rfl
end Go.Proofs.YtepgoadcigfnoaaGreat

/- Calls, worked out by the kernel. -/
import Derived.Test.YtepgoadcigfnoaaGreatMem
import Derived.KernelRfl
set_option linter.unusedVariables false
set_option linter.unusedSimpArgs false
namespace Go.Proofs.YtepgoadcigfnoaaGreat
open Go Go.Sim
set_option maxRecDepth 1000000
theorem r18x5227 : memoRun (Go.Sim.run (Eo O1) 60) m18x5227 = true := by kernel_rfl
theorem r140x4905 : memoRunN (Eo O1) (Go.Sim.run (Eo O1) 60) m140x4905 = true := by kernel_rfl
theorem r163x5931 : memoRun (Go.Sim.run (Eo O1) 60) m163x5931 = true := by kernel_rfl
theorem r164x2124 : memoRun (Go.Sim.run (Eo O10) 60) m164x2124 = true := by kernel_rfl
theorem r198x6995 : memoRun (Go.Sim.run (Eo O1) 60) m198x6995 = true := by kernel_rfl
end Go.Proofs.YtepgoadcigfnoaaGreat

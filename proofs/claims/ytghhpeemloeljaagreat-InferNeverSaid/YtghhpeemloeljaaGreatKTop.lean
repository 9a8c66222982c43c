/- The whole call, worked out by the kernel. -/
import Derived.Test.YtghhpeemloeljaaGreatMem
import Derived.KernelRfl
namespace Go.Proofs.YtghhpeemloeljaaGreat
open Go Go.Sim
set_option maxRecDepth 1000000
theorem zMq:zlN (Go.Sim.run (Eo OL) 60 (.call 3 #[.complex .f32 0 0,.complex .f32 2 0] .normal) h0)=true:=by kernel_rfl
theorem zME:zlN (Go.Sim.run (Eo OL) 60 (.call 3 #[.complex .f32 0 0,.complex .f32 1 0] .normal) h0)=true:=by kernel_rfl
end Go.Proofs.YtghhpeemloeljaaGreat

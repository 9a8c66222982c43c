/- Calls, worked out by the kernel. -/
import Derived.Test.YtghhpeemloeljaaGreatMem
import Derived.KernelRfl
namespace Go.Proofs.YtghhpeemloeljaaGreat
open Go Go.Sim
set_option maxRecDepth 1000000
theorem zMN:kOK O31 53 zGN=true:=by kernel_rfl
theorem zTV:kOK O24 95 M99=true:=by kernel_rfl
theorem zRv:kOK O15 210 M25=true:=by kernel_rfl
theorem zVp:kOK O9 91 M17=true:=by kernel_rfl
theorem zUx:kOK O22 93 M86=true:=by kernel_rfl
theorem zOH:kOK O20 92 M78=true:=by kernel_rfl
theorem zSA:kOK O19 90 M60=true:=by kernel_rfl
theorem zEJ:cOK O26 m205 [[0,3]]=true:=by kernel_rfl
theorem zCz:cOK O26 m205 [[2,0]]=true:=by kernel_rfl
theorem zAa:cOK O26 m205 [[4,5]]=true:=by kernel_rfl
theorem zLF:kOK O32 56 zFu=true:=by kernel_rfl
end Go.Proofs.YtghhpeemloeljaaGreat

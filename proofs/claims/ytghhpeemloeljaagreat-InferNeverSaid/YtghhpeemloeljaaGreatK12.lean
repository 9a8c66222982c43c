/- Calls, worked out by the kernel. -/
import Derived.Test.YtghhpeemloeljaaGreatMem
import Derived.KernelRfl
namespace Go.Proofs.YtghhpeemloeljaaGreat
open Go Go.Sim
set_option maxRecDepth 1000000
theorem zVK:kOK O19 90 M63=true:=by kernel_rfl
theorem zSL:kOK O19 90 M69=true:=by kernel_rfl
theorem zYn:kOK O18 142 M33=true:=by kernel_rfl
theorem zUW:kOK O19 90 M70=true:=by kernel_rfl
theorem zUt:kOK O22 93 M83=true:=by kernel_rfl
theorem zTq:kOK O18 142 M41=true:=by kernel_rfl
theorem zTb:kOK O23 172 M88=true:=by kernel_rfl
theorem zLN:kOK O36 187 zHr=true:=by kernel_rfl
theorem zEO:cOK O26 m205 [[1,0]]=true:=by kernel_rfl
theorem zBR:cOK O26 m205 [[3,5]]=true:=by kernel_rfl
theorem zOR:kOK O12 86 M21=true:=by kernel_rfl
end Go.Proofs.YtghhpeemloeljaaGreat

/- Calls, worked out by the kernel. -/
import Derived.Test.YtghhpeemloeljaaGreatMem
import Derived.KernelRfl
namespace Go.Proofs.YtghhpeemloeljaaGreat
open Go Go.Sim
set_option maxRecDepth 1000000
theorem zLK:kOK O28 169 zFO=true:=by kernel_rfl
theorem zYC:kOK O24 95 M96=true:=by kernel_rfl
theorem zOA:kOK O24 95 M98=true:=by kernel_rfl
theorem rM7:kOK O8 227 M7=true:=by kernel_rfl
theorem zOv:kOK O9 91 M15=true:=by kernel_rfl
theorem zSn:kOK O19 90 M74=true:=by kernel_rfl
theorem zTj:kOK O19 90 M59=true:=by kernel_rfl
theorem zOi:kOK O19 90 M66=true:=by kernel_rfl
theorem zAt:cOK O26 m205 [[3,2]]=true:=by kernel_rfl
theorem zLD:kOK O34 189 zJV=true:=by kernel_rfl
theorem zQP:kOK O19 90 M56=true:=by kernel_rfl
end Go.Proofs.YtghhpeemloeljaaGreat

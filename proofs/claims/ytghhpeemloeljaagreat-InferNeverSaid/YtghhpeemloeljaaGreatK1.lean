/- Calls, worked out by the kernel. -/
import Derived.Test.YtghhpeemloeljaaGreatMem
import Derived.KernelRfl
namespace Go.Proofs.YtghhpeemloeljaaGreat
open Go Go.Sim
set_option maxRecDepth 1000000
theorem zNs:kOK O25 48 zGg=true:=by kernel_rfl
theorem zXm:kOK O17 216 M29=true:=by kernel_rfl
theorem zNK:kOK O9 91 M14=true:=by kernel_rfl
theorem zOB:kOK O22 93 M84=true:=by kernel_rfl
theorem zLo:kOK O33 5 zKs=true:=by kernel_rfl
theorem zNL:kOK O19 90 M68=true:=by kernel_rfl
theorem zBe:cOK O26 m205 [[3,4]]=true:=by kernel_rfl
theorem zYm:kOK O19 90 M48=true:=by kernel_rfl
theorem zYL:kOK O22 93 M87=true:=by kernel_rfl
end Go.Proofs.YtghhpeemloeljaaGreat

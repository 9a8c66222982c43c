/- Calls, worked out by the kernel. -/
import Derived.Test.YtghhpeemloeljaaGreatMem
import Derived.KernelRfl
namespace Go.Proofs.YtghhpeemloeljaaGreat
open Go Go.Sim
set_option maxRecDepth 1000000
theorem zTX:kOK O19 90 M61=true:=by kernel_rfl
theorem zWT:kOK O19 90 M67=true:=by kernel_rfl
theorem zOx:kOK O23 172 M89=true:=by kernel_rfl
theorem zVV:kOK O9 91 M13=true:=by kernel_rfl
theorem zOc:kOK O18 142 M37=true:=by kernel_rfl
theorem zWr:kOK O23 172 M91=true:=by kernel_rfl
theorem zVy:kOK O19 90 M71=true:=by kernel_rfl
theorem zEK:cOK O26 m205 [[0,2]]=true:=by kernel_rfl
theorem zBY:cOK O26 m205 [[1,5]]=true:=by kernel_rfl
theorem zBT:cOK O26 m205 [[4,3]]=true:=by kernel_rfl
theorem zVZ:kOK O21 231 M79=true:=by kernel_rfl
end Go.Proofs.YtghhpeemloeljaaGreat

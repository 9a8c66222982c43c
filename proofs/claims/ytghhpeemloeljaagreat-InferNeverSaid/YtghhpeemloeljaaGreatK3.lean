/- Calls, worked out by the kernel. -/
import Derived.Test.YtghhpeemloeljaaGreatMem
import Derived.KernelRfl
namespace Go.Proofs.YtghhpeemloeljaaGreat
open Go Go.Sim
set_option maxRecDepth 1000000
theorem zLT:kOK O25 48 zKq=true:=by kernel_rfl
theorem zMW:kOK O24 95 zKA=true:=by kernel_rfl
theorem zUN:kOK O15 210 M24=true:=by kernel_rfl
theorem zRn:kOK O9 91 M12=true:=by kernel_rfl
theorem zUX:kOK O9 91 M10=true:=by kernel_rfl
theorem rM0:kOK O1 37 M0=true:=by kernel_rfl
theorem zUH:kOK O19 90 M62=true:=by kernel_rfl
theorem zEz:cOK O26 m205 [[0,4]]=true:=by kernel_rfl
theorem zAU:cOK O26 m205 [[2,1]]=true:=by kernel_rfl
theorem zzW:cOK O26 m205 [[5,0]]=true:=by kernel_rfl
theorem rM6:kOK O7 242 M6=true:=by kernel_rfl
theorem zDw:cOK O26 m205 [[1,1]]=true:=by kernel_rfl
end Go.Proofs.YtghhpeemloeljaaGreat

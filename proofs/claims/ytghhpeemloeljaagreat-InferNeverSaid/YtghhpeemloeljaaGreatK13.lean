/- Calls, worked out by the kernel. -/
import Derived.Test.YtghhpeemloeljaaGreatMem
import Derived.KernelRfl
namespace Go.Proofs.YtghhpeemloeljaaGreat
open Go Go.Sim
set_option maxRecDepth 1000000
theorem zOP:kOK O19 90 M65=true:=by kernel_rfl
theorem zNf:kOK O30 15 zGj=true:=by kernel_rfl
theorem zQY:kOK O18 142 M36=true:=by kernel_rfl
theorem zNy:kOK O24 95 zIx=true:=by kernel_rfl
theorem zRg:kOK O9 91 M16=true:=by kernel_rfl
theorem zWx:kOK O18 142 M44=true:=by kernel_rfl
theorem zML:kOK O33 5 zJx=true:=by kernel_rfl
theorem rM1:kOK O2 13 M1=true:=by kernel_rfl
theorem zDz:cOK O26 m205 [[1,3]]=true:=by kernel_rfl
theorem zCL:cOK O26 m205 [[4,1]]=true:=by kernel_rfl
theorem zSQ:kOK O19 90 M52=true:=by kernel_rfl
end Go.Proofs.YtghhpeemloeljaaGreat

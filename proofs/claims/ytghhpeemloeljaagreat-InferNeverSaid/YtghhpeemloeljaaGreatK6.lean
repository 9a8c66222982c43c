/- Calls, worked out by the kernel. -/
import Derived.Test.YtghhpeemloeljaaGreatMem
import Derived.KernelRfl
namespace Go.Proofs.YtghhpeemloeljaaGreat
open Go Go.Sim
set_option maxRecDepth 1000000
theorem zRi:kOK O19 90 M49=true:=by kernel_rfl
theorem zWH:kOK O24 95 M93=true:=by kernel_rfl
theorem zSX:kOK O18 142 M35=true:=by kernel_rfl
theorem zNn:kOK O33 5 zGn=true:=by kernel_rfl
theorem zNY:kOK O22 93 M82=true:=by kernel_rfl
theorem zXQ:kOK O18 142 M42=true:=by kernel_rfl
theorem zVB:kOK O24 95 M97=true:=by kernel_rfl
theorem zMb:kOK O38 6 zKK=true:=by kernel_rfl
theorem zAW:cOK O26 m205 [[2,4]]=true:=by kernel_rfl
theorem zBD:cOK O26 m205 [[5,2]]=true:=by kernel_rfl
theorem zSg:kOK O10 137 M19=true:=by kernel_rfl
theorem zNp:cOK O26 m447 c36=true:=by kernel_rfl
theorem zDE:cOK O26 m205 [[0,0]]=true:=by kernel_rfl
theorem zCt:cOK O26 m205 [[2,2]]=true:=by kernel_rfl
end Go.Proofs.YtghhpeemloeljaaGreat

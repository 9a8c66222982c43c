/- Calls, worked out by the kernel. -/
import Derived.Test.YtghhpeemloeljaaGreatMem
import Derived.KernelRfl
namespace Go.Proofs.YtghhpeemloeljaaGreat
open Go Go.Sim
set_option maxRecDepth 1000000
theorem zYo:kOK O19 90 M53=true:=by kernel_rfl
theorem zVw:kOK O18 142 M32=true:=by kernel_rfl
theorem zLG:kOK O35 190 zJR=true:=by kernel_rfl
theorem zRV:kOK O20 92 M76=true:=by kernel_rfl
theorem zXa:kOK O22 93 M80=true:=by kernel_rfl
theorem zWR:kOK O18 142 M39=true:=by kernel_rfl
theorem zNd:kOK O24 95 zIo=true:=by kernel_rfl
theorem zSx:kOK O23 172 M92=true:=by kernel_rfl
theorem zCx:cOK O26 m205 [[2,3]]=true:=by kernel_rfl
theorem zAN:cOK O26 m205 [[5,1]]=true:=by kernel_rfl
theorem zQS:kOK O11 144 M20=true:=by kernel_rfl
theorem zLA:kOK O27 36 zKG=true:=by kernel_rfl
end Go.Proofs.YtghhpeemloeljaaGreat

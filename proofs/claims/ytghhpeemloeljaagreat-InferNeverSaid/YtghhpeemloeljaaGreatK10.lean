/- Calls, worked out by the kernel. -/
import Derived.Test.YtghhpeemloeljaaGreatMem
import Derived.KernelRfl
namespace Go.Proofs.YtghhpeemloeljaaGreat
open Go Go.Sim
set_option maxRecDepth 1000000
theorem zQe:kOK O19 90 M57=true:=by kernel_rfl
theorem zUV:kOK O24 95 M95=true:=by kernel_rfl
theorem zSh:kOK O18 142 M45=true:=by kernel_rfl
theorem zXD:kOK O20 92 M75=true:=by kernel_rfl
theorem zPN:kOK O18 142 M43=true:=by kernel_rfl
theorem zRR:kOK O19 90 M58=true:=by kernel_rfl
theorem zUA:kOK O9 91 M18=true:=by kernel_rfl
theorem zEQ:cOK O26 m205 [[0,5]]=true:=by kernel_rfl
theorem zBS:cOK O26 m205 [[3,0]]=true:=by kernel_rfl
theorem zzP:cOK O26 m205 [[5,4]]=true:=by kernel_rfl
theorem zUS:kOK O14 89 M23=true:=by kernel_rfl
theorem zNi:cOK O26 m346 c36=true:=by kernel_rfl
theorem rM2:kOK O3 45 M2=true:=by kernel_rfl
theorem zCg:cOK O26 m205 [[5,5]]=true:=by kernel_rfl
end Go.Proofs.YtghhpeemloeljaaGreat

/- Calls, worked out by the kernel. -/
import Derived.Test.YtghhpeemloeljaaGreatMem
import Derived.KernelRfl
namespace Go.Proofs.YtghhpeemloeljaaGreat
open Go Go.Sim
set_option maxRecDepth 1000000
theorem zXd:kOK O19 90 M51=true:=by kernel_rfl
theorem zMe:kOK O30 15 zJK=true:=by kernel_rfl
theorem zYFa:kOK O18 142 [m82,m85]=true:=by kernel_rfl
theorem zYFb:kOK O18 142 [zSi,zWA]=true:=by kernel_rfl
theorem rM9:kOK O9 91 M9=true:=by kernel_rfl
theorem zQx:kOK O22 93 M81=true:=by kernel_rfl
theorem zYG:kOK O18 142 M40=true:=by kernel_rfl
theorem zXN:kOK O17 216 M30=true:=by kernel_rfl
theorem zUT:kOK O23 172 M90=true:=by kernel_rfl
theorem zDL:cOK O26 m205 [[1,2]]=true:=by kernel_rfl
theorem zAs:cOK O26 m205 [[4,0]]=true:=by kernel_rfl
theorem zQJ:kOK O19 90 M50=true:=by kernel_rfl
end Go.Proofs.YtghhpeemloeljaaGreat

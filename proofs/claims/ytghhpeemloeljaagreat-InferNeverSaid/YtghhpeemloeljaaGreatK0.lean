/- Calls, worked out by the kernel. -/
import Derived.Test.YtghhpeemloeljaaGreatMem
import Derived.KernelRfl
namespace Go.Proofs.YtghhpeemloeljaaGreat
open Go Go.Sim
set_option maxRecDepth 1000000
theorem zMB:kOK O25 48 zFQ=true:=by kernel_rfl
theorem zQN:kOK O15 210 M26=true:=by kernel_rfl
theorem zVs:kOK O19 90 M73=true:=by kernel_rfl
theorem zVl:kOK O22 93 M85=true:=by kernel_rfl
theorem rM5:kOK O6 226 M5=true:=by kernel_rfl
theorem zOu:kOK O19 90 M64=true:=by kernel_rfl
theorem zAO:cOK O26 m205 [[3,1]]=true:=by kernel_rfl
theorem zUv:kOK O18 142 M31=true:=by kernel_rfl
theorem zNa:kOK O39 7 zHK=true:=by kernel_rfl
theorem zLz:kOK O37 191 zHA=true:=by kernel_rfl
theorem rM4:kOK O5 85 M4=true:=by kernel_rfl
theorem zAS:cOK O26 m205 [[4,4]]=true:=by kernel_rfl
end Go.Proofs.YtghhpeemloeljaaGreat

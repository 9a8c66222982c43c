/- Calls, worked out by the kernel. -/
import Derived.Test.YtghhpeemloeljaaGreatMem
import Derived.KernelRfl
namespace Go.Proofs.YtghhpeemloeljaaGreat
open Go Go.Sim
set_option maxRecDepth 1000000
theorem zNo:kOK O33 5 zGc=true:=by kernel_rfl
theorem zQI:kOK O24 95 M94=true:=by kernel_rfl
theorem zQl:kOK O18 142 M47=true:=by kernel_rfl
theorem zNF:kOK O20 92 M77=true:=by kernel_rfl
theorem zMa:kOK O35 190 zKN=true:=by kernel_rfl
theorem zNr:kOK O35 190 zHg=true:=by kernel_rfl
theorem zRa:kOK O15 210 M27=true:=by kernel_rfl
theorem zDS:cOK O26 m205 [[0,1]]=true:=by kernel_rfl
theorem zAB:cOK O26 m205 [[1,4]]=true:=by kernel_rfl
theorem zBB:cOK O26 m205 [[4,2]]=true:=by kernel_rfl
theorem zSP:kOK O19 90 M54=true:=by kernel_rfl
end Go.Proofs.YtghhpeemloeljaaGreat

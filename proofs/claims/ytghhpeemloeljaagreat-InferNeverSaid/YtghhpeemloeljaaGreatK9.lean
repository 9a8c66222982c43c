/- Calls, worked out by the kernel. -/
import Derived.Test.YtghhpeemloeljaaGreatMem
import Derived.KernelRfl
namespace Go.Proofs.YtghhpeemloeljaaGreat
open Go Go.Sim
set_option maxRecDepth 1000000
theorem zOe:kOK O19 90 M55=true:=by kernel_rfl
theorem zNu:kOK O29 100 zJL=true:=by kernel_rfl
theorem zPr:kOK O18 142 M46=true:=by kernel_rfl
theorem zYQ:kOK O9 91 M11=true:=by kernel_rfl
theorem zOd:kOK O18 142 M38=true:=by kernel_rfl
theorem zYj:kOK O19 90 M72=true:=by kernel_rfl
theorem rM8:kOK O8 227 M8=true:=by kernel_rfl
theorem zVN:kOK O16 141 M28=true:=by kernel_rfl
theorem zBQ:cOK O26 m205 [[2,5]]=true:=by kernel_rfl
theorem zCf:cOK O26 m205 [[5,3]]=true:=by kernel_rfl
theorem zYH:kOK O13 88 M22=true:=by kernel_rfl
theorem zMA:cOK O26 m363 c36=true:=by kernel_rfl
theorem rM3:kOK O4 46 M3=true:=by kernel_rfl
theorem zBK:cOK O26 m205 [[3,3]]=true:=by kernel_rfl
end Go.Proofs.YtghhpeemloeljaaGreat

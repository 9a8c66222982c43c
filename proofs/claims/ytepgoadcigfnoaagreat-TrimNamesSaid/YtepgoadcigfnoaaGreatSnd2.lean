/- The tables of oracles answer rightly. -/
import Derived.Test.YtepgoadcigfnoaaGreatSnd
import Derived.Test.YtepgoadcigfnoaaGreatK0
import Derived.Test.YtepgoadcigfnoaaGreatK1
import Derived.Test.YtepgoadcigfnoaaGreatK2
import Derived.Test.YtepgoadcigfnoaaGreatK3
import Derived.Test.YtepgoadcigfnoaaGreatK4
import Derived.Test.YtepgoadcigfnoaaGreatK5
import Derived.Test.YtepgoadcigfnoaaGreatK6
import Derived.Test.YtepgoadcigfnoaaGreatK7
import Derived.Test.YtepgoadcigfnoaaGreatK8
import Derived.Test.YtepgoadcigfnoaaGreatK9
import Derived.Test.YtepgoadcigfnoaaGreatK10
import Derived.Test.YtepgoadcigfnoaaGreatK11
import Derived.Test.YtepgoadcigfnoaaGreatK12
import Derived.Test.YtepgoadcigfnoaaGreatK13
import Derived.Test.YtepgoadcigfnoaaGreatK14
import Derived.Test.YtepgoadcigfnoaaGreatK15
import Derived.Test.YtepgoadcigfnoaaGreatKTop
set_option linter.unusedVariables false
set_option linter.unusedSimpArgs false
namespace Go.Proofs.YtepgoadcigfnoaaGreat
open Go Go.Sim
set_option maxRecDepth 1000000
theorem ok2 : AllOK O2 := allOK_more ok1 (fun _ => rfl) (memoTab_ok fun m hm => by
  simp only [List.mem_cons,List.not_mem_nil,or_false] at hm
  rcases hm with rfl | rfl | rfl | rfl | rfl | rfl | rfl | rfl | rfl | rfl | rfl | rfl | rfl | rfl | rfl | rfl | rfl | rfl | rfl | rfl | rfl | rfl | rfl | rfl | rfl | rfl | rfl | rfl | rfl | rfl
  · exact memo_lift ok1 r163x1635
  · exact memo_lift ok1 r163x1727
  · exact memo_lift ok1 r163x1907
  · exact memo_lift ok1 r163x2025
  · exact memo_lift ok1 r163x2030
  · exact memo_lift ok1 r163x2123
  · exact memo_lift ok1 r163x2141
  · exact memo_lift ok1 r163x2841
  · exact memo_lift ok1 r163x2847
  · exact memo_lift ok1 r163x3131
  · exact memo_lift ok1 r163x3138
  · exact memo_lift ok1 r163x3231
  · exact memo_lift ok1 r163x5640
  · exact memo_lift ok1 r163x5816
  · exact memo_lift ok1 r163x5931
  · exact memo_lift ok1 r163x6020
  · exact memo_lift ok1 r163x6038
  · exact memo_lift ok1 r163x6610
  · exact memo_lift ok1 r163x9080
  · exact memo_lift ok1 r163x9172
  · exact memo_lift ok1 r163x9352
  · exact memo_lift ok1 r163x9470
  · exact memo_lift ok1 r163x9475
  · exact memo_lift ok1 r163x9568
  · exact memo_lift ok1 r163x9586
  · exact memo_lift ok1 r163x10286
  · exact memo_lift ok1 r163x10292
  · exact memo_lift ok1 r163x10576
  · exact memo_lift ok1 r163x10583
  · exact memo_lift ok1 r163x10676
  )
theorem ok3 : AllOK O3 := allOK_more ok2 (fun _ => rfl) (memoTab_ok fun m hm => by
  simp only [List.mem_cons,List.not_mem_nil,or_false] at hm
  rcases hm with rfl | rfl | rfl | rfl | rfl | rfl
  · exact memo_lift ok1 r18x519
  · exact memo_lift ok1 r18x1036
  · exact memo_lift ok1 r18x4512
  · exact memo_lift ok1 r18x5227
  · exact memo_lift ok1 r18x7964
  · exact memo_lift ok1 r18x8481
  )
theorem ok4 : AllOK O4 := allOK_more ok3 (fun _ => rfl) (memoTab_ok fun m hm => by
  simp only [List.mem_cons,List.not_mem_nil,or_false] at hm
  rcases hm with rfl | rfl | rfl
  · exact memo_lift ok1 r194x1452
  · exact memo_lift ok1 r194x5459
  · exact memo_lift ok1 r194x8897
  )
theorem ok5 : AllOK O5 := allOK_more ok4 (fun _ => rfl) (memoTab_ok fun m hm => by
  simp only [List.mem_cons,List.not_mem_nil,or_false] at hm
  rcases hm with rfl | rfl | rfl | rfl | rfl | rfl | rfl | rfl
  · exact memo_lift ok1 r198x2412
  · exact memo_lift ok1 r198x3620
  · exact memo_lift ok1 r198x3697
  · exact memo_lift ok1 r198x6309
  · exact memo_lift ok1 r198x6995
  · exact memo_lift ok1 r198x9857
  · exact memo_lift ok1 r198x11065
  · exact memo_lift ok1 r198x11142
  )
theorem ok6 : AllOK O6 := allOK_more ok5 (fun _ => rfl) (memoTab_ok fun m hm => by
  simp only [List.mem_cons,List.not_mem_nil,or_false] at hm
  rcases hm with rfl | rfl | rfl | rfl | rfl | rfl
  · exact memo_lift ok1 r168x2690
  · exact memo_lift ok1 r168x2956
  · exact memo_lift ok1 r168x6587
  · exact memo_lift ok1 r168x6599
  · exact memo_lift ok1 r168x10135
  · exact memo_lift ok1 r168x10401
  )
theorem ok7 : AllOK O7 := allOK_more ok6 (fun _ => rfl) (memoTab_ok fun m hm => by
  simp only [List.mem_cons,List.not_mem_nil,or_false] at hm
  rcases hm with rfl | rfl | rfl
  · exact memo_lift ok1 r21x167
  · exact memo_lift ok1 r21x4945
  · exact memo_lift ok1 r21x11900
  )
theorem ok8 : AllOK O8 := allOK_more ok7 (fun _ => rfl) (memoTab_ok fun m hm => by
  simp only [List.mem_cons,List.not_mem_nil,or_false] at hm
  rcases hm with rfl | rfl
  · exact memo_lift ok1 r24x3
  · exact memo_lift ok1 r24x4745
  )
theorem ok9 : AllOK O9 := allOK_more ok8 (fun _ => rfl) (memoTab_ok fun m hm => by
  simp only [List.mem_cons,List.not_mem_nil,or_false] at hm
  subst hm
  exact memoN_lift ok1 r75x4477)
theorem ok10 : AllOK O10 := allOK_more ok9 (fun _ => rfl) (memoTab_ok fun m hm => by
  simp only [List.mem_cons,List.not_mem_nil,or_false] at hm
  rcases hm with rfl | rfl
  · exact memoN_lift ok1 r140x4905
  · exact memoN_lift ok1 r140x4936
  )
theorem ok11 : AllOK O11 := allOK_more ok10 (fun _ => rfl) (memoTab_ok fun m hm => by
  simp only [List.mem_cons,List.not_mem_nil,or_false] at hm
  rcases hm with rfl | rfl | rfl
  · exact memo_lift ok10 r164x2124
  · exact memo_lift ok10 r164x6021
  · exact memo_lift ok10 r164x9569
  )
theorem ok12 : AllOK O12 := allOK_more ok11 (fun _ => rfl) (memoTab_ok fun m hm => by
  simp only [List.mem_cons,List.not_mem_nil,or_false] at hm
  rcases hm with rfl | rfl | rfl | rfl | rfl | rfl | rfl | rfl
  · exact memo_lift ok10 r200x2667
  · exact memo_lift ok10 r200x3633
  · exact memo_lift ok10 r200x3927
  · exact memo_lift ok10 r200x6564
  · exact memo_lift ok10 r200x7225
  · exact memo_lift ok10 r200x10112
  · exact memo_lift ok10 r200x11078
  · exact memo_lift ok10 r200x11372
  )
theorem ok13 : AllOK O13 := allOK_more ok12 (fun _ => rfl) (memoTab_ok fun m hm => by
  simp only [List.mem_cons,List.not_mem_nil,or_false] at hm
  rcases hm with rfl | rfl | rfl
  · exact memo_lift ok12 r123x1008
  · exact memo_lift ok12 r123x5206
  · exact memo_lift ok12 r123x8453
  )
theorem ok14 : AllOK O14 := allOK_more ok13 (fun _ => rfl) (memoTab_ok fun m hm => by
  simp only [List.mem_cons,List.not_mem_nil,or_false] at hm
  rcases hm with rfl | rfl | rfl
  · exact memo_lift ok13 r26x433
  · exact memo_lift ok13 r26x7878
  · exact memo_lift ok13 r26x12166
  )
theorem ok15 : AllOK O15 := allOK_more ok14 (fun _ => rfl) (memoTab_ok fun m hm => by
  simp only [List.mem_cons,List.not_mem_nil,or_false] at hm
  subst hm
  exact memo_lift ok13 r30x4477)
theorem okL : AllOK OL := ok15
end Go.Proofs.YtepgoadcigfnoaaGreat

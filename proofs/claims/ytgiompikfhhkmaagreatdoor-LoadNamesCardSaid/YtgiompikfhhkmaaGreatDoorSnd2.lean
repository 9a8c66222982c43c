/- The tables of oracles answer rightly. -/
import Derived.Test.YtgiompikfhhkmaaGreatDoorSnd
import Derived.Test.YtgiompikfhhkmaaGreatDoorK0
import Derived.Test.YtgiompikfhhkmaaGreatDoorK1
import Derived.Test.YtgiompikfhhkmaaGreatDoorK2
import Derived.Test.YtgiompikfhhkmaaGreatDoorK3
import Derived.Test.YtgiompikfhhkmaaGreatDoorK4
import Derived.Test.YtgiompikfhhkmaaGreatDoorK5
import Derived.Test.YtgiompikfhhkmaaGreatDoorK6
import Derived.Test.YtgiompikfhhkmaaGreatDoorK7
import Derived.Test.YtgiompikfhhkmaaGreatDoorK8
import Derived.Test.YtgiompikfhhkmaaGreatDoorK9
import Derived.Test.YtgiompikfhhkmaaGreatDoorK10
import Derived.Test.YtgiompikfhhkmaaGreatDoorK11
import Derived.Test.YtgiompikfhhkmaaGreatDoorK12
import Derived.Test.YtgiompikfhhkmaaGreatDoorK13
import Derived.Test.YtgiompikfhhkmaaGreatDoorK14
import Derived.Test.YtgiompikfhhkmaaGreatDoorK15
import Derived.Test.YtgiompikfhhkmaaGreatDoorKTop
set_option linter.unusedVariables false
set_option linter.unusedSimpArgs false
namespace Go.Proofs.YtgiompikfhhkmaaGreatDoor
open Go Go.Sim
set_option maxRecDepth 1000000
theorem ok2 : AllOK O2 := allOK_more ok1 (fun _ => rfl) (memoTab_ok fun m hm => by
  simp only [List.mem_cons,List.not_mem_nil,or_false] at hm
  rcases hm with rfl | rfl | rfl | rfl | rfl | rfl | rfl | rfl | rfl | rfl | rfl | rfl | rfl | rfl | rfl | rfl | rfl | rfl | rfl | rfl | rfl | rfl | rfl | rfl | rfl | rfl | rfl | rfl | rfl | rfl | rfl | rfl | rfl | rfl | rfl | rfl | rfl | rfl | rfl | rfl | rfl | rfl | rfl
  · exact memo_lift ok1 r201x6197
  · exact memo_lift ok1 r201x6202
  · exact memo_lift ok1 r201x6207
  · exact memo_lift ok1 r201x6212
  · exact memo_lift ok1 r201x6217
  · exact memo_lift ok1 r201x6222
  · exact memo_lift ok1 r201x6444
  · exact memo_lift ok1 r201x6449
  · exact memo_lift ok1 r201x6454
  · exact memo_lift ok1 r201x6459
  · exact memo_lift ok1 r201x6464
  · exact memo_lift ok1 r201x6699
  · exact memo_lift ok1 r201x6704
  · exact memo_lift ok1 r201x6709
  · exact memo_lift ok1 r201x6714
  · exact memo_lift ok1 r201x6719
  · exact memo_lift ok1 r201x6724
  · exact memo_lift ok1 r201x6729
  · exact memo_lift ok1 r201x7074
  · exact memo_lift ok1 r201x7079
  · exact memo_lift ok1 r201x7084
  · exact memo_lift ok1 r201x7089
  · exact memo_lift ok1 r201x7094
  · exact memo_lift ok1 r201x7099
  · exact memo_lift ok1 r201x7223
  · exact memo_lift ok1 r201x7228
  · exact memo_lift ok1 r201x7233
  · exact memo_lift ok1 r201x7238
  · exact memo_lift ok1 r201x7243
  · exact memo_lift ok1 r201x7379
  · exact memo_lift ok1 r201x7384
  · exact memo_lift ok1 r201x7389
  · exact memo_lift ok1 r201x7394
  · exact memo_lift ok1 r201x7399
  · exact memo_lift ok1 r201x7404
  · exact memo_lift ok1 r201x7409
  · exact memo_lift ok1 r201x7523
  · exact memo_lift ok1 r201x7528
  · exact memo_lift ok1 r201x25058
  · exact memo_lift ok1 r201x25496
  · exact memo_lift ok1 r201x27127
  · exact memo_lift ok1 r201x27134
  · exact memo_lift ok1 r201x28493
  )
theorem ok3 : AllOK O3 := allOK_more ok2 (fun _ => rfl) (memoTab_ok fun m hm => by
  simp only [List.mem_cons,List.not_mem_nil,or_false] at hm
  rcases hm with rfl | rfl | rfl | rfl | rfl | rfl | rfl | rfl | rfl | rfl | rfl | rfl | rfl | rfl | rfl | rfl | rfl | rfl | rfl | rfl | rfl | rfl | rfl | rfl | rfl | rfl | rfl
  · exact memo_lift ok1 r172x434
  · exact memo_lift ok1 r172x489
  · exact memo_lift ok1 r172x544
  · exact memo_lift ok1 r172x551
  · exact memo_lift ok1 r172x659
  · exact memo_lift ok1 r172x739
  · exact memo_lift ok1 r172x746
  · exact memo_lift ok1 r172x753
  · exact memo_lift ok1 r172x850
  · exact memo_lift ok1 r172x1373
  · exact memo_lift ok1 r172x1428
  · exact memo_lift ok1 r172x1483
  · exact memo_lift ok1 r172x1490
  · exact memo_lift ok1 r172x1598
  · exact memo_lift ok1 r172x1678
  · exact memo_lift ok1 r172x1685
  · exact memo_lift ok1 r172x1692
  · exact memo_lift ok1 r172x1789
  · exact memo_lift ok1 r172x2311
  · exact memo_lift ok1 r172x2379
  · exact memo_lift ok1 r172x2448
  · exact memo_lift ok1 r172x2469
  · exact memo_lift ok1 r172x2591
  · exact memo_lift ok1 r172x2685
  · exact memo_lift ok1 r172x2706
  · exact memo_lift ok1 r172x2726
  · exact memo_lift ok1 r172x2837
  )
theorem ok4 : AllOK O4 := allOK_more ok3 (fun _ => rfl) (memoTab_ok fun m hm => by
  simp only [List.mem_cons,List.not_mem_nil,or_false] at hm
  subst hm
  exact memo_lift ok1 r104x3020)
theorem ok5 : AllOK O5 := allOK_more ok4 (fun _ => rfl) (memoTab_ok fun m hm => by
  simp only [List.mem_cons,List.not_mem_nil,or_false] at hm
  subst hm
  exact memo_lift ok1 r105x3031)
theorem ok6 : AllOK O6 := allOK_more ok5 (fun _ => rfl) (memoTab_ok fun m hm => by
  simp only [List.mem_cons,List.not_mem_nil,or_false] at hm
  rcases hm with rfl | rfl | rfl | rfl | rfl | rfl | rfl | rfl | rfl | rfl | rfl | rfl | rfl | rfl | rfl | rfl | rfl | rfl
  · exact memo_lift ok1 r158x7947
  · exact memo_lift ok1 r158x8332
  · exact memo_lift ok1 r158x13406
  · exact memo_lift ok1 r158x18503
  · exact memo_lift ok1 r158x23579
  · exact memo_lift ok1 r158x23974
  · exact memo_lift ok1 r158x24599
  · exact memo_lift ok1 r158x25062
  · exact memo_lift ok1 r158x25500
  · exact memo_lift ok1 r158x25855
  · exact memo_lift ok1 r158x26352
  · exact memo_lift ok1 r158x27138
  · exact memo_lift ok1 r158x27664
  · exact memo_lift ok1 r158x28139
  · exact memo_lift ok1 r158x28574
  · exact memo_lift ok1 r158x29221
  · exact memo_lift ok1 r158x29472
  · exact memo_lift ok1 r158x29702
  )
theorem ok7 : AllOK O7 := allOK_more ok6 (fun _ => rfl) (memoTab_ok fun m hm => by
  simp only [List.mem_cons,List.not_mem_nil,or_false] at hm
  subst hm
  exact memoN_lift ok1 r44x30108)
theorem ok8 : AllOK O8 := allOK_more ok7 (fun _ => rfl) (memoTab_ok fun m hm => by
  simp only [List.mem_cons,List.not_mem_nil,or_false] at hm
  subst hm
  exact memo_lift ok1 r65x5259)
theorem ok9 : AllOK O9 := allOK_more ok8 (fun _ => rfl) (memoTab_ok fun m hm => by
  simp only [List.mem_cons,List.not_mem_nil,or_false] at hm
  rcases hm with rfl | rfl | rfl
  · exact memo_lift ok8 r292x8807
  · exact memo_lift ok8 r292x13904
  · exact memo_lift ok8 r292x18980
  )
theorem ok10 : AllOK O10 := allOK_more ok9 (fun _ => rfl) (memoTab_ok fun m hm => by
  simp only [List.mem_cons,List.not_mem_nil,or_false] at hm
  rcases hm with rfl | rfl | rfl | rfl | rfl | rfl | rfl | rfl
  · exact memo_lift ok8 r69x6076
  · exact memo_lift ok8 r69x6325
  · exact memo_lift ok8 r69x6568
  · exact memo_lift ok8 r69x6828
  · exact memo_lift ok8 r69x6953
  · exact memo_lift ok8 r69x7104
  · exact memo_lift ok8 r69x7248
  · exact memo_lift ok8 r69x7414
  )
theorem ok11 : AllOK O11 := allOK_more ok10 (fun _ => rfl) (memoTab_ok fun m hm => by
  simp only [List.mem_cons,List.not_mem_nil,or_false] at hm
  rcases hm with rfl | rfl | rfl | rfl | rfl | rfl | rfl | rfl | rfl | rfl | rfl
  · exact memo_lift ok10 r151x7799
  · exact memo_lift ok10 r151x8185
  · exact memo_lift ok10 r151x8652
  · exact memo_lift ok10 r151x13749
  · exact memo_lift ok10 r151x18825
  · exact memo_lift ok10 r151x26903
  · exact memo_lift ok10 r151x27443
  · exact memo_lift ok10 r151x27969
  · exact memo_lift ok10 r151x29083
  · exact memo_lift ok10 r151x29334
  · exact memo_lift ok10 r151x29564
  )
theorem ok12 : AllOK O12 := allOK_more ok11 (fun _ => rfl) (memoTab_ok fun m hm => by
  simp only [List.mem_cons,List.not_mem_nil,or_false] at hm
  rcases hm with rfl | rfl | rfl | rfl
  · exact memo_lift ok10 r159x24904
  · exact memo_lift ok10 r159x25344
  · exact memo_lift ok10 r159x28468
  · exact memo_lift ok10 r159x28480
  )
theorem ok13 : AllOK O13 := allOK_more ok12 (fun _ => rfl) (memoTab_ok fun m hm => by
  simp only [List.mem_cons,List.not_mem_nil,or_false] at hm
  subst hm
  exact memo_lift ok10 r66x5968)
theorem ok14 : AllOK O14 := allOK_more ok13 (fun _ => rfl) (memoTab_ok fun m hm => by
  simp only [List.mem_cons,List.not_mem_nil,or_false] at hm
  rcases hm with rfl | rfl | rfl | rfl | rfl
  · exact memo_lift ok10 r71x7535
  · exact memo_lift ok10 r71x24293
  · exact memo_lift ok10 r71x26028
  · exact memo_lift ok10 r71x26631
  · exact memo_lift ok10 r71x28811
  )
theorem ok15 : AllOK O15 := allOK_more ok14 (fun _ => rfl) (memoTab_ok fun m hm => by
  simp only [List.mem_cons,List.not_mem_nil,or_false] at hm
  rcases hm with rfl | rfl
  · exact memo_lift ok10 r22x4246
  · exact memo_lift ok10 r22x5308
  )
theorem ok16 : AllOK O16 := allOK_more ok15 (fun _ => rfl) (memoTab_ok fun m hm => by
  simp only [List.mem_cons,List.not_mem_nil,or_false] at hm
  subst hm
  exact memo_lift ok10 r70x7503)
theorem ok17 : AllOK O17 := allOK_more ok16 (fun _ => rfl) (memoTab_ok fun m hm => by
  simp only [List.mem_cons,List.not_mem_nil,or_false] at hm
  rcases hm with rfl | rfl | rfl | rfl
  · exact memo_lift ok16 r76x23902
  · exact memo_lift ok16 r76x25783
  · exact memo_lift ok16 r76x26282
  · exact memo_lift ok16 r76x28500
  )
theorem ok18 : AllOK O18 := allOK_more ok17 (fun _ => rfl) (memoTab_ok fun m hm => by
  simp only [List.mem_cons,List.not_mem_nil,or_false] at hm
  subst hm
  exact memo_lift ok16 r101x993)
theorem ok19 : AllOK O19 := allOK_more ok18 (fun _ => rfl) (memoTab_ok fun m hm => by
  simp only [List.mem_cons,List.not_mem_nil,or_false] at hm
  subst hm
  exact memo_lift ok16 r100x53)
theorem ok20 : AllOK O20 := allOK_more ok19 (fun _ => rfl) (memoTab_ok fun m hm => by
  simp only [List.mem_cons,List.not_mem_nil,or_false] at hm
  subst hm
  exact memo_lift ok19 r24x5256)
theorem ok21 : AllOK O21 := allOK_more ok20 (fun _ => rfl) (memoTab_ok fun m hm => by
  simp only [List.mem_cons,List.not_mem_nil,or_false] at hm
  subst hm
  exact memo_lift ok19 r17x39)
theorem ok22 : AllOK O22 := allOK_more ok21 (fun _ => rfl) (memoTab_ok fun m hm => by
  simp only [List.mem_cons,List.not_mem_nil,or_false] at hm
  subst hm
  exact memo_lift ok19 r23x4906)
theorem ok23 : AllOK O23 := allOK_more ok22 (fun _ => rfl) (memoTab_ok fun m hm => by
  simp only [List.mem_cons,List.not_mem_nil,or_false] at hm
  subst hm
  exact memo_lift ok19 r21x4093)
theorem okL : AllOK OL := ok23
end Go.Proofs.YtgiompikfhhkmaaGreatDoor

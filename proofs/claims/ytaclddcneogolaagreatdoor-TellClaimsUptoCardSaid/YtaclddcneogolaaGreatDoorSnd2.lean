/- The tables of oracles answer rightly. -/
import Derived.Test.YtaclddcneogolaaGreatDoorSnd
import Derived.Test.YtaclddcneogolaaGreatDoorK205x1334
import Derived.Test.YtaclddcneogolaaGreatDoorK205x1339
import Derived.Test.YtaclddcneogolaaGreatDoorK103x1314
import Derived.Test.YtaclddcneogolaaGreatDoorK105x1602
import Derived.Test.YtaclddcneogolaaGreatDoorK107x2098
import Derived.Test.YtaclddcneogolaaGreatDoorK13x6
import Derived.Test.YtaclddcneogolaaGreatDoorK14x272
import Derived.Test.YtaclddcneogolaaGreatDoorK61x896
import Derived.Test.YtaclddcneogolaaGreatDoorK14x3474
import Derived.Test.YtaclddcneogolaaGreatDoorK15x662
import Derived.Test.YtaclddcneogolaaGreatDoorKTop
set_option linter.unusedVariables false
set_option linter.unusedSimpArgs false
namespace Go.Proofs.YtaclddcneogolaaGreatDoor
open Go Go.Sim
set_option maxRecDepth 1000000
theorem ok2 : AllOK O2 := allOK_more ok1 (fun _ => rfl) (memoTab_ok fun m hm => by
  simp only [List.mem_cons,List.not_mem_nil,or_false] at hm
  rcases hm with rfl | rfl
  · exact memo_lift ok1 r205x1334
  · exact memo_lift ok1 r205x1339
  )
theorem ok3 : AllOK O3 := allOK_more ok2 (fun _ => rfl) (memoTab_ok fun m hm => by
  simp only [List.mem_cons,List.not_mem_nil,or_false] at hm
  subst hm
  exact memo_lift ok2 r103x1314)
theorem ok4 : AllOK O4 := allOK_more ok3 (fun _ => rfl) (memoTab_ok fun m hm => by
  simp only [List.mem_cons,List.not_mem_nil,or_false] at hm
  subst hm
  exact memo_lift ok2 r105x1602)
theorem ok5 : AllOK O5 := allOK_more ok4 (fun _ => rfl) (memoTab_ok fun m hm => by
  simp only [List.mem_cons,List.not_mem_nil,or_false] at hm
  subst hm
  exact memo_lift ok2 r107x2098)
theorem ok6 : AllOK O6 := allOK_more ok5 (fun _ => rfl) (memoTab_ok fun m hm => by
  simp only [List.mem_cons,List.not_mem_nil,or_false] at hm
  subst hm
  exact memo_lift ok5 r61x896)
theorem ok7 : AllOK O7 := allOK_more ok6 (fun _ => rfl) (memoTab_ok fun m hm => by
  simp only [List.mem_cons,List.not_mem_nil,or_false] at hm
  subst hm
  exact memo_lift ok5 r13x6)
theorem ok8 : AllOK O8 := allOK_more ok7 (fun _ => rfl) (memoTab_ok fun m hm => by
  simp only [List.mem_cons,List.not_mem_nil,or_false] at hm
  rcases hm with rfl | rfl
  · exact memo_lift ok5 r14x272
  · exact memo_lift ok5 r14x3474
  )
theorem ok9 : AllOK O9 := allOK_more ok8 (fun _ => rfl) (memoTab_ok fun m hm => by
  simp only [List.mem_cons,List.not_mem_nil,or_false] at hm
  subst hm
  exact memo_lift ok8 r15x662)
theorem okL : AllOK OL := ok9
end Go.Proofs.YtaclddcneogolaaGreatDoor

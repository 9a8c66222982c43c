/- The tables of oracles answer rightly. -/
import Derived.Test.YtghhpeemloeljaaGreatMem
import Derived.Test.YtghhpeemloeljaaGreatK0
import Derived.Test.YtghhpeemloeljaaGreatK1
import Derived.Test.YtghhpeemloeljaaGreatK2
import Derived.Test.YtghhpeemloeljaaGreatK3
import Derived.Test.YtghhpeemloeljaaGreatK4
import Derived.Test.YtghhpeemloeljaaGreatK5
import Derived.Test.YtghhpeemloeljaaGreatK6
import Derived.Test.YtghhpeemloeljaaGreatK7
import Derived.Test.YtghhpeemloeljaaGreatK8
import Derived.Test.YtghhpeemloeljaaGreatK9
import Derived.Test.YtghhpeemloeljaaGreatK10
import Derived.Test.YtghhpeemloeljaaGreatK11
import Derived.Test.YtghhpeemloeljaaGreatK12
import Derived.Test.YtghhpeemloeljaaGreatK13
import Derived.Test.YtghhpeemloeljaaGreatKTop
namespace Go.Proofs.YtghhpeemloeljaaGreat
open Go Go.Sim
set_option maxRecDepth 1000000
theorem ok2:zaU O2:=zax ok1 (fun _=>rfl) (zaX (zaR (zag ok1 rM0)) (zbd ok1))
theorem ok3:zaU O3:=zax ok2 (fun _=>rfl) (zaX (zaR (zag ok2 rM1)) (zbd ok2))
theorem ok4:zaU O4:=zax ok3 (fun _=>rfl) (zaX (zaR (zag ok3 rM2)) (zbd ok3))
theorem ok5:zaU O5:=zax ok4 (fun _=>rfl) (zaX (zaR (zag ok4 rM3)) (zbd ok4))
theorem ok6:zaU O6:=zax ok5 (fun _=>rfl) (zaX (zaR (zag ok5 rM4)) (zbd ok5))
theorem ok7:zaU O7:=zax ok6 (fun _=>rfl) (zaX (zaR (zag ok6 rM5)) (zbd ok6))
theorem ok8:zaU O8:=zax ok7 (fun _=>rfl) (zaX (zaR (zag ok7 rM6)) (zbd ok7))
theorem ok9:zaU O9:=zax ok8 (fun _=>rfl) (zaX (zaR (zan (zag ok8 rM7) (zag ok8 rM8))) (zbd ok8))
theorem zCl:zaU O10:=zax ok9 (fun _=>rfl) (zaX (zaR (zan (zag ok9 rM9) (zan (zag ok9 zUX) (zan (zag ok9 zYQ) (zan (zag ok9 zRn) (zan (zag ok9 zVV) (zan (zag ok9 zNK) (zan (zag ok9 zOv) (zan (zag ok9 zRg) (zan (zag ok9 zVp) (zag ok9 zUA))))))))))) (zbd ok9))
theorem zBx:zaU O11:=zax zCl (fun _=>rfl) (zaX (zaR (zag zCl zSg)) (zbd zCl))
theorem zBF:zaU O12:=zax zBx (fun _=>rfl) (zaX (zaR (zag zBx zQS)) (zbd zBx))
theorem zBc:zaU O13:=zax zBF (fun _=>rfl) (zaX (zaR (zag zBF zOR)) (zbd zBF))
theorem zzU:zaU O14:=zax zBc (fun _=>rfl) (zaX (zaR (zag zBc zYH)) (zbd zBc))
theorem zqA:zaU O15:=zax zzU (fun _=>rfl) (zaX (zaR (zag zzU zUS)) (zbd zzU))
theorem zCb:zaU O16:=zax zqA (fun _=>rfl) (zaX (zaR (zan (zag zqA zUN) (zan (zag zqA zRv) (zan (zag zqA zQN) (zag zqA zRa))))) (zbd zqA))
theorem zxI:zaU O17:=zax zCb (fun _=>rfl) (zaX (zaR (zag zCb zVN)) (zbd zCb))
theorem zfo:zaU O18:=zax zxI (fun _=>rfl) (zaX (zaR (zan (zag zxI zXm) (zag zxI zXN))) (zbd zxI))
theorem zdt:zaU O19:=zax zfo (fun _=>rfl) (zaX (zaR (zan (zag zfo zUv) (zan (zag zfo zVw) (zan (zag zfo zYn) (zan (zan (a:=[m82,m85]) (b:=[zSi,zWA]) (zag zfo zYFa) (zag zfo zYFb)) (zan (zag zfo zSX) (zan (zag zfo zQY) (zan (zag zfo zOc) (zan (zag zfo zOd) (zan (zag zfo zWR) (zan (zag zfo zYG) (zan (zag zfo zTq) (zan (zag zfo zXQ) (zan (zag zfo zPN) (zan (zag zfo zWx) (zan (zag zfo zSh) (zan (zag zfo zPr) (zag zfo zQl)))))))))))))))))) (zbd zfo))
theorem zqn:zaU O20:=zax zdt (fun _=>rfl) (zaX (zaR (zan (zag zdt zYm) (zan (zag zdt zRi) (zan (zag zdt zQJ) (zan (zag zdt zXd) (zan (zag zdt zSQ) (zan (zag zdt zYo) (zan (zag zdt zSP) (zan (zag zdt zOe) (zan (zag zdt zQP) (zan (zag zdt zQe) (zan (zag zdt zRR) (zan (zag zdt zTj) (zan (zag zdt zSA) (zan (zag zdt zTX) (zan (zag zdt zUH) (zan (zag zdt zVK) (zan (zag zdt zOu) (zan (zag zdt zOP) (zan (zag zdt zOi) (zan (zag zdt zWT) (zan (zag zdt zNL) (zan (zag zdt zSL) (zan (zag zdt zUW) (zan (zag zdt zVy) (zan (zag zdt zYj) (zan (zag zdt zVs) (zag zdt zSn)))))))))))))))))))))))))))) (zbd zdt))
theorem zzZ:zaU O21:=zax zqn (fun _=>rfl) (zaX (zaR (zan (zag zqn zXD) (zan (zag zqn zRV) (zan (zag zqn zNF) (zag zqn zOH))))) (zbd zqn))
theorem zjB:zaU O22:=zax zzZ (fun _=>rfl) (zaX (zaR (zag zzZ zVZ)) (zbd zzZ))
theorem znL:zaU O23:=zax zjB (fun _=>rfl) (zaX (zaR (zan (zag zjB zXa) (zan (zag zjB zQx) (zan (zag zjB zNY) (zan (zag zjB zUt) (zan (zag zjB zOB) (zan (zag zjB zVl) (zan (zag zjB zUx) (zag zjB zYL))))))))) (zbd zjB))
theorem zic:zaU O24:=zax znL (fun _=>rfl) (zaX (zaR (zan (zag znL zTb) (zan (zag znL zOx) (zan (zag znL zUT) (zan (zag znL zWr) (zag znL zSx)))))) (zbd znL))
theorem ztd:zaU O25:=zax zic (fun _=>rfl) (zaX (zaR (zan (zag zic zWH) (zan (zag zic zQI) (zan (zag zic zUV) (zan (zag zic zYC) (zan (zag zic zVB) (zan (zag zic zOA) (zan (zag zic zTV) (zan (zag zic zMW) (zan (zag zic zNy) (zag zic zNd))))))))))) (zbd zic))
theorem zqj:zaU O26:=zax ztd (fun _=>rfl) (zaX (zaR (zan (zag ztd zMB) (zan (zag ztd zNs) (zag ztd zLT)))) (zbd ztd))
theorem zLB:ziv 96 M106:=fun m hm O'=>by
  obtain rfl:m=m205:=by simpa [M106] using hm
  exact zjm zqj (Nat.le_of_ble_eq_true rfl) (zhA (B:=6) (d:=2) (by decide) (zxa fun i hi j hj=>by
  match i,hi,j,hj with
  | 0,_,0,_=>exact zaW zDE _ (by simp)
  | 0,_,1,_=>exact zaW zDS _ (by simp)
  | 0,_,2,_=>exact zaW zEK _ (by simp)
  | 0,_,3,_=>exact zaW zEJ _ (by simp)
  | 0,_,4,_=>exact zaW zEz _ (by simp)
  | 0,_,5,_=>exact zaW zEQ _ (by simp)
  | 1,_,0,_=>exact zaW zEO _ (by simp)
  | 1,_,1,_=>exact zaW zDw _ (by simp)
  | 1,_,2,_=>exact zaW zDL _ (by simp)
  | 1,_,3,_=>exact zaW zDz _ (by simp)
  | 1,_,4,_=>exact zaW zAB _ (by simp)
  | 1,_,5,_=>exact zaW zBY _ (by simp)
  | 2,_,0,_=>exact zaW zCz _ (by simp)
  | 2,_,1,_=>exact zaW zAU _ (by simp)
  | 2,_,2,_=>exact zaW zCt _ (by simp)
  | 2,_,3,_=>exact zaW zCx _ (by simp)
  | 2,_,4,_=>exact zaW zAW _ (by simp)
  | 2,_,5,_=>exact zaW zBQ _ (by simp)
  | 3,_,0,_=>exact zaW zBS _ (by simp)
  | 3,_,1,_=>exact zaW zAO _ (by simp)
  | 3,_,2,_=>exact zaW zAt _ (by simp)
  | 3,_,3,_=>exact zaW zBK _ (by simp)
  | 3,_,4,_=>exact zaW zBe _ (by simp)
  | 3,_,5,_=>exact zaW zBR _ (by simp)
  | 4,_,0,_=>exact zaW zAs _ (by simp)
  | 4,_,1,_=>exact zaW zCL _ (by simp)
  | 4,_,2,_=>exact zaW zBB _ (by simp)
  | 4,_,3,_=>exact zaW zBT _ (by simp)
  | 4,_,4,_=>exact zaW zAS _ (by simp)
  | 4,_,5,_=>exact zaW zAa _ (by simp)
  | 5,_,0,_=>exact zaW zzW _ (by simp)
  | 5,_,1,_=>exact zaW zAN _ (by simp)
  | 5,_,2,_=>exact zaW zBD _ (by simp)
  | 5,_,3,_=>exact zaW zCf _ (by simp)
  | 5,_,4,_=>exact zaW zzP _ (by simp)
  | 5,_,5,_=>exact zaW zCg _ (by simp)
  ))
theorem zLu:ziv 96 M107:=fun m hm O'=>by
  obtain rfl:m=m346:=by simpa [M107] using hm
  exact zjm zqj (Nat.le_of_ble_eq_true rfl) (zhA (B:=6) (d:=2) (by decide) (zxa fun i hi j hj=>by exact zaW zNi _ (zwC i hi j hj)))
theorem zMz:ziv 96 M108:=fun m hm O'=>by
  obtain rfl:m=m363:=by simpa [M108] using hm
  exact zjm zqj (Nat.le_of_ble_eq_true rfl) (zhA (B:=6) (d:=2) (by decide) (zxa fun i hi j hj=>by exact zaW zMA _ (zwC i hi j hj)))
theorem zLx:ziv 96 M109:=fun m hm O'=>by
  obtain rfl:m=m447:=by simpa [M109] using hm
  exact zjm zqj (Nat.le_of_ble_eq_true rfl) (zhA (B:=6) (d:=2) (by decide) (zxa fun i hi j hj=>by exact zaW zNp _ (zwC i hi j hj)))
theorem zBG:zaU O27:=zax zqj (fun _=>rfl) (zaX (zaR (zan zLB (zan zLu (zan zMz zLx)))) (zbd zqj))
theorem zAJ:zaU O28:=zax zBG (fun _=>rfl) (zaX (zaR (zag zBG zLA)) (zbd zBG))
theorem zBt:zaU O29:=zax zAJ (fun _=>rfl) (zaX (zaR (zag zAJ zLK)) (zbd zAJ))
theorem zxd:zaU O30:=zax zBt (fun _=>rfl) (zaX (zaR (zag zBt zNu)) (zbd zBt))
theorem zCC:zaU O31:=zax zxd (fun _=>rfl) (zaX (zaR (zan (zag zxd zMe) (zag zxd zNf))) (zbd zxd))
theorem zAM:zaU O32:=zax zCC (fun _=>rfl) (zaX (zaR (zag zCC zMN)) (zbd zCC))
theorem zqG:zaU O33:=zax zAM (fun _=>rfl) (zaX (zaR (zag zAM zLF)) (zbd zAM))
theorem zCs:zaU O34:=zax zqG (fun _=>rfl) (zaX (zaR (zan (zag zqG zNo) (zan (zag zqG zML) (zan (zag zqG zLo) (zag zqG zNn))))) (zbd zqG))
theorem zuG:zaU O35:=zax zCs (fun _=>rfl) (zaX (zaR (zag zCs zLD)) (zbd zCs))
theorem zzL:zaU O36:=zax zuG (fun _=>rfl) (zaX (zaR (zan (zag zuG zMa) (zan (zag zuG zLG) (zag zuG zNr)))) (zbd zuG))
theorem zAK:zaU O37:=zax zzL (fun _=>rfl) (zaX (zaR (zag zzL zLN)) (zbd zzL))
theorem zCp:zaU O38:=zax zAK (fun _=>rfl) (zaX (zaR (zag zAK zLz)) (zbd zAK))
theorem zCq:zaU O39:=zax zCp (fun _=>rfl) (zaX (zaR (zag zCp zMb)) (zbd zCp))
theorem zWj:zaU O40:=zax zCq (fun _=>rfl) (zaX (zaR (zag zCq zNa)) (zbd zCq))
theorem okL:zaU OL:=zWj
end Go.Proofs.YtghhpeemloeljaaGreat

/- The simulator on zone.Assign. (Written by genass.py.) The simulator on tags.tag. (Written by gentag.py.) The simulator on shape.good. (Written by gengood.py.) The simulator on tags.valued. (Written by genval.py.) The simulator on zone.Forget of a list. (Written by genfor.py.) Quick forms of the oracles on tables. (Written by genfast.py.) The oracles answer rightly, level by level; the whole call. -/
import Derived.Test.YtgdkljcnebaiiaaGreatPutB
import Derived.Test.YtgdkljcnebaiiaaGreatQA
import Derived.Test.YtgdkljcnebaiiaaGreatMemA
import Derived.Test.YtgdkljcnebaiiaaGreatDrwB
set_option linter.unusedVariables false
set_option linter.unusedSimpArgs false
set_option linter.unusedSimpArgs false
set_option linter.unusedVariables false
namespace Go.Proofs.YtgdkljcnebaiiaaGreat
open Go Go.Sim
set_option maxRecDepth 100000
set_option maxHeartbeats 1000000
variable {O : Nat → Option (List Value → SHeap → Except String (Value × SHeap))} {ih : K}

theorem zBO {E : Env} {ev : Ev} {o : Oper} {x : Int} {h : SHeap} : zqY E ev o .neg (some (.int .i64 x)) h = .ok (.value (.int .i64 (zbh .i64 (0 - x))),h) := (id rfl)
noncomputable def asA : Code := cB (cB (cB (cF Tryz.f195)))
noncomputable def asO : Code := cI (cI (cB (cA asA)))
noncomputable def zKj (n : Nat) : Array Oper := zeS (zbY (cF Tryz.f195)) n
theorem plS : zdp (Eo O) (zKj 0).toList = some ⟨[⟨4,.pure,0⟩,⟨5,.pure,0⟩,⟨6,.pure,0⟩,⟨7,.pure,0⟩,⟨8,.pure,0⟩,⟨9,.pure,0⟩,⟨10,.pure,0⟩,⟨11,.read,0⟩,⟨12,.pure,0⟩,⟨13,.eff,0⟩,⟨14,.pure,0⟩,⟨15,.pure,0⟩,⟨16,.pure,0⟩,⟨17,.pure,0⟩,⟨18,.pure,0⟩,⟨19,.pure,0⟩,⟨20,.pure,0⟩,⟨21,.read,0⟩,⟨22,.pure,0⟩,⟨23,.pure,0⟩,⟨24,.eff,1⟩,⟨0,.pure,0⟩,⟨1,.pure,0⟩,⟨25,.pure,0⟩,⟨26,.pure,0⟩,⟨27,.pure,2⟩,⟨28,.eff,2⟩,⟨2,.pure,0⟩,⟨3,.pure,0⟩,⟨29,.pure,0⟩,⟨30,.pure,0⟩],31,0⟩ := by kernel_rfl
theorem zAx : Tryz.f195.body = some (cF Tryz.f195) := rfl
theorem zTo : (Eo O).F 195 = some Tryz.f195 := by show Tab.funcs.get 195 = _; kernel_rfl
theorem zMv {a b c d : Value} : max Tryz.f195.ntmps (#[a,b,c,d] : Array Value).size = 75 := rfl
theorem zLS : Tryz.f195.results.toList = [.tmp 8,.tmp 9] := rfl
abbrev asU (m : Nat → Int) (y : Nat) (v : Int) : Nat → Int := fun q => zaL (m (y * 60 + q)) v
abbrev asD (m : Nat → Int) (y : Nat) (v : Int) : Nat → Int := fun q => zaL (m (q * 60 + y)) (zbh .i64 (0 - v))
abbrev asF (m : Nat → Int) (x y : Nat) (v : Int) (n : Nat) : Nat → Int := fcF m (asU m y v) (asD m y v) x n
structure AsT (z x y : Nat) (v : Int) (tm : Tr Value) : Prop where
 t0 : tm.get 0 = some (.pointer (some ⟨z,0,none⟩))
 t1 : tm.get 1 = some (.int .i64 (.ofNat x))
 t2 : tm.get 2 = some (.int .i64 (.ofNat y))
 t3 : tm.get 3 = some (.int .i64 v)
structure AsO (z x y nn : Nat) (v : Int) (m : Nat → Int) (n0 : Nat) (g : Nat → Option SObj) (p : Nat) (st : St) : Prop where
 ds : st.defers = []
 T : AsT z x y v st.tm
 t10 : st.tm.get 10 = some (.pointer (some ⟨nn,0,none⟩))
 t37 : st.tm.get 37 = some (.int .i64 (.ofNat p))
 Z : Zon st.h z m
 N : Zon st.h nn (asF m x y v p)
 next : st.h.next = n0
 keep : ∀ e,e < nn → st.h.t.get e = g e
theorem xdO (hsum : ∀ (a b : Int) (h : SHeap),ih (.call 251 #[.int .i64 a,.int .i64 b] .normal) h = .ok (.int .i64 (zaL a b),h)) {z x y nn : Nat} {v : Int} {m : Nat → Int} {n0 : Nat} {g : Nat → Option SObj} (hzn : z ≠ nn) (hn0 : n0 ≤ lim) (hx : x < 60) (hy : y < 60)
  (p : Nat) (hp : p < 60) (st : St) (hI : AsO z x y nn v m n0 g p st) :
  ∃ st',zad asO (Eo O) ih ⟨195,75,.normal,none⟩ st = .ok (.normal,st') ∧ AsO z x y nn v m n0 g (p + 1) st' := by
 obtain ⟨tm,h,dd⟩ := st
 obtain ⟨hd,⟨t0,t1,t2,t3⟩,t10,t37,hZ,hN,hnx,keep⟩ := hI
 simp only at hd t0 t1 t2 t3 t10 t37 hZ hN hnx keep
 subst hd
 have hk' : decide (Int.ofNat p < 60) = true := by simp; omega
 have hk2 : zbh .i64 (Int.ofNat p + 1) = .ofNat (p + 1) := zbo (m := p + 1) (by omega)
 generalize hr : zad asO (Eo O) ih ⟨195,75,.normal,none⟩ ⟨tm,h,[]⟩ = r
 unfold asO asA at hr
 by_cases hpx : p = x
 ·have c1 : (Int.ofNat p != Int.ofNat x) = false := by simp [hpx]
  simp only [SSb,Tryz.f195,cF,Option.getD,cA,cB,cI,zad,zaf,zaq,zan,zax,zao,lim,Nat.reduceLT,Nat.reduceEqDiff,and_true,if_true,if_false,reduceIte,false_and,true_and,Nat.beq,cond_true,cond_false,zag,zah,zai,zat,zar,zaw,Option.bind_some,zap zaz,zal,List.getElem?_toArray,List.getElem?_cons_succ,List.getElem?_cons_zero,List.drop_succ_cons,List.drop_zero,zak,zav,Bool.and_self,Bool.true_and,hsum,t0,t1,t2,t3,t10,t37,hk',hk2,c1] at hr
  subst hr
  refine ⟨_,rfl,rfl,⟨?_,?_,?_,?_⟩,?_,?_,hZ,hN.cg fun k _ => ?_,hnx,keep⟩
  ·simp [zaa,lim,t0]
  ·simp [zaa,lim,t1]
  ·simp [zaa,lim,t2]
  ·simp [zaa,lim,t3]
  ·simp [zaa,lim,t10]
  ·simp [zaa,lim]
  ·unfold asF fcF
   have e1 : (k / 60 = x ∧ k % 60 ≠ x ∧ k % 60 < p) ↔ (k / 60 = x ∧ k % 60 ≠ x ∧ k % 60 < p + 1) := by omega
   have e2 : (k % 60 = x ∧ k / 60 ≠ x ∧ k / 60 < p) ↔ (k % 60 = x ∧ k / 60 ≠ x ∧ k / 60 < p + 1) := by omega
   simp only [e1,e2]
 ·have c1 : (Int.ofNat p != Int.ofNat x) = true := by simp; omega
  have pl := plS (O := O)
  unfold zKj at pl
  simp only [Tryz.f195,cF,Option.getD,zbY,zeS,List.nil_append,List.append_nil,List.cons_append] at pl
  have hnl' : h.next ≤ lim := by rw [hnx]; exact hn0
  have hnl0 : Nat.ble h.next 4294967296 = true := by rw [Nat.ble_eq]; exact hnl'
  obtain ⟨h1,s1,N1,nx1,o1⟩ := hN.st (O := O) hx hp (zaL (m (y * 60 + p)) v)
  obtain ⟨h2,s2,N2,nx2,o2⟩ := N1.st (O := O) hp hx (zaL (m (p * 60 + y)) (zbh .i64 (0 - v)))
  have hnl1 : Nat.ble h1.next 4294967296 = true := by rw [Nat.ble_eq,nx1]; exact hnl'
  simp only [SSb,Tryz.f195,cF,Option.getD,cA,cB,cI,zad,zaf,zaq,zan,zax,zao,lim,Nat.reduceLT,Nat.reduceEqDiff,and_true,if_true,if_false,reduceIte,false_and,true_and,Nat.beq,cond_true,cond_false,zag,zah,zai,zat,zar,zaw,Option.bind_some,zap zaz,zal,List.getElem?_toArray,List.getElem?_cons_succ,List.getElem?_cons_zero,List.drop_succ_cons,List.drop_zero,zak,zav,Bool.and_self,Bool.true_and,hsum,dUn,zBO,t0,t1,t2,t3,t10,t37,hk',hk2,c1,zcF hx,zcM hp,zcF hp,zcM hx,zcF hy,zcM hy,hZ.ld hy hp,hZ.ld hp hy,s1,s2,zco pl hnl',hnl0,hnl1] at hr
  subst hr
  refine ⟨_,rfl,rfl,⟨?_,?_,?_,?_⟩,?_,?_,(hZ.to (o1 _ hzn)).to (o2 _ hzn),N2.cg fun k hk => ?_,nx2.trans (nx1.trans hnx),fun e he => (o2 _ (by omega)).trans ((o1 _ (by omega)).trans (keep e he))⟩
  ·simp [zaa,lim,t0]
  ·simp [zaa,lim,t1]
  ·simp [zaa,lim,t2]
  ·simp [zaa,lim,t3]
  ·simp [zaa,lim,t10]
  ·simp [zaa,lim]
  ·simp only [zdU]
   unfold asF fcF
   by_cases e : k = p * 60 + x
   ·have e1 : ¬ (k / 60 = x ∧ k % 60 ≠ x ∧ k % 60 < p + 1) := by omega
    have e2 : k % 60 = x ∧ k / 60 ≠ x ∧ k / 60 < p + 1 := by omega
    rw [if_pos e,if_neg e1,if_pos e2,show k / 60 = p by omega]
   ·rw [if_neg e]
    by_cases e' : k = x * 60 + p
    ·have e1 : k / 60 = x ∧ k % 60 ≠ x ∧ k % 60 < p + 1 := by omega
     rw [if_pos e',if_pos e1,show k % 60 = p by omega]
    ·have e1 : (k / 60 = x ∧ k % 60 ≠ x ∧ k % 60 < p) ↔ (k / 60 = x ∧ k % 60 ≠ x ∧ k % 60 < p + 1) := by omega
     have e2 : (k % 60 = x ∧ k / 60 ≠ x ∧ k / 60 < p) ↔ (k % 60 = x ∧ k / 60 ≠ x ∧ k / 60 < p + 1) := by omega
     rw [if_neg e']
     simp only [e1,e2]
theorem zxH {z x y nn : Nat} {v : Int} {m : Nat → Int} {n0 : Nat} {g : Nat → Option SObj} (st : St) (hI : AsO z x y nn v m n0 g 60 st) :
  ∃ o st',o ≠ .normal ∧ zad asO (Eo O) ih ⟨195,75,.normal,none⟩ st = .ok (o,st') ∧ (o = .exit 1 ∧ AsO z x y nn v m n0 g 60 st') := by
 obtain ⟨tm,h,dd⟩ := st
 obtain ⟨hd,⟨t0,t1,t2,t3⟩,t10,t37,hZ,hN,hnx,keep⟩ := hI
 simp only at hd t0 t1 t2 t3 t10 t37 hZ hN hnx keep
 subst hd
 have hk' : decide (Int.ofNat 60 < 60) = false := rfl
 have hsum := trivial
 generalize hr : zad asO (Eo O) ih ⟨195,75,.normal,none⟩ ⟨tm,h,[]⟩ = r
 unfold asO asA at hr
 simp only [SSb,Tryz.f195,cF,Option.getD,cA,cB,cI,zad,zaf,zaq,zan,zax,zao,lim,Nat.reduceLT,Nat.reduceEqDiff,and_true,if_true,if_false,reduceIte,false_and,true_and,Nat.beq,cond_true,cond_false,zag,zah,zai,zat,zar,zaw,Option.bind_some,zap zaz,zal,List.getElem?_toArray,List.getElem?_cons_succ,List.getElem?_cons_zero,List.drop_succ_cons,List.drop_zero,zak,zav,Bool.and_self,Bool.true_and,hsum,t37,hk'] at hr
 subst hr
 refine ⟨_,_,by simp,rfl,rfl,rfl,⟨?_,?_,?_,?_⟩,?_,?_,hZ,hN,hnx,keep⟩ <;> simp [zaa,lim,t0,t1,t2,t3,t10,t37]

theorem zxN : cF Tryz.f195 = .seq (cA (cF Tryz.f195)) (.seq (cA (cB (cF Tryz.f195))) (.seq (cA (cB (cB (cF Tryz.f195)))) (.seq (cA asA) (cB asA)))) := rfl
theorem xjG {z x y : Nat} {v : Int} {tm : Tr Value} {h : SHeap} (k : AsT z x y v tm) : ∃ tm',zad (cA (cF Tryz.f195)) (Eo O) ih ⟨195,75,.normal,none⟩ ⟨tm,h,[]⟩ = .ok (.normal,⟨tm',h,[]⟩) ∧ AsT z x y v tm' := by
 obtain ⟨t0,t1,t2,t3⟩ := k
 generalize hr : zad (cA (cF Tryz.f195)) (Eo O) ih ⟨195,75,.normal,none⟩ ⟨tm,h,[]⟩ = r
 have hsum := trivial
 simp only [SSb,Tryz.f195,cF,Option.getD,cA,cB,cI,zad,zaf,zaq,zan,zax,zao,lim,Nat.reduceLT,Nat.reduceEqDiff,and_true,if_true,if_false,reduceIte,false_and,true_and,Nat.beq,cond_true,cond_false,zag,zah,zai,zat,zar,zaw,Option.bind_some,zap zaz,zal,List.getElem?_toArray,List.getElem?_cons_succ,List.getElem?_cons_zero,List.drop_succ_cons,List.drop_zero,zak,zav,Bool.and_self,Bool.true_and,hsum,zdO,t0,t1] at hr
 subst hr
 exact ⟨_,rfl,by simp [zaa,lim,t0],by simp [zaa,lim,t1],by simp [zaa,lim,t2],by simp [zaa,lim,t3]⟩
theorem xbu {z x y : Nat} {v : Int} (hv : ∀ (h : SHeap),ih (.call 157 #[.int .i64 (.ofNat y)] .normal) h = .ok (.bool true,h)) (hb : ∀ (h : SHeap),ih (.call 249 #[.int .i64 v] .normal) h = .ok (.bool true,h)) {m : Nat → Int} {tm : Tr Value} {h : SHeap} (hx : x < 60) (hx1 : 1 ≤ x) (k : AsT z x y v tm) (hZ : Zon h z m) : ∃ tm',zad (cA (cB (cF Tryz.f195))) (Eo O) ih ⟨195,75,.normal,none⟩ ⟨tm,h,[]⟩ = .ok (.normal,⟨tm',h,[]⟩) ∧ AsT z x y v tm' := by
 obtain ⟨t0,t1,t2,t3⟩ := k
 generalize hr : zad (cA (cB (cF Tryz.f195))) (Eo O) ih ⟨195,75,.normal,none⟩ ⟨tm,h,[]⟩ = r
 have hsum := trivial
 have c1 : decide (Int.ofNat x < 1) = false := by simp; omega
 have c2 : decide (Int.ofNat x ≥ 60) = false := by simp; omega
 simp only [SSb,Tryz.f195,cF,Option.getD,cA,cB,cI,zad,zaf,zaq,zan,zax,zao,lim,Nat.reduceLT,Nat.reduceEqDiff,and_true,if_true,if_false,reduceIte,false_and,true_and,Nat.beq,cond_true,cond_false,zag,zah,zai,zat,zar,zaw,Option.bind_some,zap zaz,zal,List.getElem?_toArray,List.getElem?_cons_succ,List.getElem?_cons_zero,List.drop_succ_cons,List.drop_zero,zak,zav,Bool.and_self,Bool.true_and,hsum,dUn,zdB,zbG,zap zvk,zap zqr,hv,hb,hZ.dead,t0,t1,t2,t3,c1,c2] at hr
 subst hr
 exact ⟨_,rfl,by simp [zaa,lim,t0],by simp [zaa,lim,t1],by simp [zaa,lim,t2],by simp [zaa,lim,t3]⟩
theorem zYZ {z x y : Nat} {v : Int} {m : Nat → Int} {tm : Tr Value} {h : SHeap} (k : AsT z x y v tm) (hZ : Zon h z m) (hn : h.next < lim) : ∃ tm' h',zad (cA (cB (cB (cF Tryz.f195)))) (Eo O) ih ⟨195,75,.normal,none⟩ ⟨tm,h,[]⟩ = .ok (.normal,⟨tm',h',[]⟩) ∧ AsT z x y v tm' ∧
  tm'.get 10 = some (.pointer (some ⟨h.next,0,none⟩)) ∧ Zon h' h.next m ∧ h'.next = h.next + 1 ∧ ∀ d,d ≠ h.next → h'.t.get d = h.t.get d := by
 obtain ⟨t0,t1,t2,t3⟩ := k
 obtain ⟨h1,s1,z1,nx1,o1⟩ := zst (O := O) hn m
 generalize hr : zad (cA (cB (cB (cF Tryz.f195)))) (Eo O) ih ⟨195,75,.normal,none⟩ ⟨tm,h,[]⟩ = r
 have hsum := trivial
 obtain ⟨big,hbig⟩ : ∃ big,big = Value.agg (.bool false :: zaR m 3600).toArray := ⟨_,rfl⟩
 have hw := hZ.whole (O := O)
 rw [← hbig] at hw s1
 simp only [SSb,Tryz.f195,cF,Option.getD,cA,cB,cI,zad,zaf,zaq,zan,zax,zao,lim,Nat.reduceLT,Nat.reduceEqDiff,and_true,if_true,if_false,reduceIte,false_and,true_and,Nat.beq,cond_true,cond_false,zag,zah,zai,zat,zar,zaw,Option.bind_some,zap zaz,zal,List.getElem?_toArray,List.getElem?_cons_succ,List.getElem?_cons_zero,List.drop_succ_cons,List.drop_zero,zak,zav,Bool.and_self,Bool.true_and,hsum,zbX,zkH,hw,s1,t0,t1] at hr
 subst hr
 exact ⟨_,h1,rfl,⟨by simp [zaa,lim,t0],by simp [zaa,lim,t1],by simp [zaa,lim,t2],by simp [zaa,lim,t3]⟩,by simp [zaa,lim],z1,nx1,o1⟩
theorem xfx (hsum : ∀ (a b : Int) (h : SHeap),ih (.call 251 #[.int .i64 a,.int .i64 b] .normal) h = .ok (.int .i64 (zaL a b),h)) {z x y nn : Nat} {v : Int} {m : Nat → Int} {tm : Tr Value} {h : SHeap} (k : AsT z x y v tm)
  (t10 : tm.get 10 = some (.pointer (some ⟨nn,0,none⟩))) (hZ : Zon h z m) (hN : Zon h nn m) (hzn : z ≠ nn) (hn : h.next ≤ lim) (hx : x < 60) (hy : y < 60) :
  ∃ tm' h',zad (cA asA) (Eo O) ih ⟨195,75,.normal,none⟩ ⟨tm,h,[]⟩ = .ok (.normal,⟨tm',h',[]⟩) ∧ tm'.get 10 = some (.pointer (some ⟨nn,0,none⟩)) ∧ Zon h' nn (asF m x y v 60) ∧ h'.next = h.next ∧ ∀ e,e < nn → h'.t.get e = h.t.get e := by
 obtain ⟨t0,t1,t2,t3⟩ := k
 have hin : AsO z x y nn v m h.next h.t.get 0 ⟨tm.put 37 (some (.int .i64 0)),h,[]⟩ := by
  refine ⟨rfl,⟨?_,?_,?_,?_⟩,?_,?_,hZ,hN.cg fun k _ => by simp [asF,fcF],rfl,fun _ _ => rfl⟩ <;> simp [zaa,lim,t0,t1,t2,t3,t10]
 obtain ⟨o,⟨tm',h',dd'⟩,e0,e1,e2,e3⟩ := zcC (f := zad asO (Eo O) ih ⟨195,75,.normal,none⟩) (I := fun p st => AsO z x y nn v m h.next h.t.get p st) (N := 60)
  (P := fun o st => o = .exit 1 ∧ AsO z x y nn v m h.next h.t.get 60 st)
  (fun p st hp hI => .inl (xdO hsum hzn hn hx hy p hp st hI)) (fun st hI => zxH st hI) 60 1000000 0 _ (by omega) (by omega) hin
 subst e2
 obtain ⟨rd,_,r10,r37,rZ,rN,rnx,rkeep⟩ := e3
 simp only at rd r10 r37 rZ rN rnx rkeep
 subst rd
 unfold asO asA at e1
 simp only [Tryz.f195,cF,Option.getD,cA,cB,cI,zad] at e1
 generalize hr : zad (cA asA) (Eo O) ih ⟨195,75,.normal,none⟩ ⟨tm,h,[]⟩ = r
 unfold asA at hr
 simp only [SSb,Tryz.f195,cF,Option.getD,cA,cB,cI,zad,zaf,zaq,zan,zax,zao,lim,Nat.reduceLT,Nat.reduceEqDiff,and_true,if_true,if_false,reduceIte,false_and,true_and,Nat.beq,cond_true,cond_false,zag,zah,zai,zat,zar,zaw,Option.bind_some,zap zaz,zal,List.getElem?_toArray,List.getElem?_cons_succ,List.getElem?_cons_zero,List.drop_succ_cons,List.drop_zero,zak,zav,Bool.and_self,Bool.true_and,hsum,e1] at hr
 subst hr
 exact ⟨tm',h',rfl,r10,rN,rnx,rkeep⟩
theorem xkG {tm : Tr Value} {h : SHeap} {nn : Nat} (t10 : tm.get 10 = some (.pointer (some ⟨nn,0,none⟩))) : ∃ tm',zad (cB asA) (Eo O) ih ⟨195,75,.normal,none⟩ ⟨tm,h,[]⟩ = .ok (.ret,⟨tm',h,[]⟩) ∧ tm'.get 8 = some (.pointer (some ⟨nn,0,none⟩)) ∧ tm'.get 9 = some (.int .i64 0) := by
 generalize hr : zad (cB asA) (Eo O) ih ⟨195,75,.normal,none⟩ ⟨tm,h,[]⟩ = r
 have hsum := trivial
 unfold asA at hr
 simp only [SSb,Tryz.f195,cF,Option.getD,cA,cB,cI,zad,zaf,zaq,zan,zax,zao,lim,Nat.reduceLT,Nat.reduceEqDiff,and_true,if_true,if_false,reduceIte,false_and,true_and,Nat.beq,cond_true,cond_false,zag,zah,zai,zat,zar,zaw,Option.bind_some,zap zaz,zal,List.getElem?_toArray,List.getElem?_cons_succ,List.getElem?_cons_zero,List.drop_succ_cons,List.drop_zero,zak,zav,Bool.and_self,Bool.true_and,hsum,t10] at hr
 subst hr
 exact ⟨_,rfl,by simp [zaa,lim],by simp [zaa,lim]⟩
theorem zBu {n : Nat} (hO : O 195 = none) (hO2 : O 157 = none) (hO3 : O 249 = none) (hsum : ∀ (a b : Int) (h : SHeap),run (Eo O) (n + 1) (.call 251 #[.int .i64 a,.int .i64 b] .normal) h = .ok (.int .i64 (zaL a b),h)) {z x y : Nat} {v : Int} {m : Nat → Int} {h : SHeap}
  (hZ : Zon h z m) (hzl : z < h.next) (hn : h.next + 1 ≤ lim) (hx : x < 60) (hx1 : 1 ≤ x) (hy : y < 60) (b1 : -1152921504606846976 ≤ v) (b2 : v ≤ 1152921504606846976) :
  ∃ h2,run (Eo O) (n + 2) (.call 195 #[.pointer (some ⟨z,0,none⟩),.int .i64 (.ofNat x),.int .i64 (.ofNat y),.int .i64 v] .normal) h = .ok (.tuple #[.pointer (some ⟨h.next,0,none⟩),.int .i64 0],h2) ∧ Zon h2 h.next (asF m x y v 60) ∧ h2.next = h.next + 1 ∧ ∀ e,e < h.next → h2.t.get e = h.t.get e := by
 suffices hc : ∃ tm' h',zad (cF Tryz.f195) (Eo O) (run (Eo O) (n + 1)) ⟨195,75,.normal,none⟩ ⟨Tr.ofL 33 [.pointer (some ⟨z,0,none⟩),.int .i64 (.ofNat x),.int .i64 (.ofNat y),.int .i64 v],h,[]⟩ = .ok (.ret,⟨tm',h',[]⟩) ∧
   (tm'.get 8 = some (.pointer (some ⟨h.next,0,none⟩)) ∧ tm'.get 9 = some (.int .i64 0)) ∧ Zon h' h.next (asF m x y v 60) ∧ h'.next = h.next + 1 ∧ ∀ e,e < h.next → h'.t.get e = h.t.get e by
  obtain ⟨tm',h',k1,k2,k3⟩ := hc
  exact ⟨h',(zbB (show (Eo O).O 195 = none from hO)).trans (zaW (vs := [_,_]) zTo zAx zMv rfl zLS k1 (by simp only [zaV,k2.1,k2.2,zcT])),k3⟩
 have k0 : AsT z x y v (Tr.ofL 33 [.pointer (some ⟨z,0,none⟩),.int .i64 (.ofNat x),.int .i64 (.ofNat y),.int .i64 v]) := ⟨rfl,rfl,rfl,rfl⟩
 generalize Tr.ofL 33 [Value.pointer (some ⟨z,0,none⟩),.int .i64 (.ofNat x),.int .i64 (.ofNat y),.int .i64 v] = tm at k0
 have hv := fun h => zpz (O := O) (n := n) hO2 y hy h
 have hb := fun h => zix (O := O) (n := n) hO3 v h b1 b2
 generalize run (Eo O) (n + 1) = ih at hsum hv hb ⊢
 obtain ⟨tm1,a1,k1⟩ := xjG (O := O) (ih := ih) (h := h) k0
 obtain ⟨tm2,a2,k2⟩ := xbu (O := O) (ih := ih) hv hb hx hx1 k1 hZ
 obtain ⟨tm3,H3,a3,k3,t10,z3,nx3,kp3⟩ := zYZ (O := O) (ih := ih) k2 hZ (by omega)
 obtain ⟨tm4,H4,a4,t4,z4,nx4,kp4⟩ := xfx (O := O) hsum k3 t10 (hZ.to (kp3 z (by omega))) z3 (by omega) (by omega) hx hy
 obtain ⟨tm5,a5,t5⟩ := xkG (O := O) (ih := ih) (h := H4) t4
 refine ⟨tm5,H4,?_,t5,z4,by omega,fun e he => (kp4 e he).trans (kp3 e (by omega))⟩
 rw [zxN]
 simp only [zig,a1,a2,a3,a4,a5,zaE]
theorem ztx {c : Tr Value} {x y : Nat} {v : Int} {k : Nat} (hk : k < 3600) : zqH c x y v (zbh .i64 (0 - v)) k = asF (fun k => fv c (1 + k)) x y v 60 k := by
 unfold zqH asF fcF
 by_cases e1 : k / 60 = x
 ·rw [zfm e1,cond_true]
  by_cases e2 : k % 60 = x
  ·rw [zfm e2,cond_true,if_neg (by omega),if_neg (by omega)]
  ·rw [zeV e2,cond_false,if_pos (by omega)]
 ·rw [zeV e1,cond_false,if_neg (by omega)]
  by_cases e2 : k % 60 = x
  ·rw [zfm e2,cond_true,if_pos (by omega)]
  ·rw [zeV e2,cond_false,if_neg (by omega)]
theorem zCk (KE : EnvOK (Eo O)) (hdraw : zcD (Eo O)) (hOK : ∀ f g,(Eo O).O f = some g → zaN (Eo O) f g) (hO : O 195 = none) (hO2 : O 157 = none) (hO3 : O 249 = none) (hO1 : O 251 = none) : zaN (Eo O) 195 (zuZ 278) :=
 zcG (zcU KE hdraw hOK 2) fun args h w h' hlow hok => by
  obtain ⟨l⟩ := args
  unfold zuZ at hok
  split at hok
  ·rename_i z x y v e
   have e : l = [.pointer (some ⟨z,0,none⟩),.int .i64 (.ofNat x),.int .i64 (.ofNat y),.int .i64 v] := e
   subst e
   unfold zyN at hok
   split at hok
   ·rename_i c nn e hz
    split at hok
    ·rename_i cs hcs
     cases e3 : (zbg cs && Nat.beq nn 3601 && Nat.beq e 278 && Nat.ble (h.next + 1) lim && Nat.blt x 60 && Nat.blt y 60 && Nat.ble 1 x && inB v) with
     | false => rw [e3] at hok; simp at hok
     | true =>
     rw [e3,cond_true,zbW,zaA] at hok
     simp only [Bool.and_eq_true] at e3
     obtain ⟨⟨⟨⟨⟨⟨⟨f1,f2⟩,f3⟩,f4⟩,f5⟩,f6⟩,f7⟩,f8⟩ := e3
     obtain rfl := Nat.eq_of_beq_eq_true f2
     obtain rfl := Nat.eq_of_beq_eq_true f3
     have f4 := Nat.le_of_ble_eq_true f4
     have f5 := zaH f5
     have f6 := zaH f6
     have f7 := Nat.le_of_ble_eq_true f7
     unfold inB at f8
     simp only [Bool.and_eq_true,decide_eq_true_eq] at f8
     have hZ := ziN hz hcs f1
     obtain ⟨r,hr⟩ : ∃ r,r = Tr.ofL 33 (Value.bool false :: zbC (zqH c x y v (zbh .i64 (0 - v))) 3600 []) := ⟨_,rfl⟩
     rw [← hr] at hok
     obtain ⟨rfl,rfl⟩ := zas hok
     obtain ⟨h2,k1,⟨c',m1,m2,m3⟩,k3,k4⟩ := zBu (O := O) (n := 0) hO hO2 hO3 (fun a b h => zlM (n := 0) hO1) hZ (hlow _ _ hz) f4 f5 f7 f6 f8.1 f8.2
     refine ⟨h2,k1,k3,fun q x' hq => ?_⟩
     simp only [zaa] at hq
     by_cases eq : q = h.next
     ·rw [if_pos ⟨eq,by omega⟩] at hq
      obtain rfl := (Option.some.inj hq).symm
      refine ⟨_,by rw [eq]; exact m1,ObjLe.cells fun i y' hy => ?_⟩
      rw [hr] at hy
      have hlt := zbE hy
      rw [zbd hlt] at hy
      cases i with
      | zero => simp at hy; subst hy; exact m2
      | succ i =>
       rw [List.getElem?_cons_succ,zdQ,List.append_nil] at hy
       have hi : i < 3600 := by
        rcases Nat.lt_or_ge i 3600 with w | w
        ·exact w
        ·rw [List.getElem?_eq_none (by rw [zcL]; exact w)] at hy; cases hy
       rw [zcO hi] at hy
       rw [← hy,show i + 1 = 1 + i by omega,m3 i hi,ztx hi]
     ·rw [if_neg (fun w => eq w.1)] at hq
      exact ⟨x',by rw [k4 q (hlow q x' hq)]; exact hq,ObjLe.refl x'⟩
    ·simp at hok
   ·simp at hok
  ·simp at hok

end Go.Proofs.YtgdkljcnebaiiaaGreat

set_option linter.unusedSimpArgs false
set_option linter.unusedVariables false
namespace Go.Proofs.YtgdkljcnebaiiaaGreat
open Go Go.Sim
set_option maxRecDepth 100000
set_option maxHeartbeats 1000000
variable {O : Nat → Option (List Value → SHeap → Except String (Value × SHeap))} {ih : K}

theorem ztw : Tryz.f143.body = some (cF Tryz.f143) := rfl
theorem zAq : (Eo O).F 143 = some Tryz.f143 := by show Tab.funcs.get 143 = _; kernel_rfl
theorem zAg {a b : Value} : max Tryz.f143.ntmps (#[a,b] : Array Value).size = 30 := rfl
theorem zvV : Tryz.f143.results.toList = [.cell 4 37] := rfl
theorem E37 : (Eo O).T 37 = some ⟨Tab.t37.desc,3,Tab.t37.bytes,some (.agg #[.int .i64 0,.int .i64 0,.int .i64 0])⟩ := by show Tab.types.get 37 = _; kernel_rfl
theorem zQz : TI.agg ⟨Tab.t37.desc,3,Tab.t37.bytes,some (.agg #[.int .i64 0,.int .i64 0,.int .i64 0])⟩ = true := by kernel_rfl
theorem E38 : (Eo O).T 38 = some ⟨.array 10 37,30,Tab.t38.bytes,Tab.t38.zero⟩ := by show Tab.types.get 38 = _; kernel_rfl
theorem E39 : (Eo O).T 39 = some ⟨.array 32 37,96,Tab.t39.bytes,Tab.t39.zero⟩ := by show Tab.types.get 39 = _; kernel_rfl
theorem zBr {a : Addr} {h : SHeap} : zck (Eo O) ((Eo O).T 195) (some (.pointer (some a))) 0 h = .ok (.value (.pointer (some (zbN a 0))),h) := by kernel_rfl
theorem zAZ {a : Addr} {h : SHeap} : zck (Eo O) ((Eo O).T 195) (some (.pointer (some a))) 1 h = .ok (.value (.pointer (some (zbN a 30))),h) := by kernel_rfl
theorem xkV {a : Addr} {i : Nat} {h : SHeap} (hi : i < 10) : zcK (Eo O) ((Eo O).T 38) (some (.pointer (some a))) (some i) h = zao (.pointer (some (zbN a (i * 3)))) h := by
 rw [E38]
 show zcI (Eo O) 37 10 a i h = _
 unfold zcI
 rw [E37]
 simp only [zbI hi,cond_true]
theorem xkI {a : Addr} {i : Nat} {h : SHeap} (hi : i < 32) : zcK (Eo O) ((Eo O).T 39) (some (.pointer (some a))) (some i) h = zao (.pointer (some (zbN a (i * 3)))) h := by
 rw [E39]
 show zcI (Eo O) 37 32 a i h = _
 unfold zcI
 rw [E37]
 simp only [zbI hi,cond_true]
theorem zqi {h : SHeap} : zfU ((Eo O).T 37) 37 h = .ok (.value (.pointer (some ⟨h.next,0,none⟩)),zaj h 37 [.int .i64 0,.int .i64 0,.int .i64 0] false) := by
 rw [E37]; rfl
theorem ziL {h : SHeap} {cs : List Value} : zfu 195 (some (.agg ⟨cs⟩)) h = .ok (.value (.pointer (some ⟨h.next,0,none⟩)),zaj h 195 cs false) := (id rfl)
theorem zzs {h : SHeap} {b n e k : Nat} {o r : Bool} {c : Tr Value} {x y z : Value} (hb : h.t.get b = some (.cells c n e o r)) (h0 : c.get k = some x) (h1 : c.get (k + 1) = some y) (h2 : c.get (k + 1 + 1) = some z) : loadAt (Eo O) h 37 ⟨b,k,none⟩ = .ok (.agg #[x,y,z]) := by
 unfold loadAt
 simp only [E37,hb]
 rw [if_pos zQz]
 have : range c n k 3 = some [x,y,z] := by
  unfold range
  rw [show Nat.ble 3 12 = true from rfl,cond_true]
  simp only [Tr.toListFrom,h0,h1,h2,zaY]
 simp only [this]
theorem zEw {h : SHeap} (hn : h.next < lim) (k l j : IntKind) (x y z : Int) : ∃ h',zcY (Eo O) 37 (some (.pointer (some ⟨h.next,0,none⟩))) (some (.agg #[.int k x,.int l y,.int j z])) (zaj h 37 [.int .i64 0,.int .i64 0,.int .i64 0] false) = .ok (.value (.tuple #[]),h') ∧
  loadAt (Eo O) h' 37 ⟨h.next,0,none⟩ = .ok (.agg #[.int k x,.int l y,.int j z]) ∧ h'.next = h.next + 1 ∧ ∀ d,d ≠ h.next → h'.t.get d = h.t.get d := by
 have hb : (zaj h 37 [.int .i64 0,.int .i64 0,.int .i64 0] false).t.get h.next = some (.cells (Tr.ofL 33 [.int .i64 0,.int .i64 0,.int .i64 0]) 3 37 false false) := by
  simp only [zaj,SHeap.new,zaa]
  rw [if_pos ⟨trivial,hn⟩]
  rfl
 obtain ⟨t0,ht0⟩ : ∃ t0,t0 = Tr.ofL 33 [Value.int .i64 0,.int .i64 0,.int .i64 0] := ⟨_,rfl⟩
 rw [← ht0] at hb
 have hs : zdg t0 3 0 [.int k x,.int l y,.int j z] = some (((t0.put 0 (some (.int k x))).put 1 (some (.int l y))).put 2 (some (.int j z))) := by
  unfold zdg
  rw [show Nat.ble [Value.int k x,.int l y,.int j z].length 12 = true from rfl,cond_true]
  simp only [zcy,zaA,zaY,zbI (show 0 < 3 by omega),zbI (show 0 + 1 < 3 by omega),zbI (show 0 + 1 + 1 < 3 by omega),cond_true]
 refine ⟨(zaj h 37 [.int .i64 0,.int .i64 0,.int .i64 0] false).set h.next (some (.cells (((t0.put 0 (some (.int k x))).put 1 (some (.int l y))).put 2 (some (.int j z))) 3 37 false false)),?_,?_,rfl,fun d hd => ?_⟩
 ·unfold zcY storeAt
  simp only [E37,hb]
  have h2 : ¬ (Value.agg #[.int k x,.int l y,.int j z]).cells.size ≠ 3 := by simp [Value.cells]
  have h3 : (Value.agg #[.int k x,.int l y,.int j z]).cells.toList = [.int k x,.int l y,.int j z] := by simp [Value.cells]
  rw [if_neg h2,h3]
  simp only [hs]
 ·refine zzs (n := 3) (e := 37) (o := false) (r := false) (by simp only [SHeap.set,zaa]; rw [if_pos ⟨trivial,hn⟩]) ?_ ?_ ?_ <;> simp [zaa,lim]
 ·simp only [SHeap.set,zaa]
  rw [if_neg (fun q => hd q.1)]
  exact zbz hd
theorem ztl {E : Env} {ev : Ev} {o : Oper} {t : TypeId} {x y : Int} {h : SHeap} : zem E ev o .sub t (some (.int .i64 x)) (some (.int .i64 y)) h = .ok (.value (.int .i64 (zbh .i64 (x - y))),h) := zfp (id rfl)

theorem ztM {n : Nat} (hO : O 143 = none) {cs : List Value} {v : Nat} {k l j : IntKind} {x y z : Int} {h : SHeap} (hlen : cs.length = 126) (h2 : 2 ≤ v) (h44 : v < 44) (c0 : cs[(v - 2) * 3]? = some (.int k x)) (c1 : cs[(v - 2) * 3 + 1]? = some (.int l y)) (c2 : cs[(v - 2) * 3 + 1 + 1]? = some (.int j z)) (hn : h.next + 1 < lim) :
  ∃ h2,run (Eo O) (n + 1) (.call 143 #[.agg ⟨cs⟩,.int .i64 (.ofNat v)] .normal) h = .ok (.agg #[.int k x,.int l y,.int j z],h2) ∧ h2.next = h.next + 2 ∧ ∀ d,d < h.next → h2.t.get d = h.t.get d := by
 suffices hcc : ∃ tm' h2,zad (cF Tryz.f143) (Eo O) (run (Eo O) n) ⟨143,30,.normal,none⟩ ⟨Tr.ofL 33 [.agg ⟨cs⟩,.int .i64 (.ofNat v)],h,[]⟩ = .ok (.ret,⟨tm',h2,[]⟩) ∧ tm'.get 4 = some (.pointer (some ⟨h.next + 1,0,none⟩)) ∧
   loadAt (Eo O) h2 37 ⟨h.next + 1,0,none⟩ = .ok (.agg #[.int k x,.int l y,.int j z]) ∧ h2.next = h.next + 2 ∧ ∀ d,d < h.next → h2.t.get d = h.t.get d by
  obtain ⟨tm',h2,k1,k2,k3,k4,k5⟩ := hcc
  exact ⟨h2,(zbB (show (Eo O).O 143 = none from hO)).trans (zaW (vs := [.agg #[.int k x,.int l y,.int j z]]) zAq ztw zAg rfl zvV k1 (by simp only [zaV,k2,k3])),k4,k5⟩
 generalize run (Eo O) n = ih
 generalize hr : zad (cF Tryz.f143) (Eo O) ih ⟨143,30,.normal,none⟩ ⟨Tr.ofL 33 [.agg ⟨cs⟩,.int .i64 (.ofNat v)],h,[]⟩ = q
 have t0 : (Tr.ofL 33 [Value.agg ⟨cs⟩,.int .i64 (.ofNat v)]).get 0 = some (.agg ⟨cs⟩) := rfl
 have t1 : (Tr.ofL 33 [Value.agg ⟨cs⟩,.int .i64 (.ofNat v)]).get 1 = some (.int .i64 (.ofNat v)) := rfl
 generalize Tr.ofL 33 [Value.agg ⟨cs⟩,.int .i64 (.ofNat v)] = tm at hr t0 t1
 have hb : (zaj h 195 cs false).t.get h.next = some (.cells (Tr.ofL 33 cs) cs.length 195 false false) := by
  simp only [zaj,SHeap.new,zaa]
  rw [if_pos ⟨trivial,by omega⟩]
 have nx1 : (zaj h 195 cs false).next = h.next + 1 := (id rfl)
 have kp1 : ∀ d,d < h.next → (zaj h 195 cs false).t.get d = h.t.get d := fun d hd => zbz (by omega)
 generalize hH : zaj h 195 cs false = H1 at hb nx1 kp1
 have hb2 : (zaj H1 37 [.int .i64 0,.int .i64 0,.int .i64 0] false).t.get h.next = some (.cells (Tr.ofL 33 cs) cs.length 195 false false) := (zbz (by omega)).trans hb
 have L := zzs (O := O) hb2 ((zbd (by unfold lim; omega)).trans c0) ((zbd (by unfold lim; omega)).trans c1) ((zbd (by unfold lim; omega)).trans c2)
 have Lo : zbw (Eo O) 37 (some (.pointer (some ⟨h.next,(v - 2) * 3,none⟩))) (zaj H1 37 [.int .i64 0,.int .i64 0,.int .i64 0] false) = .ok (.value (.agg #[.int k x,.int l y,.int j z]),zaj H1 37 [.int .i64 0,.int .i64 0,.int .i64 0] false) := by
  unfold zbw
  simp only [L]
  rfl
 obtain ⟨H2,s1,r1,nx2,kp2⟩ := zEw (O := O) (h := H1) (by omega) k l j x y z
 rw [nx1] at s1 r1 kp2
 have e1 : decide (Int.ofNat v ≥ 2) = true := by simp; omega
 have hsum := trivial
 by_cases hv : v < 12
 ·have e2 : decide (Int.ofNat v < 12) = true := by simp; omega
  have e3 : zbh .i64 (Int.ofNat v - 2) = .ofNat (v - 2) := by
   rw [show Int.ofNat v - 2 = Int.ofNat (v - 2) by simp; omega]
   exact zbo (by omega)
  rw [show (v - 2) * 3 = 0 + 0 + (v - 2) * 3 by omega] at Lo
  simp only [SSb,Tryz.f143,cF,Option.getD,cA,cB,cI,zad,zaf,zaq,zan,zax,zao,lim,Nat.reduceLT,Nat.reduceEqDiff,and_true,if_true,if_false,reduceIte,false_and,true_and,Nat.beq,cond_true,cond_false,zag,zah,zai,zat,zar,zaw,Option.bind_some,zap zaz,zal,List.getElem?_toArray,List.getElem?_cons_succ,List.getElem?_cons_zero,List.drop_succ_cons,List.drop_zero,zak,zav,Bool.and_self,Bool.true_and,hsum,zcf,zbX,ziL,hH,zqi,nx1,ztl,zBr,xkV (show v - 2 < 10 by omega),Lo,s1,e1,e2,e3,t0,t1] at hr
  subst hr
  exact ⟨_,H2,rfl,by simp [zaa,lim],r1,by omega,fun d hd => (kp2 d (by omega)).trans (kp1 d hd)⟩
 ·have e2 : decide (Int.ofNat v < 12) = false := by simp; omega
  have e4 : decide (Int.ofNat v ≥ 12) = true := by simp; omega
  have e5 : decide (Int.ofNat v < 44) = true := by simp; omega
  have e3 : zbh .i64 (Int.ofNat v - 12) = .ofNat (v - 12) := by
   rw [show Int.ofNat v - 12 = Int.ofNat (v - 12) by simp; omega]
   exact zbo (by omega)
  rw [show (v - 2) * 3 = 0 + 30 + (v - 12) * 3 by omega] at Lo
  simp only [SSb,Tryz.f143,cF,Option.getD,cA,cB,cI,zad,zaf,zaq,zan,zax,zao,lim,Nat.reduceLT,Nat.reduceEqDiff,and_true,if_true,if_false,reduceIte,false_and,true_and,Nat.beq,cond_true,cond_false,zag,zah,zai,zat,zar,zaw,Option.bind_some,zap zaz,zal,List.getElem?_toArray,List.getElem?_cons_succ,List.getElem?_cons_zero,List.drop_succ_cons,List.drop_zero,zak,zav,Bool.and_self,Bool.true_and,hsum,zcf,zbX,ziL,hH,zqi,nx1,ztl,zAZ,xkI (show v - 12 < 32 by omega),Lo,s1,e1,e2,e3,e4,e5,t0,t1] at hr
  subst hr
  exact ⟨_,H2,rfl,by simp [zaa,lim],r1,by omega,fun d hd => (kp2 d (by omega)).trans (kp1 d hd)⟩
theorem zvY {h : SHeap} : zfw (Eo O) ((Eo O).T 37) (some []) h = .ok (.value (.agg #[.int .i64 0,.int .i64 0,.int .i64 0]),h) := by kernel_rfl
theorem zAE {n : Nat} (hO : O 143 = none) {cs : List Value} {v : Nat} {h : SHeap} (hv : v < 2 ∨ 44 ≤ v) (hn : h.next + 1 < lim) :
  ∃ h2,run (Eo O) (n + 1) (.call 143 #[.agg ⟨cs⟩,.int .i64 (.ofNat v)] .normal) h = .ok (.agg #[.int .i64 0,.int .i64 0,.int .i64 0],h2) ∧ h2.next = h.next + 2 ∧ ∀ d,d < h.next → h2.t.get d = h.t.get d := by
 suffices hcc : ∃ tm' h2,zad (cF Tryz.f143) (Eo O) (run (Eo O) n) ⟨143,30,.normal,none⟩ ⟨Tr.ofL 33 [.agg ⟨cs⟩,.int .i64 (.ofNat v)],h,[]⟩ = .ok (.ret,⟨tm',h2,[]⟩) ∧ tm'.get 4 = some (.pointer (some ⟨h.next + 1,0,none⟩)) ∧
   loadAt (Eo O) h2 37 ⟨h.next + 1,0,none⟩ = .ok (.agg #[.int .i64 0,.int .i64 0,.int .i64 0]) ∧ h2.next = h.next + 2 ∧ ∀ d,d < h.next → h2.t.get d = h.t.get d by
  obtain ⟨tm',h2,k1,k2,k3,k4,k5⟩ := hcc
  exact ⟨h2,(zbB (show (Eo O).O 143 = none from hO)).trans (zaW (vs := [.agg #[.int .i64 0,.int .i64 0,.int .i64 0]]) zAq ztw zAg rfl zvV k1 (by simp only [zaV,k2,k3])),k4,k5⟩
 generalize run (Eo O) n = ih
 generalize hr : zad (cF Tryz.f143) (Eo O) ih ⟨143,30,.normal,none⟩ ⟨Tr.ofL 33 [.agg ⟨cs⟩,.int .i64 (.ofNat v)],h,[]⟩ = q
 have t0 : (Tr.ofL 33 [Value.agg ⟨cs⟩,.int .i64 (.ofNat v)]).get 0 = some (.agg ⟨cs⟩) := rfl
 have t1 : (Tr.ofL 33 [Value.agg ⟨cs⟩,.int .i64 (.ofNat v)]).get 1 = some (.int .i64 (.ofNat v)) := rfl
 generalize Tr.ofL 33 [Value.agg ⟨cs⟩,.int .i64 (.ofNat v)] = tm at hr t0 t1
 have nx1 : (zaj h 195 cs false).next = h.next + 1 := (id rfl)
 have kp1 : ∀ d,d < h.next → (zaj h 195 cs false).t.get d = h.t.get d := fun d hd => zbz (by omega)
 generalize hH : zaj h 195 cs false = H1 at nx1 kp1
 obtain ⟨H2,s1,r1,nx2,kp2⟩ := zEw (O := O) (h := H1) (by omega) .i64 .i64 .i64 0 0 0
 rw [nx1] at s1 r1 kp2
 have hsum := trivial
 rcases hv with hv | hv
 ·have e1 : decide (Int.ofNat v ≥ 2) = false := by simp; omega
  have e4 : decide (Int.ofNat v ≥ 12) = false := by simp; omega
  simp only [SSb,Tryz.f143,cF,Option.getD,cA,cB,cI,zad,zaf,zaq,zan,zax,zao,lim,Nat.reduceLT,Nat.reduceEqDiff,and_true,if_true,if_false,reduceIte,false_and,true_and,Nat.beq,cond_true,cond_false,zag,zah,zai,zat,zar,zaw,Option.bind_some,zap zaz,zal,List.getElem?_toArray,List.getElem?_cons_succ,List.getElem?_cons_zero,List.drop_succ_cons,List.drop_zero,zak,zav,Bool.and_self,Bool.true_and,hsum,zcf,zbX,zbi,zaI,zvY,ziL,hH,zqi,nx1,s1,e1,e4,t0,t1] at hr
  subst hr
  exact ⟨_,H2,rfl,by simp [zaa,lim],r1,by omega,fun d hd => (kp2 d (by omega)).trans (kp1 d hd)⟩
 ·have e1 : decide (Int.ofNat v ≥ 2) = true := by simp; omega
  have e2 : decide (Int.ofNat v < 12) = false := by simp; omega
  have e4 : decide (Int.ofNat v ≥ 12) = true := by simp; omega
  have e5 : decide (Int.ofNat v < 44) = false := by simp; omega
  simp only [SSb,Tryz.f143,cF,Option.getD,cA,cB,cI,zad,zaf,zaq,zan,zax,zao,lim,Nat.reduceLT,Nat.reduceEqDiff,and_true,if_true,if_false,reduceIte,false_and,true_and,Nat.beq,cond_true,cond_false,zag,zah,zai,zat,zar,zaw,Option.bind_some,zap zaz,zal,List.getElem?_toArray,List.getElem?_cons_succ,List.getElem?_cons_zero,List.drop_succ_cons,List.drop_zero,zak,zav,Bool.and_self,Bool.true_and,hsum,zcf,zbX,zbi,zaI,zvY,ziL,hH,zqi,nx1,s1,e1,e2,e4,e5,t0,t1] at hr
  subst hr
  exact ⟨_,H2,rfl,by simp [zaa,lim],r1,by omega,fun d hd => (kp2 d (by omega)).trans (kp1 d hd)⟩
theorem zCg (KE : EnvOK (Eo O)) (hdraw : zcD (Eo O)) (hOK : ∀ f g,(Eo O).O f = some g → zaN (Eo O) f g) (hO : O 143 = none) : zaN (Eo O) 143 tagQ :=
 zcG (zcU KE hdraw hOK 1) fun args h w h' hlow hok => by
  obtain ⟨l⟩ := args
  unfold tagQ at hok
  split at hok
  ·rename_i cs v e
   have e : l = [.agg ⟨cs⟩,.int .i64 (.ofNat v)] := e
   subst e
   cases e9 : ((Nat.blt v 2 || Nat.ble 44 v) && Nat.blt (h.next + 1) lim) with
   | true =>
    rw [e9,cond_true] at hok
    obtain ⟨rfl,rfl⟩ := zas hok
    simp only [Bool.and_eq_true,Bool.or_eq_true] at e9
    obtain ⟨h2,k1,k2,k3⟩ := zAE (O := O) (n := 0) hO (cs := cs) (v := v) (h := h) (e9.1.imp zaH Nat.le_of_ble_eq_true) (zaH e9.2)
    exact ⟨h2,k1,k2,fun b o hb => ⟨o,by rw [k3 b (hlow b o hb)]; exact hb,ObjLe.refl o⟩⟩
   | false =>
   rw [e9,cond_false] at hok
   cases e3 : (Nat.beq cs.length 126 && Nat.ble 2 v && Nat.blt v 44 && Nat.blt (h.next + 1) lim) with
   | false => rw [e3] at hok; simp at hok
   | true =>
    rw [e3,cond_true] at hok
    simp only [Bool.and_eq_true] at e3
    obtain ⟨⟨⟨f1,f2⟩,f3⟩,f4⟩ := e3
    have f1 := Nat.eq_of_beq_eq_true f1
    have f2 := Nat.le_of_ble_eq_true f2
    have f3 := zaH f3
    have f4 := zaH f4
    unfold zJo at hok
    split at hok
    ·rename_i k x l y j z r hd
     obtain ⟨rfl,rfl⟩ := zas hok
     have at_ : ∀ i,cs[(v - 2) * 3 + i]? = (Value.int k x :: .int l y :: .int j z :: r)[i]? := fun i => by rw [← hd,List.getElem?_drop]
     obtain ⟨h2,k1,k2,k3⟩ := ztM (O := O) (n := 0) hO f1 f2 f3 (by have := at_ 0; simpa using this) (by have := at_ 1; simpa using this) (by have := at_ 2; simpa using this) f4
     exact ⟨h2,k1,k2,fun b o hb => ⟨o,by rw [k3 b (hlow b o hb)]; exact hb,ObjLe.refl o⟩⟩
    ·simp at hok
  ·simp at hok

end Go.Proofs.YtgdkljcnebaiiaaGreat

set_option linter.unusedSimpArgs false
set_option linter.unusedVariables false
namespace Go.Proofs.YtgdkljcnebaiiaaGreat
open Go Go.Sim
set_option maxRecDepth 100000
set_option maxHeartbeats 1000000
variable {O : Nat → Option (List Value → SHeap → Except String (Value × SHeap))} {ih : K}

theorem zAO : Tryz.f283.body = some (cF Tryz.f283) := rfl
theorem zQg : (Eo O).F 283 = some Tryz.f283 := by show Tab.funcs.get 283 = _; kernel_rfl
theorem zNI {a b : Value} : max Tryz.f283.ntmps (#[a,b] : Array Value).size = 56 := rfl
theorem zEL : Tryz.f283.results.toList = [.tmp 4] := rfl
theorem zdi {a : Addr} {h : SHeap} : zck (Eo O) ((Eo O).T 37) (some (.pointer (some a))) 0 h = .ok (.value (.pointer (some (zbN a 0))),h) := by kernel_rfl
theorem zde {a : Addr} {h : SHeap} : zck (Eo O) ((Eo O).T 37) (some (.pointer (some a))) 1 h = .ok (.value (.pointer (some (zbN a 1))),h) := by kernel_rfl
theorem zdf {a : Addr} {h : SHeap} : zck (Eo O) ((Eo O).T 37) (some (.pointer (some a))) 2 h = .ok (.value (.pointer (some (zbN a 2))),h) := by kernel_rfl
theorem zdN {v : Int} {h : SHeap} : zfw (Eo O) ((Eo O).T 37) (some [(0,.int .i64 v)]) h = .ok (.value (.agg #[.int .i64 v,.int .i64 0,.int .i64 0]),h) := by kernel_rfl
theorem zeB {ev : Ev} {o : Oper} {a b e c d f : Int} {h : SHeap} : zem (Eo O) ev o .eql 37 (some (.agg #[.int .i64 a,.int .i64 b,.int .i64 e])) (some (.agg #[.int .i64 c,.int .i64 d,.int .i64 f])) h = .ok (.value (.bool ((a == c) && ((b == d) && (e == f)))),h) := by
 have : zem (Eo O) ev o .eql 37 (some (.agg #[.int .i64 a,.int .i64 b,.int .i64 e])) (some (.agg #[.int .i64 c,.int .i64 d,.int .i64 f])) h = .ok (.value (.bool (zdJ.intEq a c && (zdJ.intEq b d && (zdJ.intEq e f && true)))),h) := by kernel_rfl
 rw [this,zif,zif,zif,Bool.and_true]
theorem zUK {h : SHeap} {x y z : Value} : zfu 37 (some (.agg #[x,y,z])) h = .ok (.value (.pointer (some ⟨h.next,0,none⟩)),zaj h 37 [x,y,z] false) := (id rfl)

theorem zxj {n : Nat} (hO : O 283 = none) {kd a b : Int} {fl : Bool} {h : SHeap} (hn : h.next < lim) :
  ∃ h2,run (Eo O) (n + 1) (.call 283 #[.agg #[.int .i64 kd,.int .i64 a,.int .i64 b],.bool fl] .normal) h = .ok (.bool (zqw kd a b fl),h2) ∧ h2.next = h.next + 1 ∧ ∀ d,d < h.next → h2.t.get d = h.t.get d := by
 suffices hcc : ∃ tm',zad (cF Tryz.f283) (Eo O) (run (Eo O) n) ⟨283,56,.normal,none⟩ ⟨Tr.ofL 33 [.agg #[.int .i64 kd,.int .i64 a,.int .i64 b],.bool fl],h,[]⟩ = .ok (.ret,⟨tm',zaj h 37 [.int .i64 kd,.int .i64 a,.int .i64 b] false,[]⟩) ∧ tm'.get 4 = some (.bool (zqw kd a b fl)) by
  obtain ⟨tm',k1,k2⟩ := hcc
  exact ⟨_,(zbB (show (Eo O).O 283 = none from hO)).trans (zaW (vs := [.bool (zqw kd a b fl)]) zQg zAO zNI rfl zEL k1 (by simp only [zaV,k2,zcT])),rfl,fun d hd => zbz (by omega)⟩
 generalize run (Eo O) n = ih
 generalize hr : zad (cF Tryz.f283) (Eo O) ih ⟨283,56,.normal,none⟩ ⟨Tr.ofL 33 [.agg #[.int .i64 kd,.int .i64 a,.int .i64 b],.bool fl],h,[]⟩ = q
 have t0 : (Tr.ofL 33 [Value.agg #[.int .i64 kd,.int .i64 a,.int .i64 b],.bool fl]).get 0 = some (.agg #[.int .i64 kd,.int .i64 a,.int .i64 b]) := rfl
 have t1 : (Tr.ofL 33 [Value.agg #[.int .i64 kd,.int .i64 a,.int .i64 b],.bool fl]).get 1 = some (.bool fl) := rfl
 generalize Tr.ofL 33 [Value.agg #[.int .i64 kd,.int .i64 a,.int .i64 b],.bool fl] = tm at hr t0 t1
 have hb : (zaj h 37 [.int .i64 kd,.int .i64 a,.int .i64 b] false).t.get h.next = some (.cells (Tr.ofL 33 [.int .i64 kd,.int .i64 a,.int .i64 b]) 3 37 false false) := by
  simp only [zaj,SHeap.new,zaa]
  rw [if_pos ⟨trivial,hn⟩]
  rfl
 have l0 := zch (E := Eo O) (k := 0 + 0) E3 rfl hb (v := .int .i64 kd) rfl
 have l1 := zch (E := Eo O) (k := 0 + 1) E3 rfl hb (v := .int .i64 a) rfl
 have l2 := zch (E := Eo O) (k := 0 + 2) E3 rfl hb (v := .int .i64 b) rfl
 have L := zzs (O := O) hb (k := 0) (x := .int .i64 kd) (y := .int .i64 a) (z := .int .i64 b) rfl rfl rfl
 have la : zbw (Eo O) 37 (some (.pointer (some ⟨h.next,0,none⟩))) (zaj h 37 [.int .i64 kd,.int .i64 a,.int .i64 b] false) = .ok (.value (.agg #[.int .i64 kd,.int .i64 a,.int .i64 b]),zaj h 37 [.int .i64 kd,.int .i64 a,.int .i64 b] false) := by
  unfold zbw
  simp only [L]
  rfl
 have hsum := trivial
 obtain ⟨H1,hH⟩ : ∃ H1,H1 = zaj h 37 [.int .i64 kd,.int .i64 a,.int .i64 b] false := ⟨_,rfl⟩
 have bx : zfu 37 (some (.agg #[.int .i64 kd,.int .i64 a,.int .i64 b])) h = .ok (.value (.pointer (some ⟨h.next,0,none⟩)),H1) := by rw [hH]; exact zUK
 rw [← hH] at l0 l1 l2 la ⊢
 clear hb L hH
 unfold zqw
 cases c5 : (kd == 5) with
 | true =>
  cases x1 : (b == 0) with
  | true =>
   cases x2 : decide (a ≥ 0) with
   | true =>
    cases x3 : decide (a < 8) with
    | true =>
     simp only [SSb,Tryz.f283,cF,Option.getD,cA,cB,cI,zad,zaf,zaq,zan,zax,zao,lim,Nat.reduceLT,Nat.reduceEqDiff,and_true,if_true,if_false,reduceIte,false_and,true_and,Nat.beq,cond_true,cond_false,zag,zah,zai,zat,zar,zaw,Option.bind_some,zap zaz,zal,List.getElem?_toArray,List.getElem?_cons_succ,List.getElem?_cons_zero,List.drop_succ_cons,List.drop_zero,zak,zav,Bool.and_self,Bool.true_and,hsum,zcf,zcu,bx,zdi,zde,zdf,zdN,zeB,zaI,zbi,l0,l1,l2,la,t0,t1,c5,x1,x2,x3] at hr
     subst hr
     exact ⟨_,rfl,by simp [zaa,lim,c5,x1,x2,x3]⟩
    | false =>
     simp only [SSb,Tryz.f283,cF,Option.getD,cA,cB,cI,zad,zaf,zaq,zan,zax,zao,lim,Nat.reduceLT,Nat.reduceEqDiff,and_true,if_true,if_false,reduceIte,false_and,true_and,Nat.beq,cond_true,cond_false,zag,zah,zai,zat,zar,zaw,Option.bind_some,zap zaz,zal,List.getElem?_toArray,List.getElem?_cons_succ,List.getElem?_cons_zero,List.drop_succ_cons,List.drop_zero,zak,zav,Bool.and_self,Bool.true_and,hsum,zcf,zcu,bx,zdi,zde,zdf,zdN,zeB,zaI,zbi,l0,l1,l2,la,t0,t1,c5,x1,x2,x3] at hr
     subst hr
     exact ⟨_,rfl,by simp [zaa,lim,c5,x1,x2,x3]⟩
   | false =>
    simp only [SSb,Tryz.f283,cF,Option.getD,cA,cB,cI,zad,zaf,zaq,zan,zax,zao,lim,Nat.reduceLT,Nat.reduceEqDiff,and_true,if_true,if_false,reduceIte,false_and,true_and,Nat.beq,cond_true,cond_false,zag,zah,zai,zat,zar,zaw,Option.bind_some,zap zaz,zal,List.getElem?_toArray,List.getElem?_cons_succ,List.getElem?_cons_zero,List.drop_succ_cons,List.drop_zero,zak,zav,Bool.and_self,Bool.true_and,hsum,zcf,zcu,bx,zdi,zde,zdf,zdN,zeB,zaI,zbi,l0,l1,l2,la,t0,t1,c5,x1,x2] at hr
    subst hr
    exact ⟨_,rfl,by simp [zaa,lim,c5,x1,x2]⟩
  | false =>
   simp only [SSb,Tryz.f283,cF,Option.getD,cA,cB,cI,zad,zaf,zaq,zan,zax,zao,lim,Nat.reduceLT,Nat.reduceEqDiff,and_true,if_true,if_false,reduceIte,false_and,true_and,Nat.beq,cond_true,cond_false,zag,zah,zai,zat,zar,zaw,Option.bind_some,zap zaz,zal,List.getElem?_toArray,List.getElem?_cons_succ,List.getElem?_cons_zero,List.drop_succ_cons,List.drop_zero,zak,zav,Bool.and_self,Bool.true_and,hsum,zcf,zcu,bx,zdi,zde,zdf,zdN,zeB,zaI,zbi,l0,l1,l2,la,t0,t1,c5,x1] at hr
   subst hr
   exact ⟨_,rfl,by simp [zaa,lim,c5,x1]⟩
 | false =>
  cases c6 : (kd == 6) with
  | true =>
   cases x1 : (b == 0) with
   | true =>
    cases x2 : decide (a ≥ 0) with
    | true =>
     cases x3 : decide (a < 8) with
     | true =>
      simp only [SSb,Tryz.f283,cF,Option.getD,cA,cB,cI,zad,zaf,zaq,zan,zax,zao,lim,Nat.reduceLT,Nat.reduceEqDiff,and_true,if_true,if_false,reduceIte,false_and,true_and,Nat.beq,cond_true,cond_false,zag,zah,zai,zat,zar,zaw,Option.bind_some,zap zaz,zal,List.getElem?_toArray,List.getElem?_cons_succ,List.getElem?_cons_zero,List.drop_succ_cons,List.drop_zero,zak,zav,Bool.and_self,Bool.true_and,hsum,zcf,zcu,bx,zdi,zde,zdf,zdN,zeB,zaI,zbi,l0,l1,l2,la,t0,t1,c5,c6,x1,x2,x3] at hr
      subst hr
      exact ⟨_,rfl,by simp [zaa,lim,c5,c6,x1,x2,x3]⟩
     | false =>
      simp only [SSb,Tryz.f283,cF,Option.getD,cA,cB,cI,zad,zaf,zaq,zan,zax,zao,lim,Nat.reduceLT,Nat.reduceEqDiff,and_true,if_true,if_false,reduceIte,false_and,true_and,Nat.beq,cond_true,cond_false,zag,zah,zai,zat,zar,zaw,Option.bind_some,zap zaz,zal,List.getElem?_toArray,List.getElem?_cons_succ,List.getElem?_cons_zero,List.drop_succ_cons,List.drop_zero,zak,zav,Bool.and_self,Bool.true_and,hsum,zcf,zcu,bx,zdi,zde,zdf,zdN,zeB,zaI,zbi,l0,l1,l2,la,t0,t1,c5,c6,x1,x2,x3] at hr
      subst hr
      exact ⟨_,rfl,by simp [zaa,lim,c5,c6,x1,x2,x3]⟩
    | false =>
     simp only [SSb,Tryz.f283,cF,Option.getD,cA,cB,cI,zad,zaf,zaq,zan,zax,zao,lim,Nat.reduceLT,Nat.reduceEqDiff,and_true,if_true,if_false,reduceIte,false_and,true_and,Nat.beq,cond_true,cond_false,zag,zah,zai,zat,zar,zaw,Option.bind_some,zap zaz,zal,List.getElem?_toArray,List.getElem?_cons_succ,List.getElem?_cons_zero,List.drop_succ_cons,List.drop_zero,zak,zav,Bool.and_self,Bool.true_and,hsum,zcf,zcu,bx,zdi,zde,zdf,zdN,zeB,zaI,zbi,l0,l1,l2,la,t0,t1,c5,c6,x1,x2] at hr
     subst hr
     exact ⟨_,rfl,by simp [zaa,lim,c5,c6,x1,x2]⟩
   | false =>
    simp only [SSb,Tryz.f283,cF,Option.getD,cA,cB,cI,zad,zaf,zaq,zan,zax,zao,lim,Nat.reduceLT,Nat.reduceEqDiff,and_true,if_true,if_false,reduceIte,false_and,true_and,Nat.beq,cond_true,cond_false,zag,zah,zai,zat,zar,zaw,Option.bind_some,zap zaz,zal,List.getElem?_toArray,List.getElem?_cons_succ,List.getElem?_cons_zero,List.drop_succ_cons,List.drop_zero,zak,zav,Bool.and_self,Bool.true_and,hsum,zcf,zcu,bx,zdi,zde,zdf,zdN,zeB,zaI,zbi,l0,l1,l2,la,t0,t1,c5,c6,x1] at hr
    subst hr
    exact ⟨_,rfl,by simp [zaa,lim,c5,c6,x1]⟩
  | false =>
   cases c0 : (kd == 0) with
   | true =>
    cases y1 : (a == 0) with
    | true =>
     cases y2 : (b == 0) with
     | true =>
      simp only [SSb,Tryz.f283,cF,Option.getD,cA,cB,cI,zad,zaf,zaq,zan,zax,zao,lim,Nat.reduceLT,Nat.reduceEqDiff,and_true,if_true,if_false,reduceIte,false_and,true_and,Nat.beq,cond_true,cond_false,zag,zah,zai,zat,zar,zaw,Option.bind_some,zap zaz,zal,List.getElem?_toArray,List.getElem?_cons_succ,List.getElem?_cons_zero,List.drop_succ_cons,List.drop_zero,zak,zav,Bool.and_self,Bool.true_and,hsum,zcf,zcu,bx,zdi,zde,zdf,zdN,zeB,zaI,zbi,l0,l1,l2,la,t0,t1,c5,c6,c0,y1,y2] at hr
      subst hr
      exact ⟨_,rfl,by simp [zaa,lim,c5,c6,c0,y1,y2]⟩
     | false =>
      cases y3 : fl with
      | true =>
       rw [y3] at t1
       cases y4 : decide (b > 0) with
       | true =>
        cases y5 : decide (b ≤ 255) with
        | true =>
         simp only [SSb,Tryz.f283,cF,Option.getD,cA,cB,cI,zad,zaf,zaq,zan,zax,zao,lim,Nat.reduceLT,Nat.reduceEqDiff,and_true,if_true,if_false,reduceIte,false_and,true_and,Nat.beq,cond_true,cond_false,zag,zah,zai,zat,zar,zaw,Option.bind_some,zap zaz,zal,List.getElem?_toArray,List.getElem?_cons_succ,List.getElem?_cons_zero,List.drop_succ_cons,List.drop_zero,zak,zav,Bool.and_self,Bool.true_and,hsum,zcf,zcu,bx,zdi,zde,zdf,zdN,zeB,zaI,zbi,l0,l1,l2,la,t0,t1,c5,c6,c0,y1,y2,y4,y5] at hr
         subst hr
         exact ⟨_,rfl,by simp [zaa,lim,c5,c6,c0,y1,y2,y4,y5]⟩
        | false =>
         simp only [SSb,Tryz.f283,cF,Option.getD,cA,cB,cI,zad,zaf,zaq,zan,zax,zao,lim,Nat.reduceLT,Nat.reduceEqDiff,and_true,if_true,if_false,reduceIte,false_and,true_and,Nat.beq,cond_true,cond_false,zag,zah,zai,zat,zar,zaw,Option.bind_some,zap zaz,zal,List.getElem?_toArray,List.getElem?_cons_succ,List.getElem?_cons_zero,List.drop_succ_cons,List.drop_zero,zak,zav,Bool.and_self,Bool.true_and,hsum,zcf,zcu,bx,zdi,zde,zdf,zdN,zeB,zaI,zbi,l0,l1,l2,la,t0,t1,c5,c6,c0,y1,y2,y4,y5] at hr
         subst hr
         exact ⟨_,rfl,by simp [zaa,lim,c5,c6,c0,y1,y2,y4,y5]⟩
       | false =>
        simp only [SSb,Tryz.f283,cF,Option.getD,cA,cB,cI,zad,zaf,zaq,zan,zax,zao,lim,Nat.reduceLT,Nat.reduceEqDiff,and_true,if_true,if_false,reduceIte,false_and,true_and,Nat.beq,cond_true,cond_false,zag,zah,zai,zat,zar,zaw,Option.bind_some,zap zaz,zal,List.getElem?_toArray,List.getElem?_cons_succ,List.getElem?_cons_zero,List.drop_succ_cons,List.drop_zero,zak,zav,Bool.and_self,Bool.true_and,hsum,zcf,zcu,bx,zdi,zde,zdf,zdN,zeB,zaI,zbi,l0,l1,l2,la,t0,t1,c5,c6,c0,y1,y2,y4] at hr
        subst hr
        exact ⟨_,rfl,by simp [zaa,lim,c5,c6,c0,y1,y2,y4]⟩
      | false =>
       rw [y3] at t1
       simp only [SSb,Tryz.f283,cF,Option.getD,cA,cB,cI,zad,zaf,zaq,zan,zax,zao,lim,Nat.reduceLT,Nat.reduceEqDiff,and_true,if_true,if_false,reduceIte,false_and,true_and,Nat.beq,cond_true,cond_false,zag,zah,zai,zat,zar,zaw,Option.bind_some,zap zaz,zal,List.getElem?_toArray,List.getElem?_cons_succ,List.getElem?_cons_zero,List.drop_succ_cons,List.drop_zero,zak,zav,Bool.and_self,Bool.true_and,hsum,zcf,zcu,bx,zdi,zde,zdf,zdN,zeB,zaI,zbi,l0,l1,l2,la,t0,t1,c5,c6,c0,y1,y2] at hr
       subst hr
       exact ⟨_,rfl,by simp [zaa,lim,c5,c6,c0,y1,y2]⟩
    | false =>
     simp only [SSb,Tryz.f283,cF,Option.getD,cA,cB,cI,zad,zaf,zaq,zan,zax,zao,lim,Nat.reduceLT,Nat.reduceEqDiff,and_true,if_true,if_false,reduceIte,false_and,true_and,Nat.beq,cond_true,cond_false,zag,zah,zai,zat,zar,zaw,Option.bind_some,zap zaz,zal,List.getElem?_toArray,List.getElem?_cons_succ,List.getElem?_cons_zero,List.drop_succ_cons,List.drop_zero,zak,zav,Bool.and_self,Bool.true_and,hsum,zcf,zcu,bx,zdi,zde,zdf,zdN,zeB,zaI,zbi,l0,l1,l2,la,t0,t1,c5,c6,c0,y1] at hr
     subst hr
     exact ⟨_,rfl,by simp [zaa,lim,c5,c6,c0,y1]⟩
   | false =>
    cases c1 : (kd == 1) with
    | true =>
     simp only [SSb,Tryz.f283,cF,Option.getD,cA,cB,cI,zad,zaf,zaq,zan,zax,zao,lim,Nat.reduceLT,Nat.reduceEqDiff,and_true,if_true,if_false,reduceIte,false_and,true_and,Nat.beq,cond_true,cond_false,zag,zah,zai,zat,zar,zaw,Option.bind_some,zap zaz,zal,List.getElem?_toArray,List.getElem?_cons_succ,List.getElem?_cons_zero,List.drop_succ_cons,List.drop_zero,zak,zav,Bool.and_self,Bool.true_and,hsum,zcf,zcu,bx,zdi,zde,zdf,zdN,zeB,zaI,zbi,l0,l1,l2,la,t0,t1,c5,c6,c0,c1] at hr
     subst hr
     exact ⟨_,rfl,by simp [zaa,lim,c5,c6,c0,c1]⟩
    | false =>
     cases c2 : (kd == 2) with
     | true =>
      simp only [SSb,Tryz.f283,cF,Option.getD,cA,cB,cI,zad,zaf,zaq,zan,zax,zao,lim,Nat.reduceLT,Nat.reduceEqDiff,and_true,if_true,if_false,reduceIte,false_and,true_and,Nat.beq,cond_true,cond_false,zag,zah,zai,zat,zar,zaw,Option.bind_some,zap zaz,zal,List.getElem?_toArray,List.getElem?_cons_succ,List.getElem?_cons_zero,List.drop_succ_cons,List.drop_zero,zak,zav,Bool.and_self,Bool.true_and,hsum,zcf,zcu,bx,zdi,zde,zdf,zdN,zeB,zaI,zbi,l0,l1,l2,la,t0,t1,c5,c6,c0,c1,c2] at hr
      subst hr
      exact ⟨_,rfl,by simp [zaa,lim,c5,c6,c0,c1,c2]⟩
     | false =>
      cases c3 : (kd == 3) with
      | true =>
       simp only [SSb,Tryz.f283,cF,Option.getD,cA,cB,cI,zad,zaf,zaq,zan,zax,zao,lim,Nat.reduceLT,Nat.reduceEqDiff,and_true,if_true,if_false,reduceIte,false_and,true_and,Nat.beq,cond_true,cond_false,zag,zah,zai,zat,zar,zaw,Option.bind_some,zap zaz,zal,List.getElem?_toArray,List.getElem?_cons_succ,List.getElem?_cons_zero,List.drop_succ_cons,List.drop_zero,zak,zav,Bool.and_self,Bool.true_and,hsum,zcf,zcu,bx,zdi,zde,zdf,zdN,zeB,zaI,zbi,l0,l1,l2,la,t0,t1,c5,c6,c0,c1,c2,c3] at hr
       subst hr
       exact ⟨_,rfl,by simp [zaa,lim,c5,c6,c0,c1,c2,c3]⟩
      | false =>
       cases c4 : (kd == 4) with
       | true =>
        simp only [SSb,Tryz.f283,cF,Option.getD,cA,cB,cI,zad,zaf,zaq,zan,zax,zao,lim,Nat.reduceLT,Nat.reduceEqDiff,and_true,if_true,if_false,reduceIte,false_and,true_and,Nat.beq,cond_true,cond_false,zag,zah,zai,zat,zar,zaw,Option.bind_some,zap zaz,zal,List.getElem?_toArray,List.getElem?_cons_succ,List.getElem?_cons_zero,List.drop_succ_cons,List.drop_zero,zak,zav,Bool.and_self,Bool.true_and,hsum,zcf,zcu,bx,zdi,zde,zdf,zdN,zeB,zaI,zbi,l0,l1,l2,la,t0,t1,c5,c6,c0,c1,c2,c3,c4] at hr
        subst hr
        exact ⟨_,rfl,by simp [zaa,lim,c5,c6,c0,c1,c2,c3,c4]⟩
       | false =>
        simp only [SSb,Tryz.f283,cF,Option.getD,cA,cB,cI,zad,zaf,zaq,zan,zax,zao,lim,Nat.reduceLT,Nat.reduceEqDiff,and_true,if_true,if_false,reduceIte,false_and,true_and,Nat.beq,cond_true,cond_false,zag,zah,zai,zat,zar,zaw,Option.bind_some,zap zaz,zal,List.getElem?_toArray,List.getElem?_cons_succ,List.getElem?_cons_zero,List.drop_succ_cons,List.drop_zero,zak,zav,Bool.and_self,Bool.true_and,hsum,zcf,zcu,bx,zdi,zde,zdf,zdN,zeB,zaI,zbi,l0,l1,l2,la,t0,t1,c5,c6,c0,c1,c2,c3,c4] at hr
        subst hr
        exact ⟨_,rfl,by simp [zaa,lim,c5,c6,c0,c1,c2,c3,c4]⟩
theorem zBJ (KE : EnvOK (Eo O)) (hdraw : zcD (Eo O)) (hOK : ∀ f g,(Eo O).O f = some g → zaN (Eo O) f g) (hO : O 283 = none) : zaN (Eo O) 283 gooQ :=
 zcG (zcU KE hdraw hOK 1) fun args h w h' hlow hok => by
  obtain ⟨l⟩ := args
  unfold gooQ at hok
  split at hok
  ·rename_i kd a b fl e
   have e : l = [.agg #[.int .i64 kd,.int .i64 a,.int .i64 b],.bool fl] := e
   subst e
   cases hc : Nat.blt h.next lim with
   | false => rw [hc] at hok; simp at hok
   | true =>
    rw [hc,cond_true] at hok
    obtain ⟨rfl,rfl⟩ := zas hok
    obtain ⟨h2,k1,k2,k3⟩ := zxj (O := O) (n := 0) hO (kd := kd) (a := a) (b := b) (fl := fl) (h := h) (zaH hc)
    exact ⟨h2,k1,k2,fun d o hd => ⟨o,by rw [k3 d (hlow d o hd)]; exact hd,ObjLe.refl o⟩⟩
  ·simp at hok

end Go.Proofs.YtgdkljcnebaiiaaGreat

set_option linter.unusedSimpArgs false
set_option linter.unusedVariables false
namespace Go.Proofs.YtgdkljcnebaiiaaGreat
open Go Go.Sim
set_option maxRecDepth 100000
set_option maxHeartbeats 1000000
variable {O : Nat → Option (List Value → SHeap → Except String (Value × SHeap))} {ih : K}

theorem zto : Tryz.f231.body = some (cF Tryz.f231) := rfl
theorem zAd : (Eo O).F 231 = some Tryz.f231 := by show Tab.funcs.get 231 = _; kernel_rfl
theorem zAp {a b : Value} : max Tryz.f231.ntmps (#[a,b] : Array Value).size = 22 := rfl
theorem zxf : Tryz.f231.results.toList = [.tmp 4] := rfl
theorem zzW : zdk (Eo O) 143 := fun _ _ => by kernel_rfl
theorem xew : (Eo O).T 195 = some ⟨Tab.t195.desc,126,Tab.t195.bytes,Tab.t195.zero⟩ := by show Tab.types.get 195 = _; kernel_rfl
theorem zJI : TI.agg ⟨Tab.t195.desc,126,Tab.t195.bytes,Tab.t195.zero⟩ = true := by kernel_rfl
theorem zPz {h : SHeap} {b : Nat} {cs : List Value} (hlen : cs.length = 126) (hb : h.t.get b = some (.cells (Tr.ofL 33 cs) cs.length 195 false false)) : zbw (Eo O) 195 (some (.pointer (some ⟨b,0,none⟩))) h = .ok (.value (.agg ⟨cs⟩),h) := by
 unfold zbw loadAt
 simp only [xew,hb]
 rw [if_pos zJI]
 have := zns (c := Tr.ofL 33 cs) (n := cs.length) (off := 0) (len := 126) (v := cs) hlen (by omega) (by omega) (by rw [hlen]; unfold lim; omega) (fun k hk => by rw [Nat.zero_add]; exact zbd (by unfold lim; omega))
 simp only [this]
 rfl
theorem zAi {k : IntKind} {x : Int} {y z : Value} {h : SHeap} : zpd (Eo O) ((Eo O).T 37) (some (.agg #[.int k x,y,z])) 0 h = .ok (.value (.int k x),h) := by kernel_rfl
theorem zva {n : Nat} (hO : O 231 = none) (hO2 : O 143 = none) {cs : List Value} {v : Nat} {x y z : Int} {h : SHeap} (hlen : cs.length = 126) (h2 : 2 ≤ v) (h44 : v < 44) (c0 : cs[(v - 2) * 3]? = some (.int .i64 x)) (c1 : cs[(v - 2) * 3 + 1]? = some (.int .i64 y)) (c2 : cs[(v - 2) * 3 + 1 + 1]? = some (.int .i64 z)) (hn : h.next + 2 < lim) :
  ∃ h2,run (Eo O) (n + 2) (.call 231 #[.agg ⟨cs⟩,.int .i64 (.ofNat v)] .normal) h = .ok (.bool (bif x != 0 then x != 6 else false),h2) ∧ h2.next = h.next + 3 ∧ ∀ d,d < h.next → h2.t.get d = h.t.get d := by
 have hb : (zaj h 195 cs false).t.get h.next = some (.cells (Tr.ofL 33 cs) cs.length 195 false false) := by
  simp only [zaj,SHeap.new,zaa]
  rw [if_pos ⟨trivial,by omega⟩]
 have nx1 : (zaj h 195 cs false).next = h.next + 1 := (id rfl)
 have kp1 : ∀ d,d < h.next → (zaj h 195 cs false).t.get d = h.t.get d := fun d hd => zbz (by omega)
 have bx : zfu 195 (some (.agg ⟨cs⟩)) h = .ok (.value (.pointer (some ⟨h.next,0,none⟩)),zaj h 195 cs false) := ziL
 generalize zaj h 195 cs false = H1 at hb nx1 kp1 bx
 obtain ⟨H2,e1,nx2,kp2⟩ := ztM (O := O) (n := n) hO2 (h := H1) hlen h2 h44 c0 c1 c2 (by omega)
 refine ⟨H2,?_,by omega,fun d hd => (kp2 d (by omega)).trans (kp1 d hd)⟩
 suffices hcc : ∃ tm',zad (cF Tryz.f231) (Eo O) (run (Eo O) (n + 1)) ⟨231,22,.normal,none⟩ ⟨Tr.ofL 33 [.agg ⟨cs⟩,.int .i64 (.ofNat v)],h,[]⟩ = .ok (.ret,⟨tm',H2,[]⟩) ∧ tm'.get 4 = some (.bool (bif x != 0 then x != 6 else false)) by
  obtain ⟨tm',k1,k2⟩ := hcc
  exact (zbB (show (Eo O).O 231 = none from hO)).trans (zaW (vs := [.bool (bif x != 0 then x != 6 else false)]) zAd zto zAp rfl zxf k1 (by simp only [zaV,k2,zcT]))
 generalize run (Eo O) (n + 1) = ih at e1 ⊢
 generalize hr : zad (cF Tryz.f231) (Eo O) ih ⟨231,22,.normal,none⟩ ⟨Tr.ofL 33 [.agg ⟨cs⟩,.int .i64 (.ofNat v)],h,[]⟩ = q
 have t0 : (Tr.ofL 33 [Value.agg ⟨cs⟩,.int .i64 (.ofNat v)]).get 0 = some (.agg ⟨cs⟩) := rfl
 have t1 : (Tr.ofL 33 [Value.agg ⟨cs⟩,.int .i64 (.ofNat v)]).get 1 = some (.int .i64 (.ofNat v)) := rfl
 generalize Tr.ofL 33 [Value.agg ⟨cs⟩,.int .i64 (.ofNat v)] = tm at hr t0 t1
 have hw := zPz (O := O) hlen hb
 have d1 : decide (Int.ofNat v < 2) = false := by simp; omega
 have d2 : decide (Int.ofNat v ≥ 44) = false := by simp; omega
 have hsum := trivial
 cases c : (x != 0) with
 | true =>
  simp only [SSb,Tryz.f231,cF,Option.getD,cA,cB,cI,zad,zaf,zaq,zan,zax,zao,lim,Nat.reduceLT,Nat.reduceEqDiff,and_true,if_true,if_false,reduceIte,false_and,true_and,Nat.beq,cond_true,cond_false,zag,zah,zai,zat,zar,zaw,Option.bind_some,zap zaz,zal,List.getElem?_toArray,List.getElem?_cons_succ,List.getElem?_cons_zero,List.drop_succ_cons,List.drop_zero,zak,zav,Bool.and_self,Bool.true_and,hsum,zcf,bx,ziP,zAi,zbG,zap zzW,hw,e1,d1,d2,c,t0,t1] at hr
  subst hr
  exact ⟨_,rfl,by simp [zaa,lim]⟩
 | false =>
  simp only [SSb,Tryz.f231,cF,Option.getD,cA,cB,cI,zad,zaf,zaq,zan,zax,zao,lim,Nat.reduceLT,Nat.reduceEqDiff,and_true,if_true,if_false,reduceIte,false_and,true_and,Nat.beq,cond_true,cond_false,zag,zah,zai,zat,zar,zaw,Option.bind_some,zap zaz,zal,List.getElem?_toArray,List.getElem?_cons_succ,List.getElem?_cons_zero,List.drop_succ_cons,List.drop_zero,zak,zav,Bool.and_self,Bool.true_and,hsum,zcf,bx,ziP,zAi,zbG,zap zzW,hw,e1,d1,d2,c,t0,t1] at hr
  subst hr
  exact ⟨_,rfl,by simp [zaa,lim]⟩
theorem zuo {n : Nat} (hO : O 231 = none) {cs : List Value} {v : Nat} {h : SHeap} (hv : v < 2 ∨ 44 ≤ v) (hn : h.next < lim) :
  ∃ h2,run (Eo O) (n + 1) (.call 231 #[.agg ⟨cs⟩,.int .i64 (.ofNat v)] .normal) h = .ok (.bool true,h2) ∧ h2.next = h.next + 1 ∧ ∀ d,d < h.next → h2.t.get d = h.t.get d := by
 have nx1 : (zaj h 195 cs false).next = h.next + 1 := (id rfl)
 have kp1 : ∀ d,d < h.next → (zaj h 195 cs false).t.get d = h.t.get d := fun d hd => zbz (by omega)
 have bx : zfu 195 (some (.agg ⟨cs⟩)) h = .ok (.value (.pointer (some ⟨h.next,0,none⟩)),zaj h 195 cs false) := ziL
 generalize zaj h 195 cs false = H1 at nx1 kp1 bx
 refine ⟨H1,?_,nx1,kp1⟩
 suffices hcc : ∃ tm',zad (cF Tryz.f231) (Eo O) (run (Eo O) n) ⟨231,22,.normal,none⟩ ⟨Tr.ofL 33 [.agg ⟨cs⟩,.int .i64 (.ofNat v)],h,[]⟩ = .ok (.ret,⟨tm',H1,[]⟩) ∧ tm'.get 4 = some (.bool true) by
  obtain ⟨tm',k1,k2⟩ := hcc
  exact (zbB (show (Eo O).O 231 = none from hO)).trans (zaW (vs := [.bool true]) zAd zto zAp rfl zxf k1 (by simp only [zaV,k2,zcT]))
 generalize run (Eo O) n = ih
 generalize hr : zad (cF Tryz.f231) (Eo O) ih ⟨231,22,.normal,none⟩ ⟨Tr.ofL 33 [.agg ⟨cs⟩,.int .i64 (.ofNat v)],h,[]⟩ = q
 have t0 : (Tr.ofL 33 [Value.agg ⟨cs⟩,.int .i64 (.ofNat v)]).get 0 = some (.agg ⟨cs⟩) := rfl
 have t1 : (Tr.ofL 33 [Value.agg ⟨cs⟩,.int .i64 (.ofNat v)]).get 1 = some (.int .i64 (.ofNat v)) := rfl
 generalize Tr.ofL 33 [Value.agg ⟨cs⟩,.int .i64 (.ofNat v)] = tm at hr t0 t1
 have hsum := trivial
 cases d1 : decide (Int.ofNat v < 2) with
 | true =>
  simp only [SSb,Tryz.f231,cF,Option.getD,cA,cB,cI,zad,zaf,zaq,zan,zax,zao,lim,Nat.reduceLT,Nat.reduceEqDiff,and_true,if_true,if_false,reduceIte,false_and,true_and,Nat.beq,cond_true,cond_false,zag,zah,zai,zat,zar,zaw,Option.bind_some,zap zaz,zal,List.getElem?_toArray,List.getElem?_cons_succ,List.getElem?_cons_zero,List.drop_succ_cons,List.drop_zero,zak,zav,Bool.and_self,Bool.true_and,hsum,zcf,bx,d1,t0,t1] at hr
  subst hr
  exact ⟨_,rfl,by simp [zaa,lim]⟩
 | false =>
  have d2 : decide (Int.ofNat v ≥ 44) = true := by simp at d1 ⊢; omega
  simp only [SSb,Tryz.f231,cF,Option.getD,cA,cB,cI,zad,zaf,zaq,zan,zax,zao,lim,Nat.reduceLT,Nat.reduceEqDiff,and_true,if_true,if_false,reduceIte,false_and,true_and,Nat.beq,cond_true,cond_false,zag,zah,zai,zat,zar,zaw,Option.bind_some,zap zaz,zal,List.getElem?_toArray,List.getElem?_cons_succ,List.getElem?_cons_zero,List.drop_succ_cons,List.drop_zero,zak,zav,Bool.and_self,Bool.true_and,hsum,zcf,bx,d1,d2,t0,t1] at hr
  subst hr
  exact ⟨_,rfl,by simp [zaa,lim]⟩
theorem zvI (KE : EnvOK (Eo O)) (hdraw : zcD (Eo O)) (hOK : ∀ f g,(Eo O).O f = some g → zaN (Eo O) f g) (hO : O 231 = none) (hO2 : O 143 = none) : zaN (Eo O) 231 valQ :=
 zcG (zcU KE hdraw hOK 2) fun args h w h' hlow hok => by
  obtain ⟨l⟩ := args
  unfold valQ at hok
  split at hok
  ·rename_i cs v e
   have e : l = [.agg ⟨cs⟩,.int .i64 (.ofNat v)] := e
   subst e
   cases e3 : (Nat.beq cs.length 126 && Nat.blt (h.next + 2) lim) with
   | false => rw [e3] at hok; simp at hok
   | true =>
    rw [e3,cond_true] at hok
    simp only [Bool.and_eq_true] at e3
    have f1 := Nat.eq_of_beq_eq_true e3.1
    have f4 := zaH e3.2
    cases e4 : (Nat.blt v 2 || Nat.ble 44 v) with
    | true =>
     rw [e4,cond_true] at hok
     obtain ⟨rfl,rfl⟩ := zas hok
     rw [Bool.or_eq_true] at e4
     obtain ⟨h2,k1,k2,k3⟩ := zuo (O := O) (n := 1) hO (cs := cs) (h := h) (e4.imp zaH Nat.le_of_ble_eq_true) (by omega)
     exact ⟨h2,k1,k2,fun b o hb => ⟨o,by rw [k3 b (hlow b o hb)]; exact hb,ObjLe.refl o⟩⟩
    | false =>
     rw [e4,cond_false] at hok
     rw [Bool.or_eq_false_iff] at e4
     have g1 : 2 ≤ v := by
      rcases Nat.lt_or_ge v 2 with q | q
      ·rw [zbI q] at e4; cases e4.1
      ·exact q
     have g2 : v < 44 := by
      rcases Nat.lt_or_ge v 44 with q | q
      ·exact q
      ·have : Nat.ble 44 v = true := by rw [Nat.ble_eq]; exact q
       rw [this] at e4; cases e4.2
     unfold zFF at hok
     split at hok
     ·rename_i x y z r hd
      obtain ⟨rfl,rfl⟩ := zas hok
      have at_ : ∀ i,cs[(v - 2) * 3 + i]? = (Value.int .i64 x :: .int .i64 y :: .int .i64 z :: r)[i]? := fun i => by rw [← hd,List.getElem?_drop]
      obtain ⟨h2,k1,k2,k3⟩ := zva (O := O) (n := 0) hO hO2 f1 g1 g2 (by have := at_ 0; simpa using this) (by have := at_ 1; simpa using this) (by have := at_ 2; simpa using this) f4
      exact ⟨h2,k1,k2,fun b o hb => ⟨o,by rw [k3 b (hlow b o hb)]; exact hb,ObjLe.refl o⟩⟩
     ·simp at hok
  ·simp at hok

end Go.Proofs.YtgdkljcnebaiiaaGreat

set_option linter.unusedSimpArgs false
set_option linter.unusedVariables false
namespace Go.Proofs.YtgdkljcnebaiiaaGreat
open Go Go.Sim
set_option maxRecDepth 100000
set_option maxHeartbeats 1000000
variable {O : Nat → Option (List Value → SHeap → Except String (Value × SHeap))} {ih : K}

theorem iaL {b o L c j : Nat} {h : SHeap} (hj : j < L) : zcK (Eo O) ((Eo O).T 90) (some (.slice (some ⟨b,o,none⟩) L c)) (some j) h = .ok (.value (.pointer (some ⟨b,o + j,none⟩)),h) := by
 rw [E60]
 show zcI (Eo O) 3 L ⟨b,o,none⟩ j h = _
 unfold zcI
 rw [E3]
 simp only [zbI hj,cond_true,zao,zaM,Nat.mul_one]
def Lst (h : SHeap) (s o : Nat) (xs : List Int) : Prop := ∃ t n e op r,h.t.get s = some (.cells t n e op r) ∧ ∀ j x,xs[j]? = some x → t.get (o + j) = some (.int .i64 x)
theorem Lst.to {h h' : SHeap} {s o : Nat} {xs : List Int} (k : Lst h s o xs) (e : h'.t.get s = h.t.get s) : Lst h' s o xs := let ⟨t,n,y,op,r,h1,h2⟩ := k; ⟨t,n,y,op,r,e.trans h1,h2⟩
theorem Lst.ld {h : SHeap} {s o : Nat} {xs : List Int} (k : Lst h s o xs) {j : Nat} {x : Int} (hj : xs[j]? = some x) : zbw (Eo O) 3 (some (.pointer (some ⟨s,o + j,none⟩))) h = .ok (.value (.int .i64 x),h) := by
 obtain ⟨t,n,e,op,r,h1,h2⟩ := k
 exact zch (E := Eo O) E3 rfl h1 (h2 j x hj)
def SlN (h : SHeap) (z : Nat) (sv : Value) (xs : List Int) : Prop := (xs = [] ∧ ∃ c,sv = .slice none 0 c) ∨ ∃ s o c,s < z ∧ sv = .slice (some ⟨s,o,none⟩) xs.length c ∧ Lst h s o xs
def fo1 (f : Nat → Int) (x : Int) : Nat → Int := if 1 ≤ x ∧ x < 60 then foF f x.toNat 60 else f
def foS (f : Nat → Int) (xs : List Int) : Nat → Int := xs.foldl fo1 f
theorem zxk {f : Nat → Int} {xs : List Int} {j : Nat} {x : Int} (h : xs[j]? = some x) : foS f (xs.take (j + 1)) = fo1 (foS f (xs.take j)) x := by
 obtain ⟨hj,rfl⟩ := List.getElem?_eq_some_iff.1 h
 rw [foS,List.take_succ_eq_append_getElem hj,List.foldl_append]
 rfl
structure FlI (f : Nat → Int) (x z : Nat) (sv : Value) (L j n0 : Nat) (g : Nat → Option SObj) (i : Nat) (st : St) : Prop where
 ds : st.defers = []
 t5 : st.tm.get 5 = some (.pointer (some ⟨z,0,none⟩))
 t7 : st.tm.get 7 = some (.int .i64 (.ofNat x))
 t17 : st.tm.get 17 = some sv
 t18 : st.tm.get 18 = some (.int .i64 (.ofNat L))
 t19 : st.tm.get 19 = some (.int .i64 (.ofNat j))
 t29 : st.tm.get 29 = some (.int .i64 (.ofNat i))
 N : Zon st.h z (foF f x i)
 next : st.h.next = n0
 keep : ∀ e,e < z → st.h.t.get e = g e
theorem zPs {f : Nat → Int} {x z L j n0 : Nat} {sv : Value} {g : Nat → Option SObj} (hx : x < 60) (hn0 : n0 ≤ lim) (i : Nat) (hi : i < 60) (st : St) (hI : FlI f x z sv L j n0 g i st) :
  ∃ st',zad foB (Eo O) ih ⟨137,47,.normal,none⟩ st = .ok (.normal,st') ∧ FlI f x z sv L j n0 g (i + 1) st' := by
 obtain ⟨tm,h,dd⟩ := st
 obtain ⟨hd,t5,t7,t17,t18,t19,t29,hN,hnx,keep⟩ := hI
 simp only at hd t5 t7 t17 t18 t19 t29 hN hnx keep
 subst hd
 have hsum := trivial
 have hk' : decide (Int.ofNat i < 60) = true := by simp; omega
 have hk2 : zbh .i64 (Int.ofNat i + 1) = .ofNat (i + 1) := zbo (m := i + 1) (by omega)
 generalize hr : zad foB (Eo O) ih ⟨137,47,.normal,none⟩ ⟨tm,h,[]⟩ = r
 unfold foB foO at hr
 by_cases hix : i = x
 ·have c1 : (Int.ofNat i != Int.ofNat x) = false := by simp [hix]
  simp only [SSb,Tryz.f137,cF,Option.getD,cA,cB,cI,zad,zaf,zaq,zan,zax,zao,lim,Nat.reduceLT,Nat.reduceEqDiff,and_true,if_true,if_false,reduceIte,false_and,true_and,Nat.beq,cond_true,cond_false,zag,zah,zai,zat,zar,zaw,Option.bind_some,zap zaz,zal,List.getElem?_toArray,List.getElem?_cons_succ,List.getElem?_cons_zero,List.drop_succ_cons,List.drop_zero,zak,zav,Bool.and_self,Bool.true_and,hsum,t5,t7,t17,t18,t19,t29,hk',hk2,c1] at hr
  subst hr
  refine ⟨_,rfl,rfl,?_,?_,?_,?_,?_,?_,hN.cg fun k _ => ?_,hnx,keep⟩
  ·simp [zaa,lim,t5]
  ·simp [zaa,lim,t7]
  ·simp [zaa,lim,t17]
  ·simp [zaa,lim,t18]
  ·simp [zaa,lim,t19]
  ·simp [zaa,lim]
  ·unfold foF fcF
   have e1 : (k / 60 = x ∧ k % 60 ≠ x ∧ k % 60 < i) ↔ (k / 60 = x ∧ k % 60 ≠ x ∧ k % 60 < i + 1) := by omega
   have e2 : (k % 60 = x ∧ k / 60 ≠ x ∧ k / 60 < i) ↔ (k % 60 = x ∧ k / 60 ≠ x ∧ k / 60 < i + 1) := by omega
   simp only [e1,e2]
 ·have c1 : (Int.ofNat i != Int.ofNat x) = true := by simp; omega
  have pl := zGH (O := O)
  unfold zzB at pl
  simp only [Tryz.f137,cF,Option.getD,zbY,zeS,List.nil_append,List.append_nil,List.cons_append] at pl
  have hnl' : h.next ≤ lim := by rw [hnx]; exact hn0
  obtain ⟨h1,s1,N1,nx1,o1⟩ := hN.st (O := O) hx hi 2305843009213693952
  obtain ⟨h2,s2,N2,nx2,o2⟩ := N1.st (O := O) hi hx 2305843009213693952
  have hnl1 : Nat.ble h1.next 4294967296 = true := by rw [Nat.ble_eq,nx1]; exact hnl'
  simp only [SSb,Tryz.f137,cF,Option.getD,cA,cB,cI,zad,zaf,zaq,zan,zax,zao,lim,Nat.reduceLT,Nat.reduceEqDiff,and_true,if_true,if_false,reduceIte,false_and,true_and,Nat.beq,cond_true,cond_false,zag,zah,zai,zat,zar,zaw,Option.bind_some,zap zaz,zal,List.getElem?_toArray,List.getElem?_cons_succ,List.getElem?_cons_zero,List.drop_succ_cons,List.drop_zero,zak,zav,Bool.and_self,Bool.true_and,hsum,t5,t7,t17,t18,t19,t29,hk',hk2,c1,zcF hx,zcM hi,zcF hi,zcM hx,s1,s2,zco pl hnl',hnl1] at hr
  subst hr
  refine ⟨_,rfl,rfl,?_,?_,?_,?_,?_,?_,N2.cg fun k hk => ?_,nx2.trans (nx1.trans hnx),fun e he => (o2 _ (by omega)).trans ((o1 _ (by omega)).trans (keep e he))⟩
  ·simp [zaa,lim,t5]
  ·simp [zaa,lim,t7]
  ·simp [zaa,lim,t17]
  ·simp [zaa,lim,t18]
  ·simp [zaa,lim,t19]
  ·simp [zaa,lim]
  ·simp only [zdU]
   unfold foF fcF
   by_cases e : k = i * 60 + x
   ·have e1 : ¬ (k / 60 = x ∧ k % 60 ≠ x ∧ k % 60 < i + 1) := by omega
    have e2 : k % 60 = x ∧ k / 60 ≠ x ∧ k / 60 < i + 1 := by omega
    rw [if_pos e,if_neg e1,if_pos e2]
   ·rw [if_neg e]
    by_cases e' : k = x * 60 + i
    ·have e1 : k / 60 = x ∧ k % 60 ≠ x ∧ k % 60 < i + 1 := by omega
     rw [if_pos e',if_pos e1]
    ·have e1 : (k / 60 = x ∧ k % 60 ≠ x ∧ k % 60 < i) ↔ (k / 60 = x ∧ k % 60 ≠ x ∧ k % 60 < i + 1) := by omega
     have e2 : (k % 60 = x ∧ k / 60 ≠ x ∧ k / 60 < i) ↔ (k % 60 = x ∧ k / 60 ≠ x ∧ k / 60 < i + 1) := by omega
     rw [if_neg e']
     simp only [e1,e2]
theorem zwb {f : Nat → Int} {x z L j n0 : Nat} {sv : Value} {g : Nat → Option SObj} (st : St) (hI : FlI f x z sv L j n0 g 60 st) :
  ∃ o st',o ≠ .normal ∧ zad foB (Eo O) ih ⟨137,47,.normal,none⟩ st = .ok (o,st') ∧ (o = .exit 2 ∧ FlI f x z sv L j n0 g 60 st') := by
 obtain ⟨tm,h,dd⟩ := st
 obtain ⟨hd,t5,t7,t17,t18,t19,t29,hN,hnx,keep⟩ := hI
 simp only at hd t5 t7 t17 t18 t19 t29 hN hnx keep
 subst hd
 have hsum := trivial
 have hk' : decide (Int.ofNat 60 < 60) = false := rfl
 generalize hr : zad foB (Eo O) ih ⟨137,47,.normal,none⟩ ⟨tm,h,[]⟩ = r
 unfold foB foO at hr
 simp only [SSb,Tryz.f137,cF,Option.getD,cA,cB,cI,zad,zaf,zaq,zan,zax,zao,lim,Nat.reduceLT,Nat.reduceEqDiff,and_true,if_true,if_false,reduceIte,false_and,true_and,Nat.beq,cond_true,cond_false,zag,zah,zai,zat,zar,zaw,Option.bind_some,zap zaz,zal,List.getElem?_toArray,List.getElem?_cons_succ,List.getElem?_cons_zero,List.drop_succ_cons,List.drop_zero,zak,zav,Bool.and_self,Bool.true_and,hsum,t29,hk'] at hr
 subst hr
 refine ⟨_,_,by simp,rfl,rfl,rfl,?_,?_,?_,?_,?_,?_,hN,hnx,keep⟩ <;> simp [zaa,lim,t5,t7,t17,t18,t19,t29]
structure FlJ (f : Nat → Int) (xs : List Int) (z : Nat) (sv : Value) (n0 : Nat) (g : Nat → Option SObj) (j : Nat) (st : St) : Prop where
 ds : st.defers = []
 t5 : st.tm.get 5 = some (.pointer (some ⟨z,0,none⟩))
 t17 : st.tm.get 17 = some sv
 t18 : st.tm.get 18 = some (.int .i64 (.ofNat xs.length))
 t19 : st.tm.get 19 = some (.int .i64 (.ofNat j))
 N : Zon st.h z (foS f (xs.take j))
 next : st.h.next = n0
 keep : ∀ e,e < z → st.h.t.get e = g e
theorem zKi {f : Nat → Int} {xs : List Int} {z n0 : Nat} {sv : Value} {g : Nat → Option SObj} (hn0 : n0 ≤ lim) (hlen : xs.length < 1000) (hO : ∀ h : SHeap,(∀ e,e < z → h.t.get e = g e) → SlN h z sv xs) (j : Nat) (hj : j < xs.length) (st : St) (hI : FlJ f xs z sv n0 g j st) :
  ∃ st',zad foO (Eo O) ih ⟨137,47,.normal,none⟩ st = .ok (.normal,st') ∧ FlJ f xs z sv n0 g (j + 1) st' := by
 obtain ⟨x,hx⟩ : ∃ x,xs[j]? = some x := ⟨_,List.getElem?_eq_getElem hj⟩
 obtain ⟨tm,h,dd⟩ := st
 obtain ⟨hd,t5,t17,t18,t19,hN,hnx,keep⟩ := hI
 simp only at hd t5 t17 t18 t19 hN hnx keep
 subst hd
 have hsum := trivial
 rcases hO h keep with ⟨e,_⟩ | ⟨s,oo,c,hsz,rfl,hl⟩
 ·subst e; cases hj
 have ld := hl.ld (O := O) hx
 have hk' : decide (Int.ofNat j < Int.ofNat xs.length) = true := by simp; omega
 have hk2 : zbh .i64 (Int.ofNat j + 1) = .ofNat (j + 1) := zbo (m := j + 1) (by omega)
 have hS := zxk (f := f) hx
 generalize hr : zad foO (Eo O) ih ⟨137,47,.normal,none⟩ ⟨tm,h,[]⟩ = r
 by_cases c1 : x < 1
 ·have c1' : decide (x < 1) = true := by simp; omega
  unfold foO at hr
  simp only [SSb,Tryz.f137,cF,Option.getD,cA,cB,cI,zad,zaf,zaq,zan,zax,zao,lim,Nat.reduceLT,Nat.reduceEqDiff,and_true,if_true,if_false,reduceIte,false_and,true_and,Nat.beq,cond_true,cond_false,zag,zah,zai,zat,zar,zaw,Option.bind_some,zap zaz,zal,List.getElem?_toArray,List.getElem?_cons_succ,List.getElem?_cons_zero,List.drop_succ_cons,List.drop_zero,zak,zav,Bool.and_self,Bool.true_and,hsum,t5,t17,t18,t19,hk',hk2,c1',iaL hj,ld] at hr
  subst hr
  refine ⟨_,rfl,rfl,?_,?_,?_,?_,?_,hnx,keep⟩
  ·simp [zaa,lim,t5]
  ·simp [zaa,lim,t17]
  ·simp [zaa,lim,t18]
  ·simp [zaa,lim]
  ·rw [hS,fo1,if_neg (by omega)]; exact hN
 by_cases c2 : x ≥ 60
 ·have c1' : decide (x < 1) = false := by simp; omega
  have c2' : decide (x ≥ 60) = true := by simp; omega
  unfold foO at hr
  simp only [SSb,Tryz.f137,cF,Option.getD,cA,cB,cI,zad,zaf,zaq,zan,zax,zao,lim,Nat.reduceLT,Nat.reduceEqDiff,and_true,if_true,if_false,reduceIte,false_and,true_and,Nat.beq,cond_true,cond_false,zag,zah,zai,zat,zar,zaw,Option.bind_some,zap zaz,zal,List.getElem?_toArray,List.getElem?_cons_succ,List.getElem?_cons_zero,List.drop_succ_cons,List.drop_zero,zak,zav,Bool.and_self,Bool.true_and,hsum,t5,t17,t18,t19,hk',hk2,c1',c2',iaL hj,ld] at hr
  subst hr
  refine ⟨_,rfl,rfl,?_,?_,?_,?_,?_,hnx,keep⟩
  ·simp [zaa,lim,t5]
  ·simp [zaa,lim,t17]
  ·simp [zaa,lim,t18]
  ·simp [zaa,lim]
  ·rw [hS,fo1,if_neg (by omega)]; exact hN
 obtain ⟨y,rfl⟩ : ∃ y : Nat,x = .ofNat y := ⟨x.toNat,by simp; omega⟩
 have hy : y < 60 := by simp at c2; omega
 have hy1 : 1 ≤ y := by simp at c1; omega
 have c1' : decide (Int.ofNat y < 1) = false := by simp; omega
 have c2' : decide (Int.ofNat y ≥ 60) = false := by simp; omega
 obtain ⟨F,hF⟩ : ∃ F,F = foS f (xs.take j) := ⟨_,rfl⟩
 rw [← hF] at hN hS
 obtain ⟨tmk,hk⟩ : ∃ tmk,tmk = ((((((((((tm.put 20 (some (.bool true))).put 21 (some (.pointer (some ⟨s,oo + j,none⟩)))).put 22 (some (.int .i64 (.ofNat y)))).put 7 (some (.int .i64 (.ofNat y)))).put 23 (some (.int .i64 (.ofNat y)))).put 24 (some (.bool false))).put 25 (some (.bool false))).put 26 (some (.int .i64 (.ofNat y)))).put 27 (some (.bool false))).put 28 (some (.bool false))).put 29 (some (.int .i64 0)) := ⟨_,rfl⟩
 have hin : FlI F y z (.slice (some ⟨s,oo,none⟩) xs.length c) xs.length j n0 g 0 ⟨tmk,h,[]⟩ := by
  subst hk
  refine ⟨rfl,?_,?_,?_,?_,?_,?_,hN.cg fun k hk => by simp [foF,fcF],hnx,keep⟩ <;> simp [zaa,lim,t5,t17,t18,t19]
 obtain ⟨o,⟨tm',h',dd'⟩,e0,e1,e2,e3⟩ := zcC (f := zad foB (Eo O) ih ⟨137,47,.normal,none⟩) (I := fun i st => FlI F y z (.slice (some ⟨s,oo,none⟩) xs.length c) xs.length j n0 g i st) (N := 60)
  (P := fun o st => o = .exit 2 ∧ FlI F y z (.slice (some ⟨s,oo,none⟩) xs.length c) xs.length j n0 g 60 st)
  (fun i st hi hI => .inl (zPs hy hn0 i hi st hI)) (fun st hI => zwb st hI) 60 1000000 0 _ (by omega) (by omega) hin
 subst e2
 obtain ⟨hd,r5,r7,r17,r18,r19,r29,rN,rnx,rkeep⟩ := e3
 simp only at hd r5 r7 r17 r18 r19 r29 rN rnx rkeep
 subst hd
 unfold foB foO at e1
 simp only [Tryz.f137,cF,Option.getD,cA,cB,cI,zad] at e1
 subst hk
 unfold foO at hr
 simp only [SSb,Tryz.f137,cF,Option.getD,cA,cB,cI,zad,zaf,zaq,zan,zax,zao,lim,Nat.reduceLT,Nat.reduceEqDiff,and_true,if_true,if_false,reduceIte,false_and,true_and,Nat.beq,cond_true,cond_false,zag,zah,zai,zat,zar,zaw,Option.bind_some,zap zaz,zal,List.getElem?_toArray,List.getElem?_cons_succ,List.getElem?_cons_zero,List.drop_succ_cons,List.drop_zero,zak,zav,Bool.and_self,Bool.true_and,hsum,t5,t17,t18,t19,hk',hk2,c1',c2',iaL hj,ld,e1,r19] at hr
 subst hr
 refine ⟨_,rfl,rfl,?_,?_,?_,?_,?_,rnx,rkeep⟩
 ·simp [zaa,lim,r5]
 ·simp [zaa,lim,r17]
 ·simp [zaa,lim,r18]
 ·simp [zaa,lim]
 ·rw [hS,fo1,if_pos (by constructor <;> simp <;> omega)]; exact rN
theorem zvf {f : Nat → Int} {xs : List Int} {z n0 : Nat} {sv : Value} {g : Nat → Option SObj} (st : St) (hI : FlJ f xs z sv n0 g xs.length st) :
  ∃ o st',o ≠ .normal ∧ zad foO (Eo O) ih ⟨137,47,.normal,none⟩ st = .ok (o,st') ∧ (o = .exit 0 ∧ FlJ f xs z sv n0 g xs.length st') := by
 obtain ⟨tm,h,dd⟩ := st
 obtain ⟨hd,t5,t17,t18,t19,hN,hnx,keep⟩ := hI
 simp only at hd t5 t17 t18 t19 hN hnx keep
 subst hd
 have hsum := trivial
 have hk' : decide (Int.ofNat xs.length < Int.ofNat xs.length) = false := by simp
 generalize hr : zad foO (Eo O) ih ⟨137,47,.normal,none⟩ ⟨tm,h,[]⟩ = r
 unfold foO at hr
 simp only [SSb,Tryz.f137,cF,Option.getD,cA,cB,cI,zad,zaf,zaq,zan,zax,zao,lim,Nat.reduceLT,Nat.reduceEqDiff,and_true,if_true,if_false,reduceIte,false_and,true_and,Nat.beq,cond_true,cond_false,zag,zah,zai,zat,zar,zaw,Option.bind_some,zap zaz,zal,List.getElem?_toArray,List.getElem?_cons_succ,List.getElem?_cons_zero,List.drop_succ_cons,List.drop_zero,zak,zav,Bool.and_self,Bool.true_and,hsum,t18,t19,hk'] at hr
 subst hr
 refine ⟨_,_,by simp,rfl,rfl,rfl,?_,?_,?_,?_,hN,hnx,keep⟩ <;> simp [zaa,lim,t5,t17,t18,t19]
theorem zut {n : Nat} (hO : O 137 = none) {f : Nat → Int} {xs : List Int} {b : Nat} {sv : Value} {h : SHeap} (hlen : xs.length < 1000) (hb : b < h.next) (hs : SlN h h.next sv xs) (hz : Zon h b f) (hn : h.next + 1 ≤ lim) :
  ∃ h',run (Eo O) (n + 1) (.call 137 #[.pointer (some ⟨b,0,none⟩),sv] .normal) h = .ok (.pointer (some ⟨h.next,0,none⟩),h') ∧ Zon h' h.next (foS f xs) ∧ h'.next = h.next + 1 ∧ ∀ e,e < h.next → h'.t.get e = h.t.get e := by
 suffices hcc : ∃ tm' h',zad (cF Tryz.f137) (Eo O) (run (Eo O) n) ⟨137,47,.normal,none⟩ ⟨Tr.ofL 33 [.pointer (some ⟨b,0,none⟩),sv],h,[]⟩ = .ok (.ret,⟨tm',h',[]⟩) ∧ tm'.get 4 = some (.pointer (some ⟨h.next,0,none⟩)) ∧ Zon h' h.next (foS f xs) ∧ h'.next = h.next + 1 ∧ ∀ e,e < h.next → h'.t.get e = h.t.get e by
  obtain ⟨tm',h',k1,k2,k3⟩ := hcc
  exact ⟨h',(zbB (show (Eo O).O 137 = none from hO)).trans (zaW (vs := [_]) zAn ztD zzV rfl zvN k1 (by simp only [zaV,k2,zcT])),k3⟩
 generalize hr : zad (cF Tryz.f137) (Eo O) (run (Eo O) n) ⟨137,47,.normal,none⟩ ⟨Tr.ofL 33 [.pointer (some ⟨b,0,none⟩),sv],h,[]⟩ = r
 have t0 : (Tr.ofL 33 [Value.pointer (some ⟨b,0,none⟩),sv]).get 0 = some (.pointer (some ⟨b,0,none⟩)) := rfl
 have t1 : (Tr.ofL 33 [Value.pointer (some ⟨b,0,none⟩),sv]).get 1 = some sv := rfl
 generalize Tr.ofL 33 [Value.pointer (some ⟨b,0,none⟩),sv] = tm at hr t0 t1
 have hsum := trivial
 obtain ⟨a,cp,hsv⟩ : ∃ a cp,sv = .slice a xs.length cp := by
  rcases hs with ⟨rfl,c,rfl⟩ | ⟨s,oo,c,_,rfl,_⟩
  ·exact ⟨_,_,rfl⟩
  ·exact ⟨_,_,rfl⟩
 obtain ⟨hh,s1,z1,nx1,o1⟩ := zst (O := O) (h := h) (by omega) f
 have dead := hz.dead (O := O)
 have whole := hz.whole (O := O)
 obtain ⟨big,hbig⟩ : ∃ big,big = Value.agg (.bool false :: zaR f 3600).toArray := ⟨_,rfl⟩
 rw [← hbig] at whole s1
 obtain ⟨nc,hnc⟩ : ∃ nc,nc = zaj h 278 (.bool false :: List.replicate 3600 (.int .i64 0)) false := ⟨_,rfl⟩
 have alc := zkH (O := O) (h := h)
 rw [← hnc] at alc s1
 obtain ⟨tmk,hk⟩ : ∃ tmk,tmk = ((((((((((((tm.put 4 (some (.pointer none))).put 9 (some (.pointer (some ⟨b,0,none⟩)))).put 10 (some (.pointer (some ⟨b,0,none⟩)))).put 11 (some (.pointer (some ⟨b,0 + 0,none⟩)))).put 12 (some (.bool false))).put 14 (some (.pointer (some ⟨b,0,none⟩)))).put 15 (some (.pointer (some ⟨b,0,none⟩)))).put 16 (some big)).put 5 (some (.pointer (some ⟨h.next,0,none⟩)))).put 17 (some sv)).put 18 (some (.int .i64 (.ofNat xs.length)))).put 19 (some (.int .i64 0))) := ⟨_,rfl⟩
 have hin : FlJ f xs h.next sv (h.next + 1) h.t.get 0 ⟨tmk,hh,[]⟩ := by
  subst hk
  refine ⟨rfl,?_,?_,?_,?_,z1.cg fun k hk => ?_,nx1,fun e he => o1 e (by omega)⟩
  ·simp [zaa,lim]
  ·simp [zaa,lim]
  ·simp [zaa,lim]
  ·simp [zaa,lim]
  ·simp [foS]
 obtain ⟨o,⟨tm',h',dd'⟩,e0,e1,e2,e3⟩ := zcC (f := zad foO (Eo O) (run (Eo O) n) ⟨137,47,.normal,none⟩) (I := fun j st => FlJ f xs h.next sv (h.next + 1) h.t.get j st) (N := xs.length)
  (P := fun o st => o = .exit 0 ∧ FlJ f xs h.next sv (h.next + 1) h.t.get xs.length st)
  (fun j st hj hI => .inl (zKi hn hlen (fun h2 k => by
   rcases hs with w | ⟨s,oo,c,w1,w2,w3⟩
   ·exact .inl w
   ·exact .inr ⟨s,oo,c,w1,w2,w3.to (k s w1)⟩) j hj st hI)) (fun st hI => zvf st hI) xs.length 1000000 0 _ (by omega) (by omega) hin
 subst e2
 obtain ⟨hd,r5,r17,r18,r19,rN,rnx,rkeep⟩ := e3
 simp only at hd r5 r17 r18 r19 rN rnx rkeep
 subst hd
 unfold foO at e1
 simp only [Tryz.f137,cF,Option.getD,cA,cB,cI,zad] at e1
 subst hk
 subst hsv
 simp only [SSb,Tryz.f137,cF,Option.getD,cA,cB,cI,zad,zaf,zaq,zan,zax,zao,lim,Nat.reduceLT,Nat.reduceEqDiff,and_true,if_true,if_false,reduceIte,false_and,true_and,Nat.beq,cond_true,cond_false,zag,zah,zai,zat,zar,zaw,Option.bind_some,zap zaz,zal,List.getElem?_toArray,List.getElem?_cons_succ,List.getElem?_cons_zero,List.drop_succ_cons,List.drop_zero,zak,zav,Bool.and_self,Bool.true_and,hsum,zbX,zdO,zjS (E := Eo O) E60,dead,whole,alc,s1,t0,t1,e1,r5] at hr
 subst hr
 refine ⟨_,_,rfl,?_,rN.cg fun j hj => by rw [List.take_length],rnx,rkeep⟩
 simp [zaa,lim]
theorem zdq {p : Nat} : ∀ {l : List Nat},zgz p l = true ↔ p ∈ l
 | [] => by simp [zgz]
 | q :: r => by
  unfold zgz
  cases e : Nat.beq p q with
  | true => simp [Nat.eq_of_beq_eq_true e]
  | false => simp only [cond_false,List.mem_cons,zdq]; exact ⟨fun h => .inr h,fun h => h.resolve_left fun k => by rw [k,Nat.beq_refl] at e; cases e⟩
theorem zhV {p : Nat} (hp : p < 60) (hp1 : 1 ≤ p) : ∀ {l : List Int},p ∈ zdb l ↔ (p : Int) ∈ l
 | [] => by simp [zdb]
 | x :: r => by
  unfold zdb
  cases x with
  | negSucc n => simp only [zhV hp hp1,List.mem_cons]; exact ⟨fun h => .inr h,fun h => h.resolve_left (by omega)⟩
  | ofNat n =>
   simp only
   cases e : (Nat.ble 1 n && Nat.blt n 60) with
   | true => simp only [cond_true,List.mem_cons,zhV hp hp1]; exact or_congr ⟨fun h => by subst h; rfl,fun h => Int.ofNat.inj h⟩ Iff.rfl
   | false => simp only [cond_false,List.mem_cons,zhV hp hp1]; exact ⟨fun h => .inr h,fun h => h.resolve_left fun k => by
     have : p = n := Int.ofNat.inj k
     subst this
     rw [Bool.and_eq_false_iff] at e
     rcases e with e | e
     ·rw [Nat.ble_eq_true_of_le hp1] at e; cases e
     ·rw [zbI hp] at e; cases e⟩
theorem zgL : ∀ {l : List Int},¬ 0 ∈ zdb l
 | [] => by simp [zdb]
 | x :: r => by
  unfold zdb
  cases x with
  | negSucc n => exact zgL
  | ofNat n =>
   simp only
   cases e : (Nat.ble 1 n && Nat.blt n 60) with
   | true =>
    simp only [cond_true,List.mem_cons]
    rintro (w | w)
    ·subst w; cases e
    ·exact zgL w
   | false => exact zgL
def foH (xs : List Int) (k : Nat) : Prop := k / 60 ≠ k % 60 ∧ (k / 60 ∈ zdb xs ∨ k % 60 ∈ zdb xs)
theorem zpW {x : Int} {xs : List Int} {p : Nat} (hp : p < 60) : p ∈ zdb (x :: xs) ↔ (1 ≤ x ∧ x < 60 ∧ (p : Int) = x) ∨ p ∈ zdb xs := by
 rcases Nat.eq_zero_or_pos p with rfl | h0
 ·exact ⟨fun h => (zgL h).elim,fun h => by
   rcases h with ⟨a,b,c⟩ | h
   ·omega
   ·exact (zgL h).elim⟩
 ·rw [zhV hp h0,zhV hp h0,List.mem_cons]
  exact or_congr ⟨fun h => ⟨by omega,by omega,h⟩,fun h => h.2.2⟩ Iff.rfl
theorem zxd {k : Nat} (hk : k < 3600) : ∀ {xs : List Int} {f : Nat → Int},(foH xs k → foS f xs k = 2305843009213693952) ∧ (¬ foH xs k → foS f xs k = f k)
 | [],f => ⟨fun h => by rcases h with ⟨_,h | h⟩ <;> simp [zdb] at h,fun _ => rfl⟩
 | x :: xs,f => by
  obtain ⟨h1,h2⟩ := zxd hk (xs := xs) (f := fo1 f x)
  have hc : foS f (x :: xs) k = foS (fo1 f x) xs k := rfl
  rw [hc]
  have e1 := zpW (x := x) (xs := xs) (p := k / 60) (by omega)
  have e2 := zpW (x := x) (xs := xs) (p := k % 60) (by omega)
  by_cases q : foH xs k
  ·exact ⟨fun _ => h1 q,fun w => (w ⟨q.1,q.2.imp (fun a => e1.2 (.inr a)) (fun a => e2.2 (.inr a))⟩).elim⟩
  ·rw [h2 q]
   have qq : k / 60 ≠ k % 60 → ¬ k / 60 ∈ zdb xs ∧ ¬ k % 60 ∈ zdb xs := fun a => ⟨fun b => q ⟨a,.inl b⟩,fun b => q ⟨a,.inr b⟩⟩
   refine ⟨fun w => ?_,fun w => ?_⟩
   ·obtain ⟨w0,w1⟩ := w
    rw [e1,e2] at w1
    have w1 : (1 ≤ x ∧ x < 60) ∧ (((k / 60 : Nat) : Int) = x ∨ ((k % 60 : Nat) : Int) = x) := by
     rcases w1 with (⟨a,b,c⟩ | a) | (⟨a,b,c⟩ | a)
     ·exact ⟨⟨a,b⟩,.inl c⟩
     ·exact ((qq w0).1 a).elim
     ·exact ⟨⟨a,b⟩,.inr c⟩
     ·exact ((qq w0).2 a).elim
    rw [fo1,if_pos w1.1]
    show fcF f _ _ x.toNat 60 k = _
    unfold fcF
    rcases w1.2 with c | c
    ·rw [if_pos (by omega)]
    ·rw [if_neg (by omega),if_pos (by omega)]
   ·rw [fo1]
    split
    ·rename_i hx
     show fcF f _ _ x.toNat 60 k = _
     unfold fcF
     have n1 : ¬ (k / 60 ≠ k % 60 ∧ (((k / 60 : Nat) : Int) = x ∨ ((k % 60 : Nat) : Int) = x)) := fun a => w ⟨a.1,a.2.imp (fun c => e1.2 (.inl ⟨hx.1,hx.2,c⟩)) (fun c => e2.2 (.inl ⟨hx.1,hx.2,c⟩))⟩
     rw [if_neg (by omega),if_neg (by omega)]
    ·rfl
theorem zmv {xs : List Nat} : ∀ {l : List Value} {k i : Nat} {v : Value},l[i]? = some v → (zjf xs k l)[i]? = some (zrt xs (k + i) v)
 | [],_,_,_,h => by simp at h
 | a :: r,k,0,v,h => by
  simp at h; subst h
  simp only [zjf,zfe,List.getElem?_cons_zero,Nat.add_zero]
 | a :: r,k,i + 1,v,h => by
  rw [List.getElem?_cons_succ] at h
  simp only [zjf,zaY,List.getElem?_cons_succ]
  rw [zmv h,show k + 1 + i = k + (i + 1) by omega]
theorem zrQ {xs : List Nat} : ∀ {l : List Value} {k : Nat},(zjf xs k l).length = l.length
 | [],_ => rfl
 | a :: r,k => by simp only [zjf,zaY,List.length_cons,zrQ]
theorem zAT {xs : List Int} {k : Nat} (hk : k < 3600) {f : Nat → Int} : zrt (zdb xs) k (.int .i64 (f k)) = .int .i64 (foS f xs k) := by
 obtain ⟨h1,h2⟩ := zxd hk (xs := xs) (f := f)
 unfold zrt
 by_cases e : k / 60 = k % 60
 ·rw [h2 (fun w => w.1 e),zfm e,cond_true]
 rw [zeV e,cond_false]
 cases e1 : zgz (k / 60) (zdb xs) with
 | true => rw [h1 ⟨e,.inl (zdq.1 e1)⟩]; rfl
 | false =>
  cases e2 : zgz (k % 60) (zdb xs) with
  | true => rw [h1 ⟨e,.inr (zdq.1 e2)⟩]; rfl
  | false => rw [h2 (fun w => by
    rcases w.2 with w | w
    ·rw [zdq.2 w] at e1; cases e1
    ·rw [zdq.2 w] at e2; cases e2)]; rfl
theorem zpx : ∀ {l : List Value} {xs : List Int},znn l = some xs → xs.length = l.length ∧ ∀ (j : Nat) (x : Int),xs[j]? = some x → l[j]? = some (Value.int .i64 x)
 | [],xs,h => by simp [znn] at h; subst h; simp
 | v :: r,xs,h => by
  unfold znn at h
  split at h
  ·split at h
   ·rename_i l hl
    obtain rfl := (Option.some.inj h).symm
    obtain ⟨a,b⟩ := zpx hl
    refine ⟨by simp [a],fun j x hj => ?_⟩
    cases j with
    | zero => simp at hj; subst hj; rfl
    | succ j => rw [List.getElem?_cons_succ] at hj ⊢; exact b j x hj
   ·cases h
  ·cases h
theorem zDr {sv : Value} {h : SHeap} {xs : List Int} (hl : zqf sv h = some xs) (hlow : ∀ b o,h.t.get b = some o → b < h.next) : SlN h h.next sv xs ∧ zpc sv = xs.length := by
 unfold zqf at hl
 split at hl
 ·rename_i l c
  cases e : Nat.beq l 0 with
  | true => rw [e,cond_true] at hl; obtain rfl := (Option.some.inj hl).symm; obtain rfl := Nat.eq_of_beq_eq_true e; exact ⟨.inl ⟨rfl,_,rfl⟩,rfl⟩
  | false => rw [e] at hl; cases hl
 ·rename_i s oo l c
  split at hl
  ·rename_i t n e op r hs
   split at hl
   ·rename_i vs hv
    obtain ⟨q1,q2⟩ := zpx hl
    obtain ⟨w1,w2⟩ := zdh _ _ _ _ hv
    refine ⟨.inr ⟨s,oo,c,hlow _ _ hs,by rw [q1,w1],t,n,e,op,r,hs,fun j x hj => ?_⟩,by rw [q1,w1]; rfl⟩
    have hj2 : j < l := by
     have := (List.getElem?_eq_some_iff.1 hj).1
     omega
    rw [← w2 j hj2]; exact q2 j x hj
   ·cases hl
  ·cases hl
 ·cases hl
theorem zwc (KE : EnvOK (Eo O)) (hdraw : zcD (Eo O)) (hOK : ∀ f g,(Eo O).O f = some g → zaN (Eo O) f g) (hO : O 137 = none) : zaN (Eo O) 137 (zuR 278) :=
 zcG (zcU KE hdraw hOK 1) fun args h w h' hlow hok => by
  obtain ⟨l⟩ := args
  unfold zuR at hok
  split at hok
  ·rename_i z sv e
   have e : l = [.pointer (some ⟨z,0,none⟩),sv] := e
   subst e
   split at hok
   ·rename_i c nn e hz
    split at hok
    ·rename_i cs hcs
     split at hok
     ·rename_i xs hxs
      cases e3 : (zbg cs && Nat.beq nn 3601 && Nat.beq e 278 && Nat.ble (h.next + 1) lim && Nat.blt (zpc sv) 1000) with
      | false => rw [e3] at hok; simp at hok
      | true =>
      rw [e3,cond_true,zaA] at hok
      simp only [Bool.and_eq_true] at e3
      obtain ⟨⟨⟨⟨f1,f2⟩,f3⟩,f4⟩,f5⟩ := e3
      obtain rfl := Nat.eq_of_beq_eq_true f2
      obtain rfl := Nat.eq_of_beq_eq_true f3
      have f4 := Nat.le_of_ble_eq_true f4
      have f5 := zaH f5
      have hZ := ziN hz hcs f1
      obtain ⟨hs,hlen⟩ := zDr hxs hlow
      rw [hlen] at f5
      obtain ⟨r,hr⟩ : ∃ r,r = Tr.ofL 33 (Value.bool false :: zjf (zdb xs) 0 cs) := ⟨_,rfl⟩
      rw [← hr] at hok
      obtain ⟨rfl,rfl⟩ := zas hok
      obtain ⟨h2,k1,⟨c',m1,m2,m3⟩,k3,k4⟩ := zut (O := O) (n := 0) hO f5 (hlow _ _ hz) hs hZ f4
      have hcl : cs.length = 3600 := by have := (zcv hcs).1; simpa using this
      refine ⟨h2,k1,k3,fun q x' hq => ?_⟩
      simp only [zaa] at hq
      by_cases eq : q = h.next
      ·rw [if_pos ⟨eq,by omega⟩] at hq
       obtain rfl := (Option.some.inj hq).symm
       refine ⟨_,by rw [eq]; exact m1,ObjLe.cells fun i y' hy => ?_⟩
       rw [hr] at hy
       have hlt := zbE hy
       rw [zbd hlt] at hy
       cases i with
       | zero => simp at hy; subst hy; exact m2
       | succ i =>
        rw [List.getElem?_cons_succ] at hy
        have hi : i < 3600 := by
         rcases Nat.lt_or_ge i 3600 with w | w
         ·exact w
         ·rw [List.getElem?_eq_none (by rw [zrQ,hcl]; exact w)] at hy; cases hy
        obtain ⟨c2,n1,n2,n3⟩ := hZ
        rw [hz] at n1
        obtain ⟨rfl⟩ : c = c2 := by cases n1; rfl
        have hcs2 : cs[i]? = some (.int .i64 (fv c (1 + i))) := by
         have := (zcv hcs).2 (1 + i) (by omega) (by unfold lim; omega)
         rw [show 1 + i = i + 1 by omega,List.getElem?_cons_succ] at this
         rw [this,show i + 1 = 1 + i by omega]; exact n3 i hi
        rw [zmv hcs2,Nat.zero_add] at hy
        rw [← hy,show i + 1 = 1 + i by omega,m3 i hi]
        exact congrArg some (zAT (f := fun k => fv c (1 + k)) hi).symm
      ·rw [if_neg (fun w => eq w.1)] at hq
       exact ⟨x',by rw [k4 q (hlow q x' hq)]; exact hq,ObjLe.refl x'⟩
     ·simp at hok
    ·simp at hok
   ·simp at hok
  ·simp at hok

end Go.Proofs.YtgdkljcnebaiiaaGreat

set_option linter.unusedSimpArgs false
set_option linter.unusedVariables false
namespace Go.Proofs.YtgdkljcnebaiiaaGreat
open Go Go.Sim

theorem zgc {E : Env} {f : FuncId} {g g' : List Value → SHeap → Except String (Value × SHeap)} (hg : zaN E f g) (hr : ∀ args h v h',(∀ b o,h.t.get b = some o → b < h.next) → (∀ b c n e p q,h.t.get b = some (.cells c n e p q) → ∀ i v,c.get i = some v → i < n) → g' args h = .ok (v,h') →
  ∃ h'',g args h = .ok (v,h'') ∧ h''.next = h'.next ∧ ∀ b o,h'.t.get b = some o → ∃ o2,h''.t.get b = some o2 ∧ ObjLe E o2 o) : zaN E f g' := by
 intro args h v h' hok ρ w hw hgr rargs ha c cs
 obtain ⟨h'',h1,h2,h3⟩ := hr args.toList h v h' (fun b o hb => let ⟨r,κ,a,_⟩ := hw.live b o hb; hw.dom b _ a)
  (fun b c n e p q hb => let ⟨r,κ,_,⟨m,k⟩⟩ := hw.live b _ hb; k.lt) hok
 obtain ⟨ρ',w',u,k1,k2,k3,k4⟩ := hg args h v h'' h1 ρ w hw hgr rargs ha c cs
 have hM : ∀ r,zcm ρ' h' r → zcm ρ' h'' r := fun r ⟨b,o,κ,a,e⟩ => let ⟨o2,b1,_⟩ := h3 b o a; ⟨b,o2,κ,b1,e⟩
 have hO : ∀ r,Own ρ' h' r → Own ρ' h'' r := fun r ⟨b,o,κ,a,e,n⟩ => let ⟨o2,b1,b2⟩ := h3 b o a; ⟨b,o2,κ,b1,e,b2.ro.1 n⟩
 refine ⟨ρ',w',u,k1,⟨fun b p hb => by have := k2.dom b p hb; omega,fun b o hb => ?_,fun b b' o o' r κ κ' hb hb' => ?_,k2.glob⟩,
  ⟨k3.le,k3.size,fun r hr hn => let ⟨a,e⟩ := k3.keep r hr hn; ⟨a,fun h => e (hO r h)⟩,k3.os,k3.output,k3.tape,fun r hr hn h => k3.fresh r hr hn (hM r h),k3.names,by have := k3.next; omega⟩,k4⟩
 ·obtain ⟨o2,b1,b2⟩ := h3 b o hb
  obtain ⟨r,κ,c1,c2⟩ := k2.live b o2 b1
  exact ⟨r,κ,c1,b2.at_ _ _ _ _ c2⟩
 ·obtain ⟨o2,b1,q⟩ := h3 b o hb
  obtain ⟨o2',b1',_⟩ := h3 b' o' hb'
  exact fun e1 e2 hs => k2.inj b b' o2 o2' r κ κ' b1 b1' e1 e2 (hs.imp q.sent id)

theorem zpy {x : Value} : ∀ {a b : List Value},x ∈ merge a b → x ∈ a ∨ x ∈ b
 | [],b,h => .inr h
 | y :: a,[],h => .inl h
 | y :: a,z :: b,h => by
  simp only [merge,List.mem_cons] at h
  rcases h with rfl | rfl | h
  ·exact .inl (by simp)
  ·exact .inr (by simp)
  ·rcases zpy h with h | h
   ·exact .inl (by simp [h])
   ·exact .inr (by simp [h])
theorem zhM : ∀ (f : Nat) (t : Tr Value) (n : Nat) (c : Bool),zhB f t n c = true → ∃ l,t.toL f n = some l ∧ l.length = n ∧ ∀ x ∈ (bif c then l else l.tail),zqI x = true
 | 0,t,n,c,h => by simp [zhB] at h
 | f + 1,t,0,c,h => ⟨[],rfl,rfl,fun x hx => by cases c <;> simp at hx⟩
 | f + 1,.nil,m + 1,c,h => by simp [zhB] at h
 | f + 1,.node l none r,m + 1,c,h => by simp [zhB] at h
 | f + 1,.node l (some x) r,0 + 1,c,h => by
  refine ⟨[x],rfl,rfl,fun y hy => ?_⟩
  cases c with
  | false => simp at hy
  | true =>
   simp only [zhB,cond_true,Bool.and_true] at h
   simp only [cond_true,List.mem_singleton] at hy
   rw [hy]; exact h
 | f + 1,.node l (some x) r,1 + 1,c,h => by
  simp only [zhB,Bool.and_eq_true,Bool.and_true] at h
  obtain ⟨o,o1,o2,o3⟩ := zhM f l (0 / 2 + 1) true h.2
  refine ⟨x :: o,by simp only [Tr.toL,o1],by simp [o2],fun y hy => ?_⟩
  cases c with
  | false => exact o3 y hy
  | true =>
   rcases List.mem_cons.1 hy with rfl | hy
   ·exact h.1
   ·exact o3 y hy
 | f + 1,.node l (some x) r,j + 1 + 1 + 1,c,h => by
  simp only [zhB,Bool.and_eq_true] at h
  obtain ⟨o,o1,o2,o3⟩ := zhM f l ((j + 1) / 2 + 1) true h.2.1
  obtain ⟨e,e1,e2,e3⟩ := zhM f r (j / 2 + 2) false h.2.2
  match e,e2 with
  | z :: e,e2 =>
   have hl := (zhS (f + 1) (.node l (some x) r) (j + 1 + 1 + 1) (x :: merge o e) (by simp only [Tr.toL,o1,e1])).1
   refine ⟨x :: merge o e,by simp only [Tr.toL,o1,e1],hl,fun y hy => ?_⟩
   have rest : y ∈ merge o e → zqI y = true := fun hy => by
    rcases zpy hy with hy | hy
    ·exact o3 y hy
    ·exact e3 y hy
   cases c with
   | false => exact rest hy
   | true =>
    rcases List.mem_cons.1 hy with rfl | hy
    ·exact h.1
    ·exact rest hy
theorem zkF : ∀ {l : List Value},(∀ x ∈ l,zqI x = true) → zbg l = true
 | [],_ => rfl
 | v :: r,h => by
  have h1 := h v (by simp)
  have h2 := zkF (l := r) fun x hx => h x (by simp [hx])
  unfold zqI at h1
  split at h1
  ·split at h1
   ·exact h2
   ·cases h1
  ·cases h1
theorem ziB {c : Tr Value} (h : zgW c = true) : ∃ cs,c.toL 32 3601 = some (.bool false :: cs) ∧ zbg cs = true := by
 unfold zgW at h
 split at h
 ·cases h
 ·rename_i l v r
  split at h
  ·obtain ⟨L,h1,h2,h3⟩ := zhM _ _ _ _ h
   obtain ⟨_,g⟩ := zcv h1
   have g0 := g 0 (by omega) (by unfold lim; omega)
   match L,h2 with
   | x :: cs,_ =>
    refine ⟨cs,?_,zkF h3⟩
    rw [h1]
    have g0 : some x = (Tr.node l (some (Value.bool false)) r).get 0 := g0
    have : (Tr.node l (some (Value.bool false)) r).get 0 = some (.bool false) := rfl
    rw [this] at g0
    rw [Option.some.inj g0]
  ·cases h
theorem zAP {c : Tr Value} (h : zvb c = true) : ∃ b cs,c.toL 32 3601 = some (.bool b :: cs) ∧ zbg cs = true ∧ c.get 0 = some (.bool b) := by
 unfold zvb at h
 split at h
 ·cases h
 ·rename_i l v r
  split at h
  ·rename_i b
   obtain ⟨L,h1,h2,h3⟩ := zhM _ _ _ _ h
   obtain ⟨_,g⟩ := zcv h1
   have g0 := g 0 (by omega) (by unfold lim; omega)
   match L,h2 with
   | x :: cs,_ =>
    refine ⟨b,cs,?_,zkF h3,rfl⟩
    rw [h1]
    have g0 : some x = (Tr.node l (some (Value.bool b)) r).get 0 := g0
    have : (Tr.node l (some (Value.bool b)) r).get 0 = some (.bool b) := rfl
    rw [this] at g0
    rw [Option.some.inj g0]
  ·cases h
theorem zei {r : Tr Value} {k : Nat} {x : Int} {m : Nat} (hk : k < lim) : (zkJ r k x).get m = if m = k then some (.int .i64 x) else r.get m := by
 unfold zkJ
 rw [zbW,zaa]
 by_cases e : m = k
 ·rw [if_pos ⟨e,hk⟩,if_pos e]
 ·rw [if_neg (fun w => e w.1),if_neg e]
theorem zhj {c : Tr Value} {cs : List Value} (hcs : c.toL 32 3601 = some (.bool false :: cs)) (h : zbg cs = true) {k : Nat} (hk : k < 3600) : c.get (1 + k) = some (.int .i64 (fv c (1 + k))) := by
 obtain ⟨w1,w2⟩ := zcv hcs
 have hlen : cs.length = 3600 := by simpa using w1
 obtain ⟨m,hm⟩ := zdt h k (by omega)
 have : c.get (1 + k) = some (.int .i64 m) := by
  rw [← w2 (1 + k) (by omega) (by unfold lim; omega),show 1 + k = k + 1 by omega,List.getElem?_cons_succ,hm]
 rw [zgB this]; exact this
theorem zmA {g : Nat → Int} {k : Nat} (hk : k < 3600) : (Tr.ofL 33 (Value.bool false :: zbC g 3600 [])).get (1 + k) = some (.int .i64 (g k)) := by
 rw [zbd (by unfold lim; omega),show 1 + k = k + 1 by omega,List.getElem?_cons_succ,zdQ,List.append_nil,zcO hk]
theorem zjc {l : List Value} : (Tr.ofL 33 (Value.bool false :: l)).get 0 = some (.bool false) := by
 rw [zbd (by unfold lim; omega)]; rfl
structure Tab0 (c r : Tr Value) : Prop where
 zero : r.get 0 = c.get 0
 far : ∀ m,3601 ≤ m → r.get m = c.get m
theorem zly {E : Env} {h : SHeap} {n : Nat} {c r' : Tr Value} {e b : Nat} (hc : ∀ i v,r'.get i = some v → c.get i = some v) : ∀ q o,(h.t.put b (some (.cells r' n e false false))).get q = some o → ∃ o2,(h.t.put b (some (.cells c n e false false))).get q = some o2 ∧ ObjLe E o2 o := by
 intro q o hq
 rw [zaa] at hq
 by_cases w : q = b ∧ b < lim
 ·rw [if_pos w] at hq
  obtain rfl := (Option.some.inj hq).symm
  exact ⟨_,by rw [zaa,if_pos w],ObjLe.cells hc⟩
 ·rw [if_neg w] at hq
  exact ⟨o,by rw [zaa,if_neg w]; exact hq,ObjLe.refl o⟩
theorem ztk {c r' : Tr Value} {g : Nat → Int} (hb : ∀ i v,c.get i = some v → i < 3601) (h0 : Tab0 c r') (hc0 : c.get 0 = some (.bool false)) (hg : ∀ k,k < 3600 → r'.get (1 + k) = some (.int .i64 (g k))) : ∀ i v,r'.get i = some v → (Tr.ofL 33 (Value.bool false :: zbC g 3600 [])).get i = some v := by
 intro i v hi
 rcases Nat.lt_or_ge i 3601 with w | w
 ·cases i with
  | zero => rw [h0.zero,hc0] at hi; rw [zjc]; exact hi
  | succ k =>
   rw [show k + 1 = 1 + k by omega] at hi ⊢
   rw [zmA (by omega),← hg k (by omega)]; exact hi
 ·rw [h0.far i w] at hi
  exact absurd (hb i v hi) (by omega)

theorem zmK {c : Tr Value} {x y : Nat} {v nv : Int} (hx : x < 60) : ∀ (n : Nat) (r : Tr Value),n ≤ 60 → Tab0 r (zms c x y v nv n r)
 | 0,r,_ => ⟨rfl,fun _ _ => rfl⟩
 | n + 1,r,hn => by
  unfold zms
  cases e : Nat.beq n x with
  | true => exact zmK hx n r (by omega)
  | false =>
   simp only [cond_false,zaA]
   obtain ⟨a,b⟩ := zmK (c := c) (y := y) (v := v) (nv := nv) hx n (zkJ (zkJ r (1 + (x * 60 + n)) (zaL (fv c (1 + (y * 60 + n))) v)) (1 + (n * 60 + x)) (zaL (fv c (1 + (n * 60 + y))) nv)) (by omega)
   refine ⟨a.trans ?_,fun m hm => (b m hm).trans ?_⟩
   ·rw [zei (by unfold lim; omega),zei (by unfold lim; omega),if_neg (by omega),if_neg (by omega)]
   ·rw [zei (by unfold lim; omega),zei (by unfold lim; omega),if_neg (by omega),if_neg (by omega)]
theorem zmB {c : Tr Value} {x y : Nat} {v nv : Int} (hx : x < 60) {k : Nat} : ∀ (n : Nat) (r : Tr Value),n ≤ 60 → (zms c x y v nv n r).get (1 + k) =
  if k / 60 = x ∧ k % 60 ≠ x ∧ k % 60 < n then some (.int .i64 (zaL (fv c (1 + (y * 60 + k % 60))) v)) else
  if k % 60 = x ∧ k / 60 ≠ x ∧ k / 60 < n then some (.int .i64 (zaL (fv c (1 + (k / 60 * 60 + y))) nv)) else r.get (1 + k)
 | 0,r,_ => by rw [if_neg (by omega),if_neg (by omega)]; rfl
 | n + 1,r,hn => by
  unfold zms
  cases e : Nat.beq n x with
  | true =>
   have e := Nat.eq_of_beq_eq_true e
   rw [cond_true,zmB hx n r (by omega)]
   have e1 : (k / 60 = x ∧ k % 60 ≠ x ∧ k % 60 < n) ↔ (k / 60 = x ∧ k % 60 ≠ x ∧ k % 60 < n + 1) := by omega
   have e2 : (k % 60 = x ∧ k / 60 ≠ x ∧ k / 60 < n) ↔ (k % 60 = x ∧ k / 60 ≠ x ∧ k / 60 < n + 1) := by omega
   simp only [e1,e2]
  | false =>
   have e : n ≠ x := Nat.ne_of_beq_eq_false e
   simp only [cond_false,zaA]
   rw [zmB hx n _ (by omega)]
   by_cases a : k / 60 = x ∧ k % 60 ≠ x ∧ k % 60 < n
   ·rw [if_pos a,if_pos (by omega)]
   rw [if_neg a]
   by_cases b : k % 60 = x ∧ k / 60 ≠ x ∧ k / 60 < n
   ·rw [if_pos b,if_neg (by omega),if_pos (by omega)]
   rw [if_neg b,zei (by unfold lim; omega),zei (by unfold lim; omega)]
   by_cases c1 : 1 + k = 1 + (n * 60 + x)
   ·have q : k / 60 = n ∧ k % 60 = x := by omega
    rw [if_pos c1,if_neg (by omega),if_pos (by omega),q.1]
   rw [if_neg c1]
   by_cases c2 : 1 + k = 1 + (x * 60 + n)
   ·have q : k / 60 = x ∧ k % 60 = n := by omega
    rw [if_pos c2,if_pos (by omega),q.2]
   rw [if_neg c2,if_neg (by omega),if_neg (by omega)]
theorem zmJ {c : Tr Value} {t : Int} {j p : Nat} (hp : p < 60) : ∀ (n : Nat) (r : Tr Value),n ≤ 60 → Tab0 r (zkL c t j p n r)
 | 0,r,_ => ⟨rfl,fun _ _ => rfl⟩
 | n + 1,r,hn => by
  simp only [zkL,zbW,zaA]
  cases decide (zaL t (fv c (1 + (j * 60 + n))) < fv c (1 + (p * 60 + n))) with
  | false => exact zmJ hp n r (by omega)
  | true =>
   obtain ⟨a,b⟩ := zmJ (c := c) (t := t) (j := j) hp n (zkJ r (1 + (p * 60 + n)) (zaL t (fv c (1 + (j * 60 + n))))) (by omega)
   refine ⟨a.trans ?_,fun m hm => (b m hm).trans ?_⟩
   ·rw [zei (by unfold lim; omega),if_neg (by omega)]
   ·rw [zei (by unfold lim; omega),if_neg (by omega)]
theorem zgm {c : Tr Value} {t : Int} {j p : Nat} (hp : p < 60) {k : Nat} : ∀ (n : Nat) (r : Tr Value),n ≤ 60 → (zkL c t j p n r).get (1 + k) =
  if k / 60 = p ∧ k % 60 < n ∧ zaL t (fv c (1 + (j * 60 + k % 60))) < fv c (1 + k) then some (.int .i64 (zaL t (fv c (1 + (j * 60 + k % 60))))) else r.get (1 + k)
 | 0,r,_ => by rw [if_neg (by omega)]; rfl
 | n + 1,r,hn => by
  simp only [zkL,zbW,zaA]
  by_cases c1 : k / 60 = p ∧ k % 60 = n
  ·have hk : p * 60 + n = k := by omega
   rw [hk]
   by_cases c2 : zaL t (fv c (1 + (j * 60 + n))) < fv c (1 + k)
   ·rw [decide_eq_true c2,cond_true,zgm hp n _ (by omega),if_neg (by omega),zei (by unfold lim; omega),if_pos rfl,if_pos ⟨c1.1,by omega,by rw [c1.2]; exact c2⟩,c1.2]
   ·rw [decide_eq_false c2,cond_false,zgm hp n _ (by omega),if_neg (by omega),if_neg (fun w => c2 (by rw [c1.2] at w; exact w.2.2))]
  ·have e1 : (k / 60 = p ∧ k % 60 < n ∧ zaL t (fv c (1 + (j * 60 + k % 60))) < fv c (1 + k)) ↔ (k / 60 = p ∧ k % 60 < n + 1 ∧ zaL t (fv c (1 + (j * 60 + k % 60))) < fv c (1 + k)) := by
    constructor
    ·rintro ⟨a,b,d⟩; exact ⟨a,by omega,d⟩
    ·rintro ⟨a,b,d⟩; exact ⟨a,by omega,d⟩
   cases decide (zaL t (fv c (1 + (j * 60 + n))) < fv c (1 + (p * 60 + n))) with
   | false => rw [cond_false,zgm hp n _ (by omega)]; simp only [e1]
   | true =>
    rw [cond_true,zgm hp n _ (by omega)]; simp only [e1]
    rw [zei (by unfold lim; omega),if_neg (show ¬ (1 + k = 1 + (p * 60 + n)) by omega)]
theorem zmS {c : Tr Value} {i j : Nat} {v : Int} : ∀ (n : Nat) (r : Tr Value),n ≤ 60 → Tab0 r (zhq c i j v n r)
 | 0,r,_ => ⟨rfl,fun _ _ => rfl⟩
 | n + 1,r,hn => by
  simp only [zhq,zbW,zaA]
  cases zcd (zaL (fv c (1 + (n * 60 + i))) v) with
  | true => exact zmS n r (by omega)
  | false =>
   obtain ⟨a,b⟩ := zmJ (c := c) (t := zaL (fv c (1 + (n * 60 + i))) v) (j := j) (p := n) (by omega) 60 r (Nat.le_refl _)
   obtain ⟨a2,b2⟩ := zmS (c := c) (i := i) (j := j) (v := v) n (zkL c (zaL (fv c (1 + (n * 60 + i))) v) j n 60 r) (by omega)
   exact ⟨a2.trans a,fun m hm => (b2 m hm).trans (b m hm)⟩
theorem zhR {c : Tr Value} {i j : Nat} {v : Int} {k : Nat} (hk : k < 3600) : ∀ (n : Nat) (r : Tr Value),n ≤ 60 → (zhq c i j v n r).get (1 + k) =
  if k / 60 < n ∧ zcd (zaL (fv c (1 + (k / 60 * 60 + i))) v) = false ∧ zaL (zaL (fv c (1 + (k / 60 * 60 + i))) v) (fv c (1 + (j * 60 + k % 60))) < fv c (1 + k) then some (.int .i64 (zaL (zaL (fv c (1 + (k / 60 * 60 + i))) v) (fv c (1 + (j * 60 + k % 60))))) else r.get (1 + k)
 | 0,r,_ => by rw [if_neg (by omega)]; rfl
 | n + 1,r,hn => by
  simp only [zhq,zbW,zaA]
  by_cases c1 : k / 60 = n
  ·subst c1
   cases e : zcd (zaL (fv c (1 + (k / 60 * 60 + i))) v) with
   | true => rw [cond_true,zhR hk _ _ (by omega),if_neg (by omega),if_neg (fun w => by simp at w)]
   | false =>
    rw [cond_false,zhR hk _ _ (by omega),if_neg (by omega),zgm (by omega) 60 r (Nat.le_refl _)]
    by_cases c2 : zaL (zaL (fv c (1 + (k / 60 * 60 + i))) v) (fv c (1 + (j * 60 + k % 60))) < fv c (1 + k)
    ·rw [if_pos ⟨rfl,by omega,c2⟩,if_pos ⟨by omega,rfl,c2⟩]
    ·rw [if_neg (fun w => c2 w.2.2),if_neg (fun w => c2 w.2.2)]
  ·have e1 : ∀ (P : Prop),(k / 60 < n ∧ P) ↔ (k / 60 < n + 1 ∧ P) := fun P => ⟨fun w => ⟨by omega,w.2⟩,fun w => ⟨by omega,w.2⟩⟩
   cases zcd (zaL (fv c (1 + (n * 60 + i))) v) with
   | true => rw [cond_true,zhR hk _ _ (by omega)]; simp only [e1]
   | false =>
    rw [cond_false,zhR hk _ _ (by omega)]; simp only [e1]
    rw [zgm (by omega) 60 r (Nat.le_refl _),if_neg (show ¬ (k / 60 = n ∧ _) from fun w => c1 w.1)]
theorem zmW {F : Int → Int → Int} : ∀ (p : List Bool) (a b : Tr Value),(zeH F a b).get' p = zis F (a.get' p) (b.get' p)
 | p,.nil,b => by simp only [zeH,zdG]; rfl
 | p,.node l v r,.nil => by
  simp only [zeH,zdG]
  unfold zis
  split <;> rfl
 | [],.node l v r,.node l' v' r' => by
  simp only [zeH,zaA]
  show (match zis F v v' with | some x => Tr.node (zeH F l l') (some x) (zeH F r r') | none => .node (zeH F l l') none (zeH F r r')).get' [] = zis F v v'
  cases zis F v v' <;> rfl
 | b :: p,.node l v r,.node l' v' r' => by
  simp only [zeH,zaA]
  have h1 := zmW (F := F) p l l'
  have h2 := zmW (F := F) p r r'
  have : (match zis F v v' with | some x => Tr.node (zeH F l l') (some x) (zeH F r r') | none => .node (zeH F l l') none (zeH F r r')).get' (b :: p) = bif b then (zeH F l l').get' p else (zeH F r r').get' p := by cases zis F v v' <;> rfl
  refine this.trans ?_
  rw [h1,h2]
  cases b <;> rfl
theorem zBc {F : Int → Int → Int} {a b : Tr Value} {i : Nat} : (zeH F a b).get i = zis F (a.get i) (b.get i) := by
 unfold Tr.get
 cases Nat.blt i lim with
 | false => rfl
 | true => exact zmW _ a b

theorem zuM {c : Tr Value} {cs : List Value} (hcs : c.toL 32 3601 = some (.bool false :: cs)) : c.get 0 = some (.bool false) := by
 obtain ⟨_,w2⟩ := zcv hcs
 rw [← w2 0 (by omega) (by unfold lim; omega)]; rfl

theorem zBa {E : Env} (hg : zaN E 195 (zuZ 278)) : zaN E 195 (zzg 278) := zgc hg fun args h v h' hlow hcell hok => by
 unfold zzg at hok
 split at hok
 ·rename_i z x y v
  unfold zLl at hok
  split at hok
  ·rename_i c n e hz
   cases e3 : (zgW c && Nat.beq n 3601 && Nat.beq e 278 && Nat.ble (h.next + 1) lim && Nat.blt x 60 && Nat.blt y 60 && Nat.ble 1 x && inB v) with
   | false => rw [e3] at hok; simp at hok
   | true =>
   rw [e3,cond_true,zbW,zaA] at hok
   simp only [Bool.and_eq_true] at e3
   obtain ⟨⟨⟨⟨⟨⟨⟨f1,f2⟩,f3⟩,f4⟩,f5⟩,f6⟩,f7⟩,f8⟩ := e3
   obtain ⟨cs,hcs,hall⟩ := ziB f1
   obtain rfl := Nat.eq_of_beq_eq_true f2
   obtain ⟨rfl,rfl⟩ := zas hok
   refine ⟨⟨h.t.put h.next (some (.cells (Tr.ofL 33 (Value.bool false :: zbC (zqH c x y v (zbh .i64 (0 - v))) 3600 [])) 3601 278 false false)),h.next + 1⟩,?_,rfl,?_⟩
   ·unfold zuZ zyN
    simp only [hz,hcs]
    rw [show (zbg cs && Nat.beq 3601 3601 && Nat.beq e 278 && Nat.ble (h.next + 1) lim && Nat.blt x 60 && Nat.blt y 60 && Nat.ble 1 x && inB v) = true by simp only [hall,f3,f4,f5,f6,f7,f8]; rfl,cond_true,zbW,zaA]
   ·have hx := zaH f5
    refine zly (ztk (hcell _ _ _ _ _ _ hz) (zmK hx 60 c (Nat.le_refl _)) (zuM hcs) fun k hk => ?_)
    rw [zmB hx 60 c (Nat.le_refl _),ztx hk]
    unfold asF fcF
    by_cases a : k / 60 = x ∧ k % 60 ≠ x ∧ k % 60 < 60
    ·rw [if_pos a,if_pos a]
    ·rw [if_neg a,if_neg a]
     by_cases b : k % 60 = x ∧ k / 60 ≠ x ∧ k / 60 < 60
     ·rw [if_pos b,if_pos b]
     ·rw [if_neg b,if_neg b]; exact zhj hcs hall hk
  ·simp at hok
 ·simp at hok
theorem zmt : ∀ (t : Tr Value) (g : Nat) (c : Bool) (i s n : Nat),n < 2 ^ g → (n = 0 → c = true) → zeE (t.get' (zcq g n)) = true → i + s * n ∈ zdK c i s t
 | .nil,g,c,i,s,n,_,_,h => by simp [zdG,zeE] at h
 | .node l v r,g,c,i,s,n,hn,hc,h => by
  have rest : (0 < n → i + s * n ∈ zdK true (i + s) (2 * s) l ++ zdK false i (2 * s) r) → i + s * n ∈ zdK c i s (.node l v r) := fun k => by
   unfold zdK
   simp only [zaY]
   rcases Nat.eq_zero_or_pos n with e | e
   ·subst e
    obtain rfl := hc rfl
    have h : zeE v = true := by cases g <;> exact h
    rw [h]
    simp
   ·cases (c && zeE v) with
    | true => exact List.mem_cons_of_mem _ (k e)
    | false => exact k e
  refine rest fun h0 => ?_
  cases g with
  | zero => simp at hn; omega
  | succ g =>
   cases n with
   | zero => omega
   | succ n =>
    have hn2 : (n + 1) / 2 < 2 ^ g := by rw [Nat.pow_succ] at hn; omega
    have h : zeE (bif Nat.beq ((n + 1) % 2) 1 then l.get' (zcq g ((n + 1) / 2)) else r.get' (zcq g ((n + 1) / 2))) = true := h
    rcases (show (n + 1) % 2 = 1 ∨ (n + 1) % 2 = 0 by omega) with q | q
    ·rw [q] at h
     have := zmt l g true (i + s) (2 * s) ((n + 1) / 2) hn2 (fun _ => rfl) h
     have e : i + s + 2 * s * ((n + 1) / 2) = i + s * (n + 1) := by
      have hd : n + 1 = 2 * ((n + 1) / 2) + 1 := by omega
      rw [Nat.mul_comm 2 s,Nat.mul_assoc]
      conv => rhs; rw [hd,Nat.mul_add,Nat.mul_one]
      omega
     rw [e] at this
     exact List.mem_append_left _ this
    ·rw [q] at h
     have := zmt r g false i (2 * s) ((n + 1) / 2) hn2 (fun e => by omega) h
     have e : i + 2 * s * ((n + 1) / 2) = i + s * (n + 1) := by
      have hd : n + 1 = 2 * ((n + 1) / 2) := by omega
      rw [Nat.mul_comm 2 s,Nat.mul_assoc]
      conv => rhs; rw [hd]
     rw [e] at this
     exact List.mem_append_right _ this
theorem ztt {t : Tr Value} {i : Nat} (hi : i < lim) (h : zeE (t.get i) = true) : i ∈ zdK true 0 1 t := by
 unfold Tr.get at h
 rw [zbI hi,cond_true] at h
 have := zmt t 32 true 0 1 i hi (fun _ => rfl) h
 simpa using this
theorem zmr {xs : List Nat} {k : Nat} : zlf xs k = true ↔ k / 60 ≠ k % 60 ∧ (k / 60 ∈ xs ∨ k % 60 ∈ xs) := by
 unfold zlf
 by_cases d : k / 60 = k % 60
 ·rw [zfm d,cond_true]; exact ⟨fun h => (by cases h),fun h => (h.1 d).elim⟩
 ·rw [zeV d,cond_false]
  cases e1 : zgz (k / 60) xs with
  | true => exact ⟨fun _ => ⟨d,.inl (zdq.1 e1)⟩,fun _ => rfl⟩
  | false => exact ⟨fun h => ⟨d,.inr (zdq.1 h)⟩,fun h => by
    rcases h.2 with w | w
    ·rw [zdq.2 w] at e1; cases e1
    ·exact zdq.2 w⟩
theorem zhK {xs : List Nat} : ∀ (l : List Nat) (r : Tr Value),Tab0 r (zhI xs l r)
 | [],r => ⟨rfl,fun _ _ => rfl⟩
 | 0 :: l,r => zhK l r
 | (k + 1) :: l,r => by
  simp only [zhI,zaA]
  cases q : (Nat.blt k 3600 && zlf xs k) with
  | false => exact zhK l r
  | true =>
   rw [Bool.and_eq_true] at q
   have hk := zaH q.1
   obtain ⟨a,b⟩ := zhK (xs := xs) l (r.put (k + 1) (some (.int .i64 2305843009213693952)))
   refine ⟨a.trans ?_,fun m hm => (b m hm).trans ?_⟩
   ·rw [zaa,if_neg (by omega)]
   ·rw [zaa,if_neg (by omega)]
theorem zgk {xs : List Nat} {k : Nat} (hk : k < 3600) : ∀ (l : List Nat) (r : Tr Value),(zhI xs l r).get (1 + k) = if (1 + k) ∈ l ∧ zlf xs k = true then some (.int .i64 2305843009213693952) else r.get (1 + k)
 | [],r => by rw [if_neg (fun w => by simp at w)]; rfl
 | 0 :: l,r => by
  show (zhI xs l r).get (1 + k) = _
  rw [zgk hk l r]
  have : (1 + k ∈ l) ↔ (1 + k ∈ 0 :: l) := by simp
  simp only [this]
 | (j + 1) :: l,r => by
  simp only [zhI,zaA]
  by_cases e : j = k
  ·subst e
   rw [zbI hk,Bool.true_and]
   cases q : zlf xs j with
   | true =>
    rw [cond_true,zgk hk l _]
    rw [if_pos (c := _ ∈ (j + 1) :: l ∧ _) ⟨by rw [Nat.add_comm]; simp,rfl⟩]
    split
    ·rfl
    ·rw [zaa,if_pos ⟨by omega,by unfold lim; omega⟩]
   | false => rw [cond_false,zgk hk l r,q,if_neg (fun w => by simp at w),if_neg (fun w => by simp at w)]
  ·have hm : (1 + k ∈ l) ↔ (1 + k ∈ (j + 1) :: l) := by
    rw [List.mem_cons]
    exact ⟨.inr,fun w => w.resolve_left (by omega)⟩
   cases (Nat.blt j 3600 && zlf xs j) with
   | true =>
    rw [cond_true,zgk hk l _]; simp only [hm]
    rw [zaa,if_neg (show ¬ (1 + k = j + 1 ∧ _) from fun w => by omega)]
   | false => rw [cond_false,zgk hk l r]; simp only [hm]
theorem zBp {E : Env} (hg : zaN E 137 (zuR 278)) : zaN E 137 (zxp 278) := zgc hg fun args h v h' hlow hcell hok => by
 unfold zxp at hok
 split at hok
 ·rename_i z sv
  split at hok
  ·rename_i c n e hz
   split at hok
   ·rename_i xs hxs
    cases e3 : (zgW c && Nat.beq n 3601 && Nat.beq e 278 && Nat.ble (h.next + 1) lim && Nat.blt (zpc sv) 1000) with
    | false => rw [e3] at hok; simp at hok
    | true =>
    rw [e3,cond_true,zaA] at hok
    simp only [Bool.and_eq_true] at e3
    obtain ⟨⟨⟨⟨f1,f2⟩,f3⟩,f4⟩,f5⟩ := e3
    obtain ⟨cs,hcs,hall⟩ := ziB f1
    obtain rfl := Nat.eq_of_beq_eq_true f2
    obtain ⟨rfl,rfl⟩ := zas hok
    refine ⟨⟨h.t.put h.next (some (.cells (Tr.ofL 33 (Value.bool false :: zjf (zdb xs) 0 cs)) 3601 278 false false)),h.next + 1⟩,?_,rfl,?_⟩
    ·unfold zuR
     simp only [hz,hcs,hxs]
     rw [show (zbg cs && Nat.beq 3601 3601 && Nat.beq e 278 && Nat.ble (h.next + 1) lim && Nat.blt (zpc sv) 1000) = true by simp only [hall,f3,f4,f5]; rfl,cond_true,zaA]
    ·have hlt : ∀ m,3601 ≤ m → (zhI (zdb xs) (zdK true 0 1 c) c).get m = c.get m := fun m hm => (zhK _ _).far m hm
     have hz0 : (zhI (zdb xs) (zdK true 0 1 c) c).get 0 = c.get 0 := (zhK _ _).zero
     have hcl : cs.length = 3600 := by have := (zcv hcs).1; simpa using this
     refine zly fun i v hi => ?_
     rcases Nat.lt_or_ge i 3601 with w | w
     ·cases i with
      | zero => rw [hz0,zuM hcs] at hi; rw [zjc]; exact hi
      | succ k =>
       have hk : k < 3600 := by omega
       rw [show k + 1 = 1 + k by omega,zgk hk _ _] at hi
       have hcell2 : cs[k]? = some (.int .i64 (fv c (1 + k))) := by
        have := (zcv hcs).2 (1 + k) (by omega) (by unfold lim; omega)
        rw [show 1 + k = k + 1 by omega,List.getElem?_cons_succ] at this
        rw [this,show k + 1 = 1 + k by omega]; exact zhj hcs hall hk
       rw [zbd (by unfold lim; omega),List.getElem?_cons_succ,zmv hcell2,Nat.zero_add,← hi]
       have inl : ¬ (1 + k) ∈ zdK true 0 1 c → c.get (1 + k) = some (.int .i64 2305843009213693952) := fun w => by
        have hn : zeE (c.get (1 + k)) = false := by
         cases q : zeE (c.get (1 + k)) with
         | false => rfl
         | true => exact absurd (ztt (by unfold lim; omega) q) w
        rw [zhj hcs hall hk] at hn ⊢
        unfold zeE at hn
        simp only at hn
        cases q : zcd (fv c (1 + k)) with
        | false => rw [q] at hn; cases hn
        | true =>
         unfold zcd at q
         split at q
         ·rename_i m hm
          rw [hm,Nat.eq_of_beq_eq_true q]; rfl
         ·cases q
       unfold zrt
       by_cases a : k / 60 = k % 60
       ·rw [zfm a,cond_true,if_neg (fun w => (zmr.1 w.2).1 a)]; exact (zhj hcs hall hk).symm
       ·rw [zeV a,cond_false]
        have hit : (k / 60 ∈ zdb xs ∨ k % 60 ∈ zdb xs) → some (Value.int .i64 2305843009213693952) = (if (1 + k) ∈ zdK true 0 1 c ∧ zlf (zdb xs) k = true then some (.int .i64 2305843009213693952) else c.get (1 + k)) := fun w => by
         by_cases m : (1 + k) ∈ zdK true 0 1 c
         ·rw [if_pos ⟨m,zmr.2 ⟨a,w⟩⟩]
         ·rw [if_neg (fun w => m w.1),inl m]
        cases e1 : zgz (k / 60) (zdb xs) with
        | true => exact hit (.inl (zdq.1 e1))
        | false =>
         cases e2 : zgz (k % 60) (zdb xs) with
         | true => exact hit (.inr (zdq.1 e2))
         | false =>
          rw [if_neg (fun w => by
           rcases (zmr.1 w.2).2 with w | w
           ·rw [zdq.2 w] at e1; cases e1
           ·rw [zdq.2 w] at e2; cases e2)]
          exact (zhj hcs hall hk).symm
     ·rw [hlt i w] at hi
      have := hcell _ _ _ _ _ _ hz i v hi
      omega
   ·simp at hok
  ·simp at hok
 ·simp at hok
theorem ztL {E : Env} {F : Int → Int → Int} {f : FuncId} (hg : zaN E f (zoZ F 278)) : zaN E f (zuT F 278) := zgc hg fun args h v h' hlow hcell hok => by
 unfold zuT at hok
 split at hok
 ·rename_i z o
  split at hok
  ·rename_i c n e hz
   split at hok
   ·rename_i c2 n2 e2 ho
    cases e3 : (zgW c && zgW c2 && Nat.beq n 3601 && Nat.beq e 278 && Nat.beq n2 3601 && Nat.beq e2 278 && Nat.ble (h.next + 1) lim) with
    | false => rw [e3] at hok; simp at hok
    | true =>
    rw [e3,cond_true,zaA] at hok
    simp only [Bool.and_eq_true] at e3
    obtain ⟨⟨⟨⟨⟨⟨f1,f1'⟩,f2⟩,f3⟩,f4⟩,f5⟩,f6⟩ := e3
    obtain ⟨cs,hcs,hall⟩ := ziB f1
    obtain ⟨cs2,hcs2,hall2⟩ := ziB f1'
    obtain rfl := Nat.eq_of_beq_eq_true f2
    obtain rfl := Nat.eq_of_beq_eq_true f4
    obtain ⟨rfl,rfl⟩ := zas hok
    refine ⟨⟨h.t.put h.next (some (.cells (Tr.ofL 33 (Value.bool false :: zbC (fun k => F (fv c (1 + k)) (fv c2 (1 + k))) 3600 [])) 3601 278 false false)),h.next + 1⟩,?_,rfl,?_⟩
    ·unfold zoZ
     simp only [hz,hcs,ho,hcs2]
     rw [show (zbg cs && zbg cs2 && Nat.beq 3601 3601 && Nat.beq e 278 && Nat.beq 3601 3601 && Nat.beq e2 278 && Nat.ble (h.next + 1) lim) = true by simp only [hall,hall2,f3,f5,f6]; rfl,cond_true,zaA]
    ·refine zly fun i v hi => ?_
     rw [zBc] at hi
     rcases Nat.lt_or_ge i 3601 with w | w
     ·cases i with
      | zero => rw [zuM hcs] at hi; rw [zjc]; exact hi
      | succ k =>
       have hk : k < 3600 := by omega
       rw [show k + 1 = 1 + k by omega] at hi ⊢
       rw [zhj hcs hall hk,zhj hcs2 hall2 hk] at hi
       rw [zmA hk]
       unfold zis at hi
       simp only [zbW] at hi
       exact hi
     ·have hn : c.get i = none := by
       cases q : c.get i with
       | none => rfl
       | some v => have := hcell _ _ _ _ _ _ hz i v q; omega
      rw [hn] at hi; cases hi
   ·simp at hok
  ·simp at hok
 ·simp at hok
theorem zAD {E : Env} (hg : zaN E 194 (zoR 278)) : zaN E 194 (zzC 278) := zgc hg fun args h v h' hlow hcell hok => by
 unfold zzC at hok
 split at hok
 ·rename_i z i j v
  unfold zIf at hok
  split at hok
  ·rename_i c n e hz
   cases e3 : (zgW c && Nat.beq n 3601 && Nat.beq e 278 && Nat.ble (h.next + 4) lim && Nat.blt i 60 && Nat.blt j 60 && (bif Nat.beq i j then false else true)) with
   | false => rw [e3] at hok; simp at hok
   | true =>
   rw [e3,cond_true] at hok
   simp only [Bool.and_eq_true] at e3
   obtain ⟨⟨⟨⟨⟨⟨f1,f2⟩,f3⟩,f4⟩,f5⟩,f6⟩,f7⟩ := e3
   obtain ⟨cs,hcs,hall⟩ := ziB f1
   obtain rfl := Nat.eq_of_beq_eq_true f2
   have hi := zaH f5
   have hj := zaH f6
   have slow : zoR 278 [.pointer (some ⟨z,0,none⟩),.agg ⟨[.int .i64 (.ofNat i),.int .i64 (.ofNat j),.int .i64 v]⟩] h = zui 278 h z c i j v := by
    unfold zoR zzn
    simp only [hz,hcs]
    rw [show (zbg cs && Nat.beq 3601 3601 && Nat.beq e 278 && Nat.ble (h.next + 4) lim && Nat.blt i 60 && Nat.blt j 60 && (bif Nat.beq i j then false else true)) = true by simp only [hall,f3,f4,f5,f6,f7]; rfl,cond_true]
   rw [slow]
   unfold zAc at hok
   unfold zui
   cases q1 : decide (fv c (1 + (i * 60 + j)) ≤ v) with
   | true =>
    rw [q1,cond_true] at hok
    rw [cond_true]
    exact ⟨_,hok,rfl,fun b o hb => ⟨o,hb,ObjLe.refl o⟩⟩
   | false =>
   rw [q1,cond_false] at hok
   rw [cond_false]
   cases q2 : decide (zaL (fv c (1 + (j * 60 + i))) v < 0) with
   | true => rw [q2] at hok; simp at hok
   | false =>
   rw [q2,cond_false,zaA] at hok
   rw [cond_false]
   unfold zyc
   simp only [zaA]
   obtain ⟨u,hu⟩ : ∃ u,u = Tr.ofL 33 (zbC (fun p => zaL (fv c (1 + (p * 60 + i))) v) 60 []) := ⟨_,rfl⟩
   rw [← hu]
   have hfu : ∀ p,p < 60 → fv u p = zaL (fv c (1 + (p * 60 + i))) v := fun p hp => by rw [hu,zgx hp (Nat.le_refl _)]
   have hg : ∀ k,k < 3600 → (zhq c i j v 60 c).get (1 + k) = some (.int .i64 (zir c u j k)) := fun k hk => by
    rw [zhR hk 60 c (Nat.le_refl _)]
    unfold zir
    rw [zbW,hfu (k / 60) (by omega)]
    cases q : zcd (zaL (fv c (1 + (k / 60 * 60 + i))) v) with
    | true => rw [if_neg (fun w => by simp at w),cond_true]; exact zhj hcs hall hk
    | false =>
     rw [cond_false]
     unfold zpf
     by_cases q3 : zaL (zaL (fv c (1 + (k / 60 * 60 + i))) v) (fv c (1 + (j * 60 + k % 60))) < fv c (1 + k)
     ·rw [if_pos ⟨by omega,rfl,q3⟩,decide_eq_true q3,cond_true]
     ·rw [if_neg (fun w => q3 w.2.2),decide_eq_false q3,cond_false]; exact zhj hcs hall hk
   have hfv : ∀ k,k < 3600 → fv (zhq c i j v 60 c) (1 + k) = fv (Tr.ofL 33 (Value.bool false :: zbC (zir c u j) 3600 [])) (1 + k) := fun k hk => by
    rw [zgB (hg k hk),zgB (zmA hk)]
   have hsign : ∀ n,n ≤ 60 → zfz (fun x => decide (0 ≤ fv (zhq c i j v 60 c) (1 + (x * 60 + x)))) n = zfz (fun x => decide (0 ≤ fv (Tr.ofL 33 (Value.bool false :: zbC (zir c u j) 3600 [])) (1 + (x * 60 + x)))) n := by
    intro n
    induction n with
    | zero => exact fun _ => rfl
    | succ n ih =>
     intro hn
     simp only [zfz]
     rw [hfv _ (by omega),ih (by omega)]
   unfold zvp at hok ⊢
   rw [← hsign 60 (Nat.le_refl _)]
   cases q4 : zfz (fun x => decide (0 ≤ fv (zhq c i j v 60 c) (1 + (x * 60 + x)))) 60 with
   | false => rw [q4] at hok; simp at hok
   | true =>
   rw [q4,cond_true] at hok
   rw [cond_true]
   obtain ⟨rfl,rfl⟩ := zas hok
   exact ⟨_,rfl,rfl,zly (ztk (hcell _ _ _ _ _ _ hz) (zmS 60 c (Nat.le_refl _)) (zuM hcs) hg)⟩
  ·simp at hok
 ·simp at hok

theorem zrj {k m : Nat} : ∀ {l : List Nat},m ∈ zrH k l ↔ m = k ∨ m ∈ l
 | [] => by simp [zrH]
 | a :: l => by
  unfold zrH
  cases Nat.blt k a with
  | true => simp
  | false =>
   simp only [cond_false,List.mem_cons,zrj]
   constructor
   ·rintro (w | w | w)
    ·exact .inr (.inl w)
    ·exact .inl w
    ·exact .inr (.inr w)
   ·rintro (w | w | w)
    ·exact .inr (.inl w)
    ·exact .inl w
    ·exact .inr (.inr w)
theorem zpP {m : Nat} : ∀ {l : List Nat},m ∈ zfM l ↔ m ∈ l
 | [] => by simp [zfM]
 | a :: l => by simp only [zfM,zrj,zpP,List.mem_cons]
theorem zhl : ∀ {l : List Nat} {n : Nat},zfP n l = true → ∀ m ∈ l,n ≤ m
 | [],_,_,_,h => by simp at h
 | k :: l,n,h,m,hm => by
  unfold zfP at h
  cases e : Nat.ble n k with
  | false => rw [e] at h; cases h
  | true =>
   rw [e,cond_true] at h
   have := Nat.le_of_ble_eq_true e
   rcases List.mem_cons.1 hm with rfl | hm
   ·exact this
   ·have := zhl h m hm; omega
theorem zwI : ∀ {l : List Nat} {n : Nat},zfP n l = true → (∀ m ∈ l,n + 1 ≤ m) → zfP (n + 1) l = true
 | [],_,_,_ => rfl
 | k :: l,n,h,h2 => by
  unfold zfP at h ⊢
  have := h2 k (by simp)
  rw [Nat.ble_eq_true_of_le this,cond_true]
  cases e : Nat.ble n k with
  | false => rw [e] at h; cases h
  | true => rw [e,cond_true] at h; exact h
theorem znZ {k : Nat} {v : Value} (h : zeE (some v) = false) : zfX k v = [] := by
 unfold zfX
 split
 ·rename_i x
  cases Nat.beq (k / 60) (k % 60) with
  | true => rfl
  | false =>
   unfold zeE at h
   simp only at h
   cases q : zcd x with
   | true => rfl
   | false => rw [q] at h; cases h
 ·rfl
theorem zrs {c : Tr Value} (hc : ∀ i v,c.get i = some v → i < 3601) : ∀ {l : List Nat},(∀ m ∈ l,3601 ≤ m) → zhJ c l = []
 | [],_ => rfl
 | 0 :: l,h => by have := h 0 (by simp); omega
 | (k + 1) :: l,h => by
  have hn : c.get (k + 1) = none := by
   cases q : c.get (k + 1) with
   | none => rfl
   | some v => have := hc _ v q; have := h (k + 1) (by simp); omega
  simp only [zhJ,hn]
  exact zrs hc fun m hm => h m (by simp [hm])
theorem ztF {c : Tr Value} (hc : ∀ i v,c.get i = some v → i < 3601) : ∀ (cs : List Value) (k : Nat) (l : List Nat),k + cs.length = 3600 → (∀ i,i < cs.length → c.get (1 + (k + i)) = cs[i]?) → zfP (k + 1) l = true →
  (∀ i,k ≤ i → i < 3600 → zeE (c.get (1 + i)) = true → 1 + i ∈ l) → zhJ c l = zda k cs
 | [],k,l,hk,_,hl,_ => by
  have hk : k = 3600 := by simpa using hk
  exact zrs hc fun m hm => by have := zhl hl m hm; omega
 | v :: cs,k,l,hk,hcs,hl,hin => by
  simp only [List.length_cons] at hk
  have h0 : c.get (1 + k) = some v := by have := hcs 0 (by simp); simpa using this
  have hcs' : ∀ i,i < cs.length → c.get (1 + (k + 1 + i)) = cs[i]? := fun i hi => by
   have := hcs (i + 1) (by simp; omega)
   rw [List.getElem?_cons_succ] at this
   rw [← this,show k + 1 + i = k + (i + 1) by omega]
  have drop : ∀ l,zfP (k + 1 + 1) l = true → (∀ i,k + 1 ≤ i → i < 3600 → zeE (c.get (1 + i)) = true → 1 + i ∈ l) → zhJ c l = zda (k + 1) cs := fun l a b => ztF hc cs (k + 1) l (by omega) hcs' a b
  simp only [zda,zaY]
  match l,hl with
  | [],hl =>
   have e : zfX k v = [] := by
    have hn : zeE (some v) = false := by
     cases q : zeE (some v) with
     | false => rfl
     | true => have := hin k (Nat.le_refl _) (by omega) (by rw [h0]; exact q); simp at this
    exact znZ hn
   rw [e,List.nil_append]
   exact drop [] rfl fun i a b d => by have := hin i (by omega) b d; simp at this
  | m :: l,hl =>
   by_cases hm : m = k + 1
   ·subst hm
    simp only [zhJ]
    rw [show k + 1 = 1 + k by omega,h0]
    simp only
    congr 1
    rw [show 1 + k = k + 1 by omega]
    unfold zfP at hl
    rw [Nat.ble_eq_true_of_le (Nat.le_refl _),cond_true] at hl
    refine drop l hl fun i a b d => ?_
    have := hin i (by omega) b d
    exact (List.mem_cons.1 this).resolve_left (by omega)
   ·have ge := zhl hl
    have e : zfX k v = [] := by
     have hn : zeE (some v) = false := by
      cases q : zeE (some v) with
      | false => rfl
      | true =>
       have w := hin k (Nat.le_refl _) (by omega) (by rw [h0]; exact q)
       rcases List.mem_cons.1 w with w | w
       ·omega
       ·unfold zfP at hl
        cases e : Nat.ble (k + 1) m with
        | false => rw [e] at hl; cases hl
        | true =>
         rw [e,cond_true] at hl
         have := zhl hl _ w
         have := Nat.le_of_ble_eq_true e
         omega
     exact znZ hn
    rw [e,List.nil_append]
    refine drop (m :: l) (zwI hl fun q hq => ?_) fun i a b d => hin i (by omega) b d
    rcases List.mem_cons.1 hq with rfl | hq
    ·have := ge q (by simp); omega
    ·unfold zfP at hl
     cases e : Nat.ble (k + 1) m with
     | false => rw [e] at hl; cases hl
     | true =>
      rw [e,cond_true] at hl
      have := zhl hl _ hq
      have := Nat.le_of_ble_eq_true e
      omega
theorem zyz {E : Env} (hg : zaN E 140 consQ) : zaN E 140 consF := zgc hg fun args h v h' hlow hcell hok => by
 unfold consF at hok
 split at hok
 ·rename_i b
  unfold zAl at hok
  split at hok
  ·rename_i c n e hz
   cases e3 : (zvb c && Nat.beq n 3601 && Nat.ble (h.next + 8000) lim && Nat.blt b h.next && zfP 0 (zfM (zdK true 0 1 c))) with
   | false => rw [e3] at hok; simp at hok
   | true =>
   rw [e3,cond_true] at hok
   simp only [Bool.and_eq_true] at e3
   obtain ⟨⟨⟨⟨f1,f2⟩,f3⟩,f4⟩,f5⟩ := e3
   obtain ⟨b0,cs,hcs,hall,hc0⟩ := zAP f1
   obtain rfl := Nat.eq_of_beq_eq_true f2
   have hcl : cs.length = 3600 := by have := (zcv hcs).1; simpa using this
   have hget : ∀ i,i < cs.length → c.get (1 + (0 + i)) = cs[i]? := fun i hi => by
    have := (zcv hcs).2 (1 + i) (by omega) (by unfold lim; omega)
    rw [show 1 + i = i + 1 by omega,List.getElem?_cons_succ] at this
    rw [this,Nat.zero_add,show i + 1 = 1 + i by omega]
   have hmem : ∀ i,i < lim → zeE (c.get i) = true → i ∈ zfM (zdK true 0 1 c) := fun i hi hn => zpP.2 (ztt hi hn)
   have h0 : 0 ∈ zfM (zdK true 0 1 c) := hmem 0 (by unfold lim; omega) (by rw [hc0]; rfl)
   have hO : zhJ c (zfM (zdK true 0 1 c)) = zda 0 cs := by
    generalize zfM (zdK true 0 1 c) = l at f5 h0 hmem
    match l,h0 with
    | m :: l,h0 =>
     have hm : m = 0 := by
      unfold zfP at f5
      cases e : Nat.ble 0 m with
      | false => rw [e] at f5; cases f5
      | true =>
       rw [e,cond_true] at f5
       rcases List.mem_cons.1 h0 with w | w
       ·exact w.symm
       ·have := zhl f5 0 w; omega
     subst hm
     unfold zfP at f5
     rw [Nat.ble_eq_true_of_le (Nat.le_refl _),cond_true] at f5
     refine ztF (hcell _ _ _ _ _ _ hz) cs 0 l (by omega) hget f5 fun i _ hi hn => ?_
     have := hmem (1 + i) (by unfold lim; omega) hn
     exact (List.mem_cons.1 this).resolve_left (by omega)
   refine ⟨h',?_,rfl,fun b o hb => ⟨o,hb,ObjLe.refl o⟩⟩
   unfold consQ zul
   simp only [hz]
   rw [show (Nat.beq 3601 3601 && Nat.ble (h.next + 8000) lim && Nat.blt b h.next) = true by simp only [f3,f4]; rfl,cond_true,hcs]
   unfold zuS
   simp only [hall,cond_true]
   rw [← hO]; exact hok
  ·simp at hok
 ·simp at hok

end Go.Proofs.YtgdkljcnebaiiaaGreat

namespace Go.Sim
end Go.Sim
namespace Go.Proofs.YtgdkljcnebaiiaaGreat
open Go Go.Sim
set_option maxRecDepth 100000
abbrev OT := Nat → Option (List Value → SHeap → Except String (Value × SHeap))
def zaG (O : OT) : Prop := ∀ f g,(Eo O).O f = some g → zaN (Eo O) f g

theorem zdd (O : OT) : zcD (Eo O) := zyZ (zdC O) (show Tryz.prog.follows .mixedOrders = true from zOQ)
theorem zcS {O O' : OT} {f : FuncId} {g : List Value → SHeap → Except String (Value × SHeap)} (k : zaN (Eo O) f g) : zaN (Eo O') f g := zBv (E := Eo O) (E' := Eo O') rfl rfl rfl k
theorem kok (O : OT) (h : zaG O) (n : Nat) : KOK (Eo O) (run (Eo O) n) := zcU (zdC O) (zdd O) h n
theorem zau {O : OT} (h : zaG O) {f0 : Nat} {g0 : List Value → SHeap → Except String (Value × SHeap)} {O' : OT} (hO : ∀ f,O' f = bif Nat.beq f f0 then some g0 else O f) (hg : zaN (Eo O) f0 g0) : zaG O' := by
 intro f g hf
 have hf : O' f = some g := hf
 rw [hO] at hf
 cases e : Nat.beq f f0 with
 | true =>
  rw [e,cond_true] at hf
  obtain rfl := Option.some.inj hf
  obtain rfl := Nat.eq_of_beq_eq_true e
  exact zcS hg
 | false => rw [e,cond_false] at hf; exact zcS (h f g hf)

def O0 : Nat → Option (List Value → SHeap → Except String (Value × SHeap)) := fun _ => none
theorem ok0 : zaG O0 := by intro f g h; cases h
noncomputable def zbv (O : OT) (f : Nat) (args : List Value) (h : SHeap) : Except String (Value × SHeap) := run (Eo O) 60 (.call f args.toArray .normal) h
theorem zaF {O O' : OT} (h : zaG O) {f : Nat} : zaN (Eo O') f (zbv O f) := zcS (O := O) fun args hp v h' hok ρ w hw hg rargs ha c cs => by
 unfold zbv at hok
 exact kok O h 60 _ _ _ _ hok ρ w hw hg rargs (by rw [List.toList_toArray]; exact ha) c cs (.inl rfl)
def Oa0 : Nat → Option (List Value → SHeap → Except String (Value × SHeap)) := fun f => bif Nat.beq f 140 then some (consF) else O0 f
theorem zXi : zaG Oa0 := zau ok0 (fun _ => rfl) (zcS (zyz (zAF (zdC O0) (zdd O0) ok0 rfl)))
def Oa1 : Nat → Option (List Value → SHeap → Except String (Value × SHeap)) := fun f => bif Nat.beq f 144 then some (withinQ) else Oa0 f
theorem xhI : zaG Oa1 := zau zXi (fun _ => rfl) (zcS (zvU (zdC O0) (zdd O0) ok0 rfl))
def Oa2 : Nat → Option (List Value → SHeap → Except String (Value × SHeap)) := fun f => bif Nat.beq f 192 then some (zqj [] (.agg topL.toArray)) else Oa1 f
theorem xcf : zaG Oa2 := zau xhI (fun _ => rfl) (zcS (zDc (zdC O0) (zdd O0) ok0 rfl))
def Oa3 : Nat → Option (List Value → SHeap → Except String (Value × SHeap)) := fun f => bif Nat.beq f 319 then some (zpQ 278) else Oa2 f
theorem zXs : zaG Oa3 := zau xcf (fun _ => rfl) (zcS (zKD (zdC O0) (zdd O0) ok0 rfl rfl rfl rfl rfl rfl))
def Oa4 : Nat → Option (List Value → SHeap → Except String (Value × SHeap)) := fun f => bif Nat.beq f 251 then some (sumQ) else Oa3 f
theorem xgl : zaG Oa4 := zau zXs (fun _ => rfl) (zcS (zGk (zdC O0) (zdd O0) ok0 rfl))
def Oa5 : Nat → Option (List Value → SHeap → Except String (Value × SHeap)) := fun f => bif Nat.beq f 315 then some (lessQ) else Oa4 f
theorem zZK : zaG Oa5 := zau xgl (fun _ => rfl) (zcS (zwH (zdC O0) (zdd O0) ok0 rfl))
def Oa6 : Nat → Option (List Value → SHeap → Except String (Value × SHeap)) := fun f => bif Nat.beq f 316 then some (plusQ) else Oa5 f
theorem zYs : zaG Oa6 := zau zZK (fun _ => rfl) (zcS (zBI (zdC O0) (zdd O0) ok0 rfl))
def Oa7 : Nat → Option (List Value → SHeap → Except String (Value × SHeap)) := fun f => bif Nat.beq f 94 then some (boundQ) else Oa6 f
theorem zWW : zaG Oa7 := zau zYs (fun _ => rfl) (zcS (zxi (zdC O0) (zdd O0) ok0 rfl rfl))
def Oa8 : Nat → Option (List Value → SHeap → Except String (Value × SHeap)) := fun f => bif Nat.beq f 231 then some (valQ) else Oa7 f
theorem zXg : zaG Oa8 := zau zWW (fun _ => rfl) (zcS (zvI (zdC O0) (zdd O0) ok0 rfl rfl))
def Oa9 : Nat → Option (List Value → SHeap → Except String (Value × SHeap)) := fun f => bif Nat.beq f 283 then some (gooQ) else Oa8 f
theorem xbm : zaG Oa9 := zau zXg (fun _ => rfl) (zcS (zBJ (zdC O0) (zdd O0) ok0 rfl))
def Oa10 : Nat → Option (List Value → SHeap → Except String (Value × SHeap)) := fun f => bif Nat.beq f 143 then some (tagQ) else Oa9 f
theorem zAb : zaG Oa10 := zau xbm (fun _ => rfl) (zcS (zCg (zdC O0) (zdd O0) ok0 rfl))
noncomputable def Oa11 : Nat → Option (List Value → SHeap → Except String (Value × SHeap)) := fun f => bif Nat.beq f 222 then some (orQ (zuT zjo 278) (zbv Oa10 222)) else Oa10 f
theorem zzZ : zaG Oa11 := zau zAb (fun _ => rfl) (zaP (zcS (ztL (zzE (zdC O0) (zdd O0) ok0 rfl rfl rfl))) (zaF zAb))
noncomputable def Oa12 : Nat → Option (List Value → SHeap → Except String (Value × SHeap)) := fun f => bif Nat.beq f 146 then some (orQ (zuT zji 278) (zbv Oa11 146)) else Oa11 f
theorem zAa : zaG Oa12 := zau zzZ (fun _ => rfl) (zaP (zcS (ztL (zBF (zdC O0) (zdd O0) ok0 rfl rfl rfl))) (zaF zzZ))
noncomputable def Oa13 : Nat → Option (List Value → SHeap → Except String (Value × SHeap)) := fun f => bif Nat.beq f 137 then some (orQ (zxp 278) (zbv Oa12 137)) else Oa12 f
theorem zzX : zaG Oa13 := zau zAa (fun _ => rfl) (zaP (zcS (zBp (zwc (zdC O0) (zdd O0) ok0 rfl))) (zaF zAa))
noncomputable def Oa14 : Nat → Option (List Value → SHeap → Except String (Value × SHeap)) := fun f => bif Nat.beq f 195 then some (orQ (zzg 278) (zbv Oa13 195)) else Oa13 f
theorem zAj : zaG Oa14 := zau zzX (fun _ => rfl) (zaP (zcS (zBa (zCk (zdC O0) (zdd O0) ok0 rfl rfl rfl rfl))) (zaF zzX))
noncomputable def O1 : Nat → Option (List Value → SHeap → Except String (Value × SHeap)) := fun f => bif Nat.beq f 194 then some (orQ (zzC 278) (zbv Oa14 194)) else Oa14 f
theorem ok1 : zaG O1 := zau zAj (fun _ => rfl) (zaP (zcS (zAD (zLu (zdC O0) (zdd O0) ok0 rfl rfl rfl))) (zaF zAj))
theorem zyv {O O' : OT} (h : zaG O) {n : Nat} {m : Memo} (hr : ziH (run (Eo O) n) m = true) : zaN (Eo O') m.f (zks (Eo O').G m) := zcS (O := O) (zHt (kok O h n) (Nat.zero_le _) hr)
theorem zlr {O O' : OT} (h : zaG O) {n : Nat} {m : Memo} (hr : zhP (Eo O) (run (Eo O) n) m = true) : zaN (Eo O') m.f (zks (Eo O').G m) := zcS (O := O) (zAV (zdC O) (zdd O) (kok O h n) (Nat.zero_le _) hr)
def zlv (ih : K) (f : Nat) : List Memo → Bool
 | [] => true
 | m :: r => bif Nat.beq m.f f then (bif ziH ih m then zlv ih f r else false) else false
def zhZ (f : Nat) (ms : List Memo) : Prop := ∀ m ∈ ms,∀ O' : OT,zaN (Eo O') f (zks 0 m)
theorem zac {O : OT} (h : zaG O) {n f : Nat} : ∀ {ms : List Memo},zlv (run (Eo O) n) f ms = true → zhZ f ms
 | [],_,m,hm,_ => by simp at hm
 | m :: r,hr,m',hm,O' => by
  unfold zlv at hr
  cases e : Nat.beq m.f f with
  | false => rw [e] at hr; cases hr
  | true =>
   rw [e,cond_true] at hr
   cases e2 : ziH (run (Eo O) n) m with
   | false => rw [e2] at hr; cases hr
   | true =>
    rw [e2,cond_true] at hr
    rcases List.mem_cons.1 hm with rfl | hm
    ·have := zyv (O' := O') h e2
     rw [Nat.eq_of_beq_eq_true e] at this
     exact this
    ·exact zac h hr m' hm O'
theorem zae {f : Nat} {a b : List Memo} (ha : zhZ f a) (hb : zhZ f b) : zhZ f (a ++ b) := fun m hm => by
 rcases List.mem_append.1 hm with hm | hm
 ·exact ha m hm
 ·exact hb m hm
def zaX (ms : List Memo) : List (Nat × Nat) → List Value → SHeap → Except String (Value × SHeap)
 | [],_,_ => .error "memo  none"
 | p :: r,args,h => bif Nat.beq p.1 h.next then (match ms[p.2]? with
  | some m => (match zks 0 m args h with
   | .ok x => .ok x
   | .error _ => zaX ms r args h)
  | none => zaX ms r args h) else zaX ms r args h
theorem zaC {O' : OT} {f : Nat} {ms : List Memo} (hm : zhZ f ms) : ∀ {T : List (Nat × Nat)},zaN (Eo O') f (zaX ms T)
 | [] => by intro args h v h' hok; simp [zaX] at hok
 | p :: r => by
  intro args h v h' hok
  unfold zaX at hok
  cases hb : Nat.beq p.1 h.next with
  | false => rw [hb,cond_false] at hok; exact zaC hm args h v h' hok
  | true =>
   rw [hb,cond_true] at hok
   split at hok
   ·rename_i m hq
    split at hok
    ·rename_i x hx
     rw [hok] at hx
     exact hm m (List.mem_of_getElem? hq) O' args h v h' hx
    ·exact zaC hm args h v h' hok
   ·exact zaC hm args h v h' hok
end Go.Proofs.YtgdkljcnebaiiaaGreat

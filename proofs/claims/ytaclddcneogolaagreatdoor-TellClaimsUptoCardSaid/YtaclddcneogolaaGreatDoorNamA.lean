/- The simulator on name. The simulator on kind. The simulator on bound. -/
import Derived.Test.YtaclddcneogolaaGreatDoorLibA
import Derived.Test.YtaclddcneogolaaGreatDoorSnd
set_option linter.unusedVariables false
set_option linter.unusedSimpArgs false
set_option linter.unusedSimpArgs false
set_option linter.unusedVariables false
namespace Go.Proofs.YtaclddcneogolaaGreatDoor
open Go Go.Sim
set_option maxRecDepth 100000
variable {O : Nat → Option (List Value → SHeap → Except String (Value × SHeap))} {ih : K}

/-- a variable's name,of the sixty -/
def nameS (v : Nat) : List UInt8 :=
  bif Nat.beq v 0 then [48] else bif Nat.beq v 1 then [108,101,110] else bif Nat.blt v 12 then 114 :: Lib.decDigits (v - 2) else bif Nat.blt v 44 then 115 :: Lib.decDigits (v - 12) else
    bif Nat.beq ((v - 44) % 2) 0 then 97 :: Lib.decDigits ((v - 44) / 2) else 98 :: Lib.decDigits ((v - 44) / 2)
/-- the same,without a recursion by measure -/
def dig2 (n : Nat) : List UInt8 := bif Nat.blt n 10 then [UInt8.ofNat (48 + n)] else [UInt8.ofNat (48 + n / 10),UInt8.ofNat (48 + n % 10)]
theorem dig2xeq {n : Nat} (h : n < 100) : dig2 n = Lib.decDigits n := by
  unfold dig2
  by_cases h1 : n < 10
  · rw [blt_of h1,cond_true,Lib.decDigits_one h1]
  · rw [blt_not h1,cond_false,Lib.decDigits_two h1 h]
def nameC (v : Nat) : List UInt8 :=
  bif Nat.beq v 0 then [48] else bif Nat.beq v 1 then [108,101,110] else bif Nat.blt v 12 then 114 :: dig2 (v - 2) else bif Nat.blt v 44 then 115 :: dig2 (v - 12) else
    bif Nat.beq ((v - 44) % 2) 0 then 97 :: dig2 ((v - 44) / 2) else 98 :: dig2 ((v - 44) / 2)
theorem nameC_eq {v : Nat} (h : v < 60) : nameC v = nameS v := by
  unfold nameC nameS
  rw [dig2xeq (show (v - 44) / 2 < 100 by omega)]
  by_cases h1 : v < 12
  · rw [dig2xeq (show v - 2 < 100 by omega),blt_of h1]; rfl
  · rw [dig2xeq (show v - 12 < 100 by omega)]
    rw [blt_not h1]; rfl

def natsB (p : Nat → Bool) : Nat → Bool
  | 0 => true
  | n + 1 => p n && natsB p n
theorem natsB_at {p : Nat → Bool} : ∀ {n : Nat},natsB p n = true → ∀ k,k < n → p k = true
  | 0,_,k,hk => by omega
  | n + 1,h,k,hk => by
    simp only [natsB,Bool.and_eq_true] at h
    rcases (show k < n ∨ k = n by omega) with h1 | rfl
    · exact natsB_at h.2 k h1
    · exact h.1
theorem name_tab : natsB (fun v => pureRun (Go.Sim.run (Eo O1) 10) 2 33 [.int .i64 (.ofNat v)] (.string ⟨(nameC v).toArray⟩)) 60 = true := by kernel_rfl

def nameT (v : Int) : List UInt8 := match v with
  | .ofNat n => bif Nat.blt n 60 then nameS n else 118 :: Lib.itoa v
  | v => 118 :: Lib.itoa v
def nameN (v : Int) : Nat := match v with
  | .ofNat n => bif Nat.blt n 100 then 0 else 1
  | _ => 1
def nameQ (args : List Value) (h : SHeap) : Ex (Value × SHeap) := match args with
  | [.int .i64 v] => bif tabOK (h.t.get 0) && decide (-9223372036854775808 ≤ v) && decide (v ≤ 9223372036854775807) && Nat.ble (h.next + 10) lim then .ok (.string ⟨(nameT v).toArray⟩,⟨h.t,h.next + nameN v⟩) else .error "name"
  | _ => .error "name"

theorem geq_i64 {E : Env} {ev : Ev} {o : Oper} {t : TypeId} {x y : Int} {h : SHeap} : opBin E ev o .geq t (some (.int .i64 x)) (some (.int .i64 y)) h = .ok (.value (.bool (decide (x ≥ y))),h) := bin_i64 (id rfl)
theorem add_str {E : Env} {ev : Ev} {o : Oper} {t : TypeId} {x y : List UInt8} {h : SHeap} (hl : x.length + y.length < 1000000000000) : opBin E ev o .add t (some (.string ⟨x.toArray⟩)) (some (.string ⟨y.toArray⟩)) h = .ok (.value (.string ⟨(x ++ y).toArray⟩),h) := by
  show opAddStr E ev o (.string ⟨x.toArray⟩) (.string ⟨y.toArray⟩) h = _
  simp only [opAddStr,blt_of hl,cond_true,valR]
theorem itoa_len {v : Int} (h1 : -9223372036854775808 ≤ v) (h2 : v ≤ 9223372036854775807) : (Lib.itoa v).length ≤ 21 := by
  unfold Lib.itoa
  split
  · rw [List.length_cons,Lib.decDigits_length]
    have := nd_le (u := v.natAbs) (by omega)
    omega
  · rw [Lib.decDigits_length]
    have := nd_le (u := v.toNat) (by omega)
    omega

theorem name_far {v : Int} (hv : v < 0 ∨ 60 ≤ v) (h1 : -9223372036854775808 ≤ v) (h2 : v ≤ 9223372036854775807) {tm : Tr Value} {h h' : SHeap} (hI : ih (.call 56 #[.int .i64 v] .normal) h = .ok (.string ⟨(Lib.itoa v).toArray⟩,h')) (t0 : tm.get 0 = some (.int .i64 v)) :
    ∃ tm',codeS (cF Tryz.f33) (Eo O) ih ⟨33,44,.normal,none⟩ ⟨tm,h,[]⟩ = .ok (.ret,⟨tm',h',[]⟩) ∧ tm'.get 2 = some (.string ⟨(118 :: Lib.itoa v).toArray⟩) := by
  have q0 : (v == 0) = false := by simp; omega
  have q1 : (v == 1) = false := by simp; omega
  have ha := fun (ev : Ev) (o : Oper) (g : SHeap) => add_str (E := Eo O) (ev := ev) (o := o) (t := 9) (x := [118]) (y := Lib.itoa v) (h := g) (by have := itoa_len h1 h2; simp; omega)
  have hc : evT 2 tm (.const (.string ⟨#[118]⟩)) = some (.string ⟨([118] : List UInt8).toArray⟩) := rfl
  generalize hr : codeS (cF Tryz.f33) (Eo O) ih ⟨33,44,.normal,none⟩ ⟨tm,h,[]⟩ = r
  rcases hv with hv | hv
  · have q2 : decide (v < 1) = true := by simp; omega
    simp only [Tryz.f33,cF,Option.getD,cA,cB,cI,codeS,cSeq_run,cCond_run,cRegion_run,cRegion_draw,cBlock_run,cSkip_run,cRet_run,cExit_run,opsS_nil,opsS_run,opS_free,thenS_normal,thenS_ret,thenS_exit,exitBlock_normal,exitBlock_ret,exitBlock_exit,normalS_ok,dispatch,dMove,opMove,evT_tmp,evT_int,evT_bool,dBin,lss_i64,gtr_i64,add_i64,valR,afterS_value,putT_some,putT_none,get_put,lim,Nat.reduceLT,Nat.reduceEqDiff,and_true,if_true,if_false,reduceIte,false_and,true_and,cLoop_run,Nat.beq,cond_true,
      dIndexAddr,dFieldAddr,dNilCheck,dLoad,nilCheck_ptr,Option.bind_some,natOf_int,addrAdd_free,drawS_nil',drawS_cons',dstep_pure',dstep_read',simOp_run,outVal_val,List.getElem?_toArray,List.getElem?_cons_succ,List.getElem?_cons_zero,List.drop_succ_cons,List.drop_zero,dPick,pick_true,pick_false,opS_guard,wantedS,Option.bind_some,dIndex,dBuild,dBuildSlice,dCall,evParts,evList,dSlice,bqa,bqb,bqc,bqd,eql_i64,geq_i64,evT_str,afterS_enter,call_fn en56,t0,q0,q1,q2,hI,ha] at hr
    subst hr
    exact ⟨_,rfl,by simp [get_put,lim]⟩
  · have q2 : decide (v < 1) = false := by simp; omega
    have q3 : decide (v ≥ 60) = true := by simp; omega
    simp only [Tryz.f33,cF,Option.getD,cA,cB,cI,codeS,cSeq_run,cCond_run,cRegion_run,cRegion_draw,cBlock_run,cSkip_run,cRet_run,cExit_run,opsS_nil,opsS_run,opS_free,thenS_normal,thenS_ret,thenS_exit,exitBlock_normal,exitBlock_ret,exitBlock_exit,normalS_ok,dispatch,dMove,opMove,evT_tmp,evT_int,evT_bool,dBin,lss_i64,gtr_i64,add_i64,valR,afterS_value,putT_some,putT_none,get_put,lim,Nat.reduceLT,Nat.reduceEqDiff,and_true,if_true,if_false,reduceIte,false_and,true_and,cLoop_run,Nat.beq,cond_true,
      dIndexAddr,dFieldAddr,dNilCheck,dLoad,nilCheck_ptr,Option.bind_some,natOf_int,addrAdd_free,drawS_nil',drawS_cons',dstep_pure',dstep_read',simOp_run,outVal_val,List.getElem?_toArray,List.getElem?_cons_succ,List.getElem?_cons_zero,List.drop_succ_cons,List.drop_zero,dPick,pick_true,pick_false,opS_guard,wantedS,Option.bind_some,dIndex,dBuild,dBuildSlice,dCall,evParts,evList,dSlice,bqa,bqb,bqc,bqd,eql_i64,geq_i64,evT_str,afterS_enter,call_fn en56,t0,q0,q1,q2,q3,hI,ha] at hr
    subst hr
    exact ⟨_,rfl,by simp [get_put,lim]⟩

theorem body33 : Tryz.f33.body = some (cF Tryz.f33) := rfl
theorem fn33 : (Eo O).F 33 = some Tryz.f33 := by show Tab.funcs.get 33 = _; kernel_rfl
theorem nt33 {a : Value} : max Tryz.f33.ntmps (#[a] : Array Value).size = 44 := rfl
theorem res33 : Tryz.f33.results.toList = [.tmp 2] := rfl

theorem name_ok (hOK : ∀ f g,(Eo O).O f = some g → OrcOK (Eo O) f g) (o56 : O 56 = some itoaQ) (o33 : O 33 = none) : OrcOK (Eo O) 33 nameQ := by
  have far : ∀ (v : Int) (h : SHeap),(v < 0 ∨ 60 ≤ v) → -9223372036854775808 ≤ v → v ≤ 9223372036854775807 → tabOK (h.t.get 0) = true → h.next + 10 ≤ lim →
      run (Eo O) 2 (.call 33 #[.int .i64 v] .normal) h = .ok (.string ⟨(118 :: Lib.itoa v).toArray⟩,⟨h.t,h.next + nameN v⟩) := by
    intro v h hv h1 h2 ht hl
    have hI : run (Eo O) 1 (.call 56 #[.int .i64 v] .normal) h = .ok (.string ⟨(Lib.itoa v).toArray⟩,⟨h.t,h.next + nameN v⟩) := by
      rw [run_orc (E := Eo O) (show (Eo O).O 56 = some itoaQ from o56)]
      have hb : Nat.ble (h.next + 10) lim = true := by rw [Nat.ble_eq]; exact hl
      simp only [itoaQ,ht,decide_eq_true h1,decide_eq_true h2,hb,Bool.and_true,cond_true]
      congr 2
      cases v with
      | ofNat n =>
        have hn : 60 ≤ n := by rcases hv with h | h; exact absurd h (by have := Int.natCast_nonneg n; show ¬ ((n : Int) < 0); omega); have : (60 : Int) ≤ (n : Int) := h; omega
        have e1 : decide ((0 : Int) ≤ Int.ofNat n) = true := by simp
        simp only [e1,Bool.true_and,nameN]
        by_cases hq : n < 100
        · have e2 : decide (Int.ofNat n < 100) = true := by simp; omega
          rw [e2,blt_of hq]; rfl
        · have e2 : decide (Int.ofNat n < 100) = false := by simp; omega
          rw [e2,blt_not hq]; rfl
      | negSucc n =>
        have e1 : decide ((0 : Int) ≤ Int.negSucc n) = false := by simp
        rw [e1]; rfl
    obtain ⟨tm',k1,k2⟩ := name_far (O := O) (ih := run (Eo O) 1) hv h1 h2 hI (tm := Tr.ofL 33 [.int .i64 v]) rfl
    exact (run_call (show (Eo O).O 33 = none from o33)).trans (enterS_ret (vs := [_]) fn33 body33 nt33 rfl res33 k1 (by simp only [resultsS,k2,need]))
  have hrun : KOK (Eo O) (run (Eo O) 2) := run_ok (envOK O) (bDraw_ok (envOK O) (show Tryz.prog.follows .mixedOrders = true from mixed)) hOK 2
  intro args h v h' hok
  unfold nameQ at hok
  split at hok
  · rename_i x hargs
    cases hc : (tabOK (h.t.get 0) && decide (-9223372036854775808 ≤ x) && decide (x ≤ 9223372036854775807) && Nat.ble (h.next + 10) lim) with
    | false => rw [hc] at hok; simp at hok
    | true =>
      rw [hc,cond_true] at hok
      simp only [Except.ok.injEq,Prod.mk.injEq] at hok
      obtain ⟨rfl,rfl⟩ := hok
      simp only [Bool.and_eq_true,decide_eq_true_eq] at hc
      obtain ⟨⟨⟨c1,c2⟩,c3⟩,c4⟩ := hc
      have c4 := Nat.le_of_ble_eq_true c4
      have harr : args = #[.int .i64 x] := Array.toList_inj.1 hargs
      subst harr
      by_cases hv : x < 0 ∨ 60 ≤ x
      · have hT : nameT x = 118 :: Lib.itoa x := by
          cases x with
          | ofNat n =>
            have hn : 60 ≤ n := by rcases hv with h | h; exact absurd h (by have := Int.natCast_nonneg n; show ¬ ((n : Int) < 0); omega); have : (60 : Int) ≤ (n : Int) := h; omega
            simp only [nameT,blt_not (show ¬ n < 60 by omega),cond_false]
          | negSucc n => rfl
        rw [hT]
        intro ρ w hw hg rargs ha c cs
        obtain ⟨ρ',w',u,k1,k2,k3,k4⟩ := hrun _ _ _ _ (far x h hv c2 c3 c1 c4) ρ w hw hg rargs ha c cs (.inl rfl)
        exact ⟨ρ',w',u,k1,k2,k3,k4⟩
      · obtain ⟨n,rfl⟩ : ∃ n : Nat,x = .ofNat n := ⟨x.toNat,by show x = (x.toNat : Int); omega⟩
        have hn : n < 60 := by
          rcases Nat.lt_or_ge n 60 with h | h
          · exact h
          · exact absurd (.inr (show (60 : Int) ≤ (n : Int) by omega)) hv
        have hT : nameT (Int.ofNat n) = nameC n := by rw [nameC_eq hn]; simp only [nameT,blt_of hn,cond_true]
        have hN : nameN (Int.ofNat n) = 0 := by simp only [nameN,blt_of (show n < 100 by omega),cond_true]
        rw [hT,hN]
        have hp := natsB_at name_tab n hn
        have := orc_to (O' := O) (pure_ok (E := Eo O1) (kok O1 ok1 10) hp)
        exact this #[.int .i64 (.ofNat n)] h _ _ (by simp [pureO,alEq,vEq,valEq])
  · simp at hok
end Go.Proofs.YtaclddcneogolaaGreatDoor

set_option linter.unusedSimpArgs false
set_option linter.unusedVariables false
namespace Go.Proofs.YtaclddcneogolaaGreatDoor
open Go Go.Sim
set_option maxRecDepth 100000
variable {O : Nat → Option (List Value → SHeap → Except String (Value × SHeap))} {ih : K}

theorem toL_ofL {l : List Value} (h : l.length ≤ 1000) : (Tr.ofL 33 l).toListFrom 0 l.length = some l :=
  toListFrom_of fun k hk => by rw [Nat.zero_add]; exact ofL_get_eq (by unfold lim; omega)
theorem partOf_of {p : Part} (h : p.fits) : partOf p.val = some p := by
  cases p with
  | num n => simp only [Part.val,partOf,show Nat.beq 3 3 = true from rfl,decide_eq_true h.1,decide_eq_true h.2,Bool.and_self,cond_true]
  | str s => simp only [Part.val,partOf,show Nat.beq 9 9 = true from rfl,cond_true]
theorem partsOf_of : ∀ {ps : List Part},(∀ p ∈ ps,p.fits) → partsOf (ps.map Part.val) = some ps
  | [],_ => rfl
  | p :: r,h => by
    have hr := partsOf_of (ps := r) (fun q hq => h q (List.mem_cons_of_mem _ hq))
    simp only [List.map_cons,partsOf,partOf_of (h p (List.mem_cons_self ..)),hr]

/-- what words' oracle gives -/
def WordsIH (ih : K) : Prop := ∀ (b n : Nat) (g : SHeap) (ps : List Part),g.t.get b = some (.cells (Tr.ofL 33 (ps.map Part.val)) n 20 false false) → ps.length = n → (∀ p ∈ ps,p.fits) → 1 ≤ n → n ≤ 10 → tabOK (g.t.get 0) = true → g.next + 4000 ≤ lim → (wordsT ps).length ≤ 140737488355328 →
  ih (.call 32 #[.slice (some ⟨b,0,none⟩) n n] .normal) g = .ok (.string ⟨(wordsT ps).toArray⟩,⟨g.t,g.next + nms ps⟩)
theorem words_at {k : Nat} (o32 : O 32 = some wordsQ) : WordsIH (run (Eo O) (k + 1)) := by
  intro b n g ps hb hn hf h1 h2 ht hl hlen
  rw [run_orc (E := Eo O) (show (Eo O).O 32 = some wordsQ from o32)]
  have a1 : Nat.beq n n = true := Nat.beq_refl _
  have a2 : Nat.ble 1 n = true := by rw [Nat.ble_eq]; exact h1
  have a3 : Nat.ble n 1000 = true := by rw [Nat.ble_eq]; omega
  have a4 : Nat.ble (g.next + 4000) lim = true := by rw [Nat.ble_eq]; exact hl
  have a5 : Nat.ble (wordsT ps).length 140737488355328 = true := by rw [Nat.ble_eq]; exact hlen
  have a6 : (Tr.ofL 33 (ps.map Part.val)).toListFrom 0 n = some (ps.map Part.val) := by
    have := toL_ofL (l := ps.map Part.val) (by rw [List.length_map]; omega)
    rw [List.length_map,hn] at this
    exact this
  have a7 : (some (ps.map Part.val)).bind partsOf = some ps := partsOf_of hf
  simp only [wordsQ,a1,cond_true,wordsB,hb,a6,a7,wordsC,ht,a2,a3,a4,a5,Bool.and_self]

theorem join_len2 {x y : List UInt8} {n m : Nat} (hx : x.length ≤ n) (hy : y.length ≤ m) : (Lib.join [x,y] [32]).length ≤ n + m + 1 := by
  simp [Lib.join,List.intercalate,List.intersperse]; omega
theorem join_len3 {x y z : List UInt8} {n m k : Nat} (hx : x.length ≤ n) (hy : y.length ≤ m) (hz : z.length ≤ k) : (Lib.join [x,y,z] [32]).length ≤ n + m + k + 2 := by
  simp [Lib.join,List.intercalate,List.intersperse]; omega
theorem join_len5 {x y z u v : List UInt8} {n m k a b : Nat} (hx : x.length ≤ n) (hy : y.length ≤ m) (hz : z.length ≤ k) (hu : u.length ≤ a) (hv : v.length ≤ b) : (Lib.join [x,y,z,u,v] [32]).length ≤ n + m + k + a + b + 4 := by
  simp [Lib.join,List.intercalate,List.intersperse]; omega

theorem fa24 {a : Addr} {h : SHeap} : opFieldAddr (Eo O) ((Eo O).T 24) (some (.pointer (some a))) 0 h = .ok (.value (.pointer (some (addrAdd a 0))),h) := by kernel_rfl
theorem fa24x {a : Addr} {h : SHeap} : opFieldAddr (Eo O) ((Eo O).T 24) (some (.pointer (some a))) 1 h = .ok (.value (.pointer (some (addrAdd a 1))),h) := by kernel_rfl
theorem fa24y {a : Addr} {h : SHeap} : opFieldAddr (Eo O) ((Eo O).T 24) (some (.pointer (some a))) 2 h = .ok (.value (.pointer (some (addrAdd a 2))),h) := by kernel_rfl
theorem mi9 {v : Value} {h : SHeap} : opMakeIface ((Eo O).T 9) 9 (some v) h = .ok (.value (.iface 9 v),h) := by kernel_rfl
theorem mi3 {v : Value} {h : SHeap} : opMakeIface ((Eo O).T 3) 3 (some v) h = .ok (.value (.iface 3 v),h) := by kernel_rfl
theorem bs2 {s : ByteArray} {n : Int} {h : SHeap} : opBuildSlice (Eo O) ((Eo O).T 147) 2 (some [(0,.iface 9 (.string s)),(1,.iface 3 (.int .i64 n))]) h = .ok (.value (.slice (some ⟨h.next,0,none⟩) 2 2),newCells h 20 ([Part.str s,Part.num n].map Part.val) false) := by kernel_rfl
theorem bs2s {s t : ByteArray} {h : SHeap} : opBuildSlice (Eo O) ((Eo O).T 147) 2 (some [(0,.iface 9 (.string s)),(1,.iface 9 (.string t))]) h = .ok (.value (.slice (some ⟨h.next,0,none⟩) 2 2),newCells h 20 ([Part.str s,Part.str t].map Part.val) false) := by kernel_rfl
theorem bs3 {s t : ByteArray} {n : Int} {h : SHeap} : opBuildSlice (Eo O) ((Eo O).T 147) 3 (some [(0,.iface 9 (.string s)),(1,.iface 3 (.int .i64 n)),(2,.iface 9 (.string t))]) h = .ok (.value (.slice (some ⟨h.next,0,none⟩) 3 3),newCells h 20 ([Part.str s,Part.num n,Part.str t].map Part.val) false) := by kernel_rfl
theorem bs3n {s t : ByteArray} {n : Int} {h : SHeap} : opBuildSlice (Eo O) ((Eo O).T 147) 3 (some [(0,.iface 9 (.string s)),(1,.iface 9 (.string t)),(2,.iface 3 (.int .i64 n))]) h = .ok (.value (.slice (some ⟨h.next,0,none⟩) 3 3),newCells h 20 ([Part.str s,Part.str t,Part.num n].map Part.val) false) := by kernel_rfl
theorem box_run {t : TypeId} {cs : Array Value} {h : SHeap} : opBox t (some (.agg cs)) h = .ok (.value (.pointer (some ⟨h.next,0,none⟩)),newCells h t cs.toList false) := (id rfl)

def kindP (k t m : Int) : List Part := match k with
  | 0 => [.str ⟨#[98,121,116,101,115]⟩,.num m]
  | 5 => [.str ⟨#[114,111,119,32,111,102,32,116,97,98,108,101]⟩,.num t]
  | 6 => [.str ⟨#[114,111,119,32,111,102,32,116,97,98,108,101]⟩,.num t,.str ⟨#[111,114,32,48]⟩]
  | _ => [.str ⟨#[107,105,110,100]⟩,.num k]
def kindT (k t m : Int) : List UInt8 := match k with
  | 1 => [110,117,109,98,101,114]
  | 2 => [115,116,97,99,107]
  | 3 => [99,111,110,116,101,120,116]
  | 4 => [100,97,116,97]
  | _ => wordsT (kindP k t m)
def kindN (k t m : Int) : Nat := match k with
  | 1 => 1
  | 2 => 1
  | 3 => 1
  | 4 => 1
  | _ => 2 + nms (kindP k t m)

theorem box_get {t : TypeId} {l : List Value} {h : SHeap} {o : Bool} (hl : h.next < lim) : (newCells h t l o).t.get h.next = some (.cells (Tr.ofL 33 l) l.length t o false) := by
  simp only [newCells,SHeap.new,get_put]
  rw [if_pos ⟨trivial,hl⟩]
theorem new_low {t : TypeId} {l : List Value} {h : SHeap} {o : Bool} {b : Nat} (hb : b ≠ h.next) : (newCells h t l o).t.get b = h.t.get b := by
  simp only [newCells,SHeap.new,get_put]
  rw [if_neg (fun e => hb e.1)]

theorem kd_code (hW : WordsIH ih) {k t m : Int} (hk : -9223372036854775808 ≤ k ∧ k ≤ 9223372036854775807) (ht : -9223372036854775808 ≤ t ∧ t ≤ 9223372036854775807) (hm : -9223372036854775808 ≤ m ∧ m ≤ 9223372036854775807) {h : SHeap} (htab : tabOK (h.t.get 0) = true) (h0 : 0 < h.next) (hl : h.next + 5000 ≤ lim)
    {tm : Tr Value} (t0 : tm.get 0 = some (.agg #[.int .i64 k,.int .i64 t,.int .i64 m])) :
    ∃ tm' h',codeS (cF Tryz.f34) (Eo O) ih ⟨34,44,.normal,none⟩ ⟨tm,h,[]⟩ = .ok (.ret,⟨tm',h',[]⟩) ∧ tm'.get 2 = some (.string ⟨(kindT k t m).toArray⟩) ∧ h'.next = h.next + kindN k t m ∧ ∀ x,x < h.next → h'.t.get x = h.t.get x := by
  have hg := box_get (t := 24) (l := [.int .i64 k,.int .i64 t,.int .i64 m]) (o := false) (h := h) (by omega)
  have hn1 : (newCells h 24 [.int .i64 k,.int .i64 t,.int .i64 m] false).next = h.next + 1 := rfl
  have hn2 : ∀ l,(newCells (newCells h 24 [.int .i64 k,.int .i64 t,.int .i64 m] false) 20 l false).next = h.next + 2 := fun _ => rfl
  have l0 := load_one (E := Eo O) E3 rfl hg (show (Tr.ofL 33 [Value.int .i64 k,.int .i64 t,.int .i64 m]).get (0 + 0) = some (.int .i64 k) from rfl)
  have l1 := load_one (E := Eo O) E3 rfl hg (show (Tr.ofL 33 [Value.int .i64 k,.int .i64 t,.int .i64 m]).get (0 + 1) = some (.int .i64 t) from rfl)
  have l2 := load_one (E := Eo O) E3 rfl hg (show (Tr.ofL 33 [Value.int .i64 k,.int .i64 t,.int .i64 m]).get (0 + 2) = some (.int .i64 m) from rfl)
  have tab2 : ∀ l,tabOK ((newCells (newCells h 24 [.int .i64 k,.int .i64 t,.int .i64 m] false) 20 l false).t.get 0) = true := fun l => by
    rw [new_low (by rw [hn1]; omega),new_low (by omega)]; exact htab
  have low2 : ∀ l x,x < h.next → (newCells (newCells h 24 [.int .i64 k,.int .i64 t,.int .i64 m] false) 20 l false).t.get x = h.t.get x := fun l x hx => by
    rw [new_low (by rw [hn1]; omega),new_low (by omega)]
  have low1 : ∀ x,x < h.next → (newCells h 24 [.int .i64 k,.int .i64 t,.int .i64 m] false).t.get x = h.t.get x := fun x hx => new_low (by omega)
  have W := fun (n : Nat) (ps : List Part) (hn : ps.length = n) (hf : ∀ p ∈ ps,p.fits) (h1 : 1 ≤ n) (h2 : n ≤ 10) (hlen : (wordsT ps).length ≤ 140737488355328) =>
    hW (h.next + 1) n (newCells (newCells h 24 [.int .i64 k,.int .i64 t,.int .i64 m] false) 20 (ps.map Part.val) false) ps (by
      have := box_get (t := 20) (l := ps.map Part.val) (o := false) (h := newCells h 24 [.int .i64 k,.int .i64 t,.int .i64 m] false) (by rw [hn1]; omega)
      rw [hn1,List.length_map,hn] at this
      exact this) hn hf h1 h2 (tab2 _) (by rw [hn2]; omega) hlen
  have lk := itoa_len hk.1 hk.2
  have lt := itoa_len ht.1 ht.2
  have lm := itoa_len hm.1 hm.2
  generalize hr : codeS (cF Tryz.f34) (Eo O) ih ⟨34,44,.normal,none⟩ ⟨tm,h,[]⟩ = r
  by_cases k0 : k = 0
  · subst k0
    have e0 : (((0 : Int)) == 0) = true := by decide
    have w := W 2 [.str ⟨#[98,121,116,101,115]⟩,.num m] rfl (by intro p hp; simp only [List.mem_cons,List.not_mem_nil,or_false] at hp; rcases hp with rfl | rfl <;> first | trivial | assumption) (by omega) (by omega) (by
      have := join_len2 (x := [98,121,116,101,115]) (y := Lib.itoa m) (n := 30) (m := 30) (by decide) (by show (Lib.itoa m).length ≤ 30; omega)
      exact Nat.le_trans this (by decide))
    simp only [Tryz.f34,cF,Option.getD,cA,cB,cI,codeS,cSeq_run,cCond_run,cRegion_run,cRegion_draw,cBlock_run,cSkip_run,cRet_run,cExit_run,opsS_nil,opsS_run,opS_free,thenS_normal,thenS_ret,thenS_exit,exitBlock_normal,exitBlock_ret,exitBlock_exit,normalS_ok,dispatch,dMove,opMove,evT_tmp,evT_int,evT_bool,dBin,lss_i64,gtr_i64,add_i64,valR,afterS_value,putT_some,putT_none,get_put,lim,Nat.reduceLT,Nat.reduceEqDiff,and_true,if_true,if_false,reduceIte,false_and,true_and,cLoop_run,Nat.beq,cond_true,
      dIndexAddr,dFieldAddr,dNilCheck,dLoad,nilCheck_ptr,Option.bind_some,natOf_int,addrAdd_free,drawS_nil',drawS_cons',dstep_pure',dstep_read',simOp_run,outVal_val,List.getElem?_toArray,List.getElem?_cons_succ,List.getElem?_cons_zero,List.drop_succ_cons,List.drop_zero,dPick,pick_true,pick_false,opS_guard,wantedS,Option.bind_some,dIndex,dBuild,dBuildSlice,dCall,evParts,evList,dSlice,bqa,bqb,bqc,bqd,eql_i64,evT_str,afterS_enter,call_fn en32,dBox,dMakeIface,mi9,mi3,box_run,fa24,fa24x,fa24y,bs2,bs3,t0,l0,l1,l2,hn1,e0,w] at hr
    subst hr
    refine ⟨_,_,rfl,?_,?_,fun x hx => ?_⟩
    · simp [get_put,lim,kindT,kindP]
    · simp only [hn2,kindN,kindP]; omega
    · exact low2 _ x hx
  by_cases k1 : k = 1
  · subst k1
    have e0 : (((1 : Int)) == 0) = false := by decide
    have e1 : (((1 : Int)) == 1) = true := by decide
    simp only [Tryz.f34,cF,Option.getD,cA,cB,cI,codeS,cSeq_run,cCond_run,cRegion_run,cRegion_draw,cBlock_run,cSkip_run,cRet_run,cExit_run,opsS_nil,opsS_run,opS_free,thenS_normal,thenS_ret,thenS_exit,exitBlock_normal,exitBlock_ret,exitBlock_exit,normalS_ok,dispatch,dMove,opMove,evT_tmp,evT_int,evT_bool,dBin,lss_i64,gtr_i64,add_i64,valR,afterS_value,putT_some,putT_none,get_put,lim,Nat.reduceLT,Nat.reduceEqDiff,and_true,if_true,if_false,reduceIte,false_and,true_and,cLoop_run,Nat.beq,cond_true,
      dIndexAddr,dFieldAddr,dNilCheck,dLoad,nilCheck_ptr,Option.bind_some,natOf_int,addrAdd_free,drawS_nil',drawS_cons',dstep_pure',dstep_read',simOp_run,outVal_val,List.getElem?_toArray,List.getElem?_cons_succ,List.getElem?_cons_zero,List.drop_succ_cons,List.drop_zero,dPick,pick_true,pick_false,opS_guard,wantedS,Option.bind_some,dIndex,dBuild,dBuildSlice,dCall,evParts,evList,dSlice,bqa,bqb,bqc,bqd,eql_i64,evT_str,afterS_enter,call_fn en32,dBox,dMakeIface,mi9,mi3,box_run,fa24,fa24x,fa24y,bs2,bs3,t0,l0,l1,l2,hn1,e0,e1] at hr
    subst hr
    refine ⟨_,_,rfl,?_,?_,fun x hx => ?_⟩
    · simp [get_put,lim,kindT]
    · simp only [hn1,kindN]
    · exact low1 x hx
  by_cases k2 : k = 2
  · subst k2
    have e0 : (((2 : Int)) == 0) = false := by decide
    have e1 : (((2 : Int)) == 1) = false := by decide
    have e2 : (((2 : Int)) == 2) = true := by decide
    simp only [Tryz.f34,cF,Option.getD,cA,cB,cI,codeS,cSeq_run,cCond_run,cRegion_run,cRegion_draw,cBlock_run,cSkip_run,cRet_run,cExit_run,opsS_nil,opsS_run,opS_free,thenS_normal,thenS_ret,thenS_exit,exitBlock_normal,exitBlock_ret,exitBlock_exit,normalS_ok,dispatch,dMove,opMove,evT_tmp,evT_int,evT_bool,dBin,lss_i64,gtr_i64,add_i64,valR,afterS_value,putT_some,putT_none,get_put,lim,Nat.reduceLT,Nat.reduceEqDiff,and_true,if_true,if_false,reduceIte,false_and,true_and,cLoop_run,Nat.beq,cond_true,
      dIndexAddr,dFieldAddr,dNilCheck,dLoad,nilCheck_ptr,Option.bind_some,natOf_int,addrAdd_free,drawS_nil',drawS_cons',dstep_pure',dstep_read',simOp_run,outVal_val,List.getElem?_toArray,List.getElem?_cons_succ,List.getElem?_cons_zero,List.drop_succ_cons,List.drop_zero,dPick,pick_true,pick_false,opS_guard,wantedS,Option.bind_some,dIndex,dBuild,dBuildSlice,dCall,evParts,evList,dSlice,bqa,bqb,bqc,bqd,eql_i64,evT_str,afterS_enter,call_fn en32,dBox,dMakeIface,mi9,mi3,box_run,fa24,fa24x,fa24y,bs2,bs3,t0,l0,l1,l2,hn1,e0,e1,e2] at hr
    subst hr
    refine ⟨_,_,rfl,?_,?_,fun x hx => ?_⟩
    · simp [get_put,lim,kindT]
    · simp only [hn1,kindN]
    · exact low1 x hx
  by_cases k3 : k = 3
  · subst k3
    have e0 : (((3 : Int)) == 0) = false := by decide
    have e1 : (((3 : Int)) == 1) = false := by decide
    have e2 : (((3 : Int)) == 2) = false := by decide
    have e3 : (((3 : Int)) == 3) = true := by decide
    simp only [Tryz.f34,cF,Option.getD,cA,cB,cI,codeS,cSeq_run,cCond_run,cRegion_run,cRegion_draw,cBlock_run,cSkip_run,cRet_run,cExit_run,opsS_nil,opsS_run,opS_free,thenS_normal,thenS_ret,thenS_exit,exitBlock_normal,exitBlock_ret,exitBlock_exit,normalS_ok,dispatch,dMove,opMove,evT_tmp,evT_int,evT_bool,dBin,lss_i64,gtr_i64,add_i64,valR,afterS_value,putT_some,putT_none,get_put,lim,Nat.reduceLT,Nat.reduceEqDiff,and_true,if_true,if_false,reduceIte,false_and,true_and,cLoop_run,Nat.beq,cond_true,
      dIndexAddr,dFieldAddr,dNilCheck,dLoad,nilCheck_ptr,Option.bind_some,natOf_int,addrAdd_free,drawS_nil',drawS_cons',dstep_pure',dstep_read',simOp_run,outVal_val,List.getElem?_toArray,List.getElem?_cons_succ,List.getElem?_cons_zero,List.drop_succ_cons,List.drop_zero,dPick,pick_true,pick_false,opS_guard,wantedS,Option.bind_some,dIndex,dBuild,dBuildSlice,dCall,evParts,evList,dSlice,bqa,bqb,bqc,bqd,eql_i64,evT_str,afterS_enter,call_fn en32,dBox,dMakeIface,mi9,mi3,box_run,fa24,fa24x,fa24y,bs2,bs3,t0,l0,l1,l2,hn1,e0,e1,e2,e3] at hr
    subst hr
    refine ⟨_,_,rfl,?_,?_,fun x hx => ?_⟩
    · simp [get_put,lim,kindT]
    · simp only [hn1,kindN]
    · exact low1 x hx
  by_cases k4 : k = 4
  · subst k4
    have e0 : (((4 : Int)) == 0) = false := by decide
    have e1 : (((4 : Int)) == 1) = false := by decide
    have e2 : (((4 : Int)) == 2) = false := by decide
    have e3 : (((4 : Int)) == 3) = false := by decide
    have e4 : (((4 : Int)) == 4) = true := by decide
    simp only [Tryz.f34,cF,Option.getD,cA,cB,cI,codeS,cSeq_run,cCond_run,cRegion_run,cRegion_draw,cBlock_run,cSkip_run,cRet_run,cExit_run,opsS_nil,opsS_run,opS_free,thenS_normal,thenS_ret,thenS_exit,exitBlock_normal,exitBlock_ret,exitBlock_exit,normalS_ok,dispatch,dMove,opMove,evT_tmp,evT_int,evT_bool,dBin,lss_i64,gtr_i64,add_i64,valR,afterS_value,putT_some,putT_none,get_put,lim,Nat.reduceLT,Nat.reduceEqDiff,and_true,if_true,if_false,reduceIte,false_and,true_and,cLoop_run,Nat.beq,cond_true,
      dIndexAddr,dFieldAddr,dNilCheck,dLoad,nilCheck_ptr,Option.bind_some,natOf_int,addrAdd_free,drawS_nil',drawS_cons',dstep_pure',dstep_read',simOp_run,outVal_val,List.getElem?_toArray,List.getElem?_cons_succ,List.getElem?_cons_zero,List.drop_succ_cons,List.drop_zero,dPick,pick_true,pick_false,opS_guard,wantedS,Option.bind_some,dIndex,dBuild,dBuildSlice,dCall,evParts,evList,dSlice,bqa,bqb,bqc,bqd,eql_i64,evT_str,afterS_enter,call_fn en32,dBox,dMakeIface,mi9,mi3,box_run,fa24,fa24x,fa24y,bs2,bs3,t0,l0,l1,l2,hn1,e0,e1,e2,e3,e4] at hr
    subst hr
    refine ⟨_,_,rfl,?_,?_,fun x hx => ?_⟩
    · simp [get_put,lim,kindT]
    · simp only [hn1,kindN]
    · exact low1 x hx
  by_cases k5 : k = 5
  · subst k5
    have e0 : (((5 : Int)) == 0) = false := by decide
    have e1 : (((5 : Int)) == 1) = false := by decide
    have e2 : (((5 : Int)) == 2) = false := by decide
    have e3 : (((5 : Int)) == 3) = false := by decide
    have e4 : (((5 : Int)) == 4) = false := by decide
    have e5 : (((5 : Int)) == 5) = true := by decide
    have w := W 2 [.str ⟨#[114,111,119,32,111,102,32,116,97,98,108,101]⟩,.num t] rfl (by intro p hp; simp only [List.mem_cons,List.not_mem_nil,or_false] at hp; rcases hp with rfl | rfl <;> first | trivial | assumption) (by omega) (by omega) (by
      have := join_len2 (x := [114,111,119,32,111,102,32,116,97,98,108,101]) (y := Lib.itoa t) (n := 30) (m := 30) (by decide) (by show (Lib.itoa t).length ≤ 30; omega)
      exact Nat.le_trans this (by decide))
    simp only [Tryz.f34,cF,Option.getD,cA,cB,cI,codeS,cSeq_run,cCond_run,cRegion_run,cRegion_draw,cBlock_run,cSkip_run,cRet_run,cExit_run,opsS_nil,opsS_run,opS_free,thenS_normal,thenS_ret,thenS_exit,exitBlock_normal,exitBlock_ret,exitBlock_exit,normalS_ok,dispatch,dMove,opMove,evT_tmp,evT_int,evT_bool,dBin,lss_i64,gtr_i64,add_i64,valR,afterS_value,putT_some,putT_none,get_put,lim,Nat.reduceLT,Nat.reduceEqDiff,and_true,if_true,if_false,reduceIte,false_and,true_and,cLoop_run,Nat.beq,cond_true,
      dIndexAddr,dFieldAddr,dNilCheck,dLoad,nilCheck_ptr,Option.bind_some,natOf_int,addrAdd_free,drawS_nil',drawS_cons',dstep_pure',dstep_read',simOp_run,outVal_val,List.getElem?_toArray,List.getElem?_cons_succ,List.getElem?_cons_zero,List.drop_succ_cons,List.drop_zero,dPick,pick_true,pick_false,opS_guard,wantedS,Option.bind_some,dIndex,dBuild,dBuildSlice,dCall,evParts,evList,dSlice,bqa,bqb,bqc,bqd,eql_i64,evT_str,afterS_enter,call_fn en32,dBox,dMakeIface,mi9,mi3,box_run,fa24,fa24x,fa24y,bs2,bs3,t0,l0,l1,l2,hn1,e0,e1,e2,e3,e4,e5,w] at hr
    subst hr
    refine ⟨_,_,rfl,?_,?_,fun x hx => ?_⟩
    · simp [get_put,lim,kindT,kindP]
    · simp only [hn2,kindN,kindP]; omega
    · exact low2 _ x hx
  by_cases k6 : k = 6
  · subst k6
    have e0 : (((6 : Int)) == 0) = false := by decide
    have e1 : (((6 : Int)) == 1) = false := by decide
    have e2 : (((6 : Int)) == 2) = false := by decide
    have e3 : (((6 : Int)) == 3) = false := by decide
    have e4 : (((6 : Int)) == 4) = false := by decide
    have e5 : (((6 : Int)) == 5) = false := by decide
    have e6 : (((6 : Int)) == 6) = true := by decide
    have w := W 3 [.str ⟨#[114,111,119,32,111,102,32,116,97,98,108,101]⟩,.num t,.str ⟨#[111,114,32,48]⟩] rfl (by intro p hp; simp only [List.mem_cons,List.not_mem_nil,or_false] at hp; rcases hp with rfl | rfl | rfl <;> first | trivial | assumption) (by omega) (by omega) (by
      have := join_len3 (x := [114,111,119,32,111,102,32,116,97,98,108,101]) (y := Lib.itoa t) (z := [111,114,32,48]) (n := 30) (m := 30) (k := 30) (by decide) (by show (Lib.itoa t).length ≤ 30; omega) (by decide)
      exact Nat.le_trans this (by decide))
    simp only [Tryz.f34,cF,Option.getD,cA,cB,cI,codeS,cSeq_run,cCond_run,cRegion_run,cRegion_draw,cBlock_run,cSkip_run,cRet_run,cExit_run,opsS_nil,opsS_run,opS_free,thenS_normal,thenS_ret,thenS_exit,exitBlock_normal,exitBlock_ret,exitBlock_exit,normalS_ok,dispatch,dMove,opMove,evT_tmp,evT_int,evT_bool,dBin,lss_i64,gtr_i64,add_i64,valR,afterS_value,putT_some,putT_none,get_put,lim,Nat.reduceLT,Nat.reduceEqDiff,and_true,if_true,if_false,reduceIte,false_and,true_and,cLoop_run,Nat.beq,cond_true,
      dIndexAddr,dFieldAddr,dNilCheck,dLoad,nilCheck_ptr,Option.bind_some,natOf_int,addrAdd_free,drawS_nil',drawS_cons',dstep_pure',dstep_read',simOp_run,outVal_val,List.getElem?_toArray,List.getElem?_cons_succ,List.getElem?_cons_zero,List.drop_succ_cons,List.drop_zero,dPick,pick_true,pick_false,opS_guard,wantedS,Option.bind_some,dIndex,dBuild,dBuildSlice,dCall,evParts,evList,dSlice,bqa,bqb,bqc,bqd,eql_i64,evT_str,afterS_enter,call_fn en32,dBox,dMakeIface,mi9,mi3,box_run,fa24,fa24x,fa24y,bs2,bs3,t0,l0,l1,l2,hn1,e0,e1,e2,e3,e4,e5,e6,w] at hr
    subst hr
    refine ⟨_,_,rfl,?_,?_,fun x hx => ?_⟩
    · simp [get_put,lim,kindT,kindP]
    · simp only [hn2,kindN,kindP]; omega
    · exact low2 _ x hx
  have e0 : (k == 0) = false := by simp [k0]
  have e1 : (k == 1) = false := by simp [k1]
  have e2 : (k == 2) = false := by simp [k2]
  have e3 : (k == 3) = false := by simp [k3]
  have e4 : (k == 4) = false := by simp [k4]
  have e5 : (k == 5) = false := by simp [k5]
  have e6 : (k == 6) = false := by simp [k6]
  have w := W 2 [.str ⟨#[107,105,110,100]⟩,.num k] rfl (by intro p hp; simp only [List.mem_cons,List.not_mem_nil,or_false] at hp; rcases hp with rfl | rfl <;> first | trivial | assumption) (by omega) (by omega) (by
    have := join_len2 (x := [107,105,110,100]) (y := Lib.itoa k) (n := 30) (m := 30) (by decide) (by show (Lib.itoa k).length ≤ 30; omega)
    exact Nat.le_trans this (by decide))
  have hP : kindP k t m = [.str ⟨#[107,105,110,100]⟩,.num k] := by
    unfold kindP; split <;> simp_all
  have hT : kindT k t m = wordsT [.str ⟨#[107,105,110,100]⟩,.num k] := by
    unfold kindT; split <;> simp_all
  have hN : kindN k t m = 2 + nms [.str ⟨#[107,105,110,100]⟩,.num k] := by
    unfold kindN; split <;> simp_all
  simp only [Tryz.f34,cF,Option.getD,cA,cB,cI,codeS,cSeq_run,cCond_run,cRegion_run,cRegion_draw,cBlock_run,cSkip_run,cRet_run,cExit_run,opsS_nil,opsS_run,opS_free,thenS_normal,thenS_ret,thenS_exit,exitBlock_normal,exitBlock_ret,exitBlock_exit,normalS_ok,dispatch,dMove,opMove,evT_tmp,evT_int,evT_bool,dBin,lss_i64,gtr_i64,add_i64,valR,afterS_value,putT_some,putT_none,get_put,lim,Nat.reduceLT,Nat.reduceEqDiff,and_true,if_true,if_false,reduceIte,false_and,true_and,cLoop_run,Nat.beq,cond_true,
      dIndexAddr,dFieldAddr,dNilCheck,dLoad,nilCheck_ptr,Option.bind_some,natOf_int,addrAdd_free,drawS_nil',drawS_cons',dstep_pure',dstep_read',simOp_run,outVal_val,List.getElem?_toArray,List.getElem?_cons_succ,List.getElem?_cons_zero,List.drop_succ_cons,List.drop_zero,dPick,pick_true,pick_false,opS_guard,wantedS,Option.bind_some,dIndex,dBuild,dBuildSlice,dCall,evParts,evList,dSlice,bqa,bqb,bqc,bqd,eql_i64,evT_str,afterS_enter,call_fn en32,dBox,dMakeIface,mi9,mi3,box_run,fa24,fa24x,fa24y,bs2,bs3,t0,l0,l1,l2,hn1,e0,e1,e2,e3,e4,e5,e6,w] at hr
  subst hr
  refine ⟨_,_,rfl,?_,?_,fun x hx => ?_⟩
  · simp [get_put,lim,hT]
  · simp only [hn2,hN]; omega
  · exact low2 _ x hx


theorem body34 : Tryz.f34.body = some (cF Tryz.f34) := rfl
theorem fn34 : (Eo O).F 34 = some Tryz.f34 := by show Tab.funcs.get 34 = _; kernel_rfl
theorem nt34 {a : Value} : max Tryz.f34.ntmps (#[a] : Array Value).size = 44 := rfl
theorem res34 : Tryz.f34.results.toList = [.tmp 2] := rfl

def in64 (n : Int) : Bool := decide (-9223372036854775808 ≤ n) && decide (n ≤ 9223372036854775807)
theorem in64xiff {n : Int} (h : in64 n = true) : -9223372036854775808 ≤ n ∧ n ≤ 9223372036854775807 := by
  simpa [in64] using h
def kindA (h : SHeap) (l : List Value) : Ex (Value × SHeap) := match l with
  | [.int .i64 k,.int .i64 t,.int .i64 m] => bif tabOK (h.t.get 0) && in64 k && in64 t && in64 m && Nat.ble (h.next + 5000) lim then .ok (.string ⟨(kindT k t m).toArray⟩,⟨h.t,h.next + kindN k t m⟩) else .error "kind"
  | _ => .error "kind"
def kindQ (args : List Value) (h : SHeap) : Ex (Value × SHeap) := match args with
  | [.agg cs] => kindA h cs.toList
  | _ => .error "kind"

theorem next_pos {h : SHeap} (ht : tabOK (h.t.get 0) = true) (hlow : ∀ b o,h.t.get b = some o → b < h.next) : 0 < h.next := by
  cases hx : h.t.get 0 with
  | none => rw [hx] at ht; simp [tabOK] at ht
  | some o => have := hlow 0 o hx; omega

theorem kind_ok (hOK : ∀ f g,(Eo O).O f = some g → OrcOK (Eo O) f g) (o32 : O 32 = some wordsQ) (o34 : O 34 = none) : OrcOK (Eo O) 34 kindQ := by
  refine orc_of_run (run_ok (envOK O) (bDraw_ok (envOK O) (show Tryz.prog.follows .mixedOrders = true from mixed)) hOK 2) fun args h v h' hlow hok => ?_
  unfold kindQ at hok
  split at hok
  · rename_i cs hargs
    unfold kindA at hok
    split at hok
    · rename_i k t m hcs
      cases hc : (tabOK (h.t.get 0) && in64 k && in64 t && in64 m && Nat.ble (h.next + 5000) lim) with
      | false => rw [hc] at hok; simp at hok
      | true =>
        rw [hc,cond_true] at hok
        simp only [Except.ok.injEq,Prod.mk.injEq] at hok
        obtain ⟨rfl,rfl⟩ := hok
        simp only [Bool.and_eq_true] at hc
        obtain ⟨⟨⟨⟨c1,c2⟩,c3⟩,c4⟩,c5⟩ := hc
        have harr : args = #[.agg cs] := Array.toList_inj.1 hargs
        have hcs' : cs = #[.int .i64 k,.int .i64 t,.int .i64 m] := Array.toList_inj.1 hcs
        subst harr hcs'
        obtain ⟨tm',h'',k1,k2,k3,k4⟩ := kd_code (O := O) (ih := run (Eo O) 1) (words_at (k := 0) o32) (in64xiff c2) (in64xiff c3) (in64xiff c4) c1 (next_pos c1 hlow) (Nat.le_of_ble_eq_true c5) (tm := Tr.ofL 33 [.agg #[.int .i64 k,.int .i64 t,.int .i64 m]]) rfl
        refine ⟨h'',(run_call (show (Eo O).O 34 = none from o34)).trans (enterS_ret (vs := [_]) fn34 body34 nt34 rfl res34 k1 (by simp only [resultsS,k2,need])),k3,fun x o hx => ⟨o,by rw [k4 x (hlow x o hx)]; exact hx,ObjLe.refl o⟩⟩
    · simp at hok
  · simp at hok
end Go.Proofs.YtaclddcneogolaaGreatDoor

set_option linter.unusedSimpArgs false
set_option linter.unusedVariables false
namespace Go.Sim
open Go
def drawsOf : Code → List (Array Oper)
  | .seq a b => drawsOf a ++ drawsOf b
  | .cond _ a b => drawsOf a ++ drawsOf b
  | .block _ b => drawsOf b
  | .loop b => drawsOf b
  | .scope b => drawsOf b
  | .region _ ops d => match d with
    | true => [ops]
    | false => []
  | _ => []
def nthD : List (Array Oper) → Nat → Array Oper
  | [],_ => #[]
  | x :: _,0 => x
  | _ :: r,n + 1 => nthD r n

theorem callOut_enter {ih : K} {g : FuncId} {args : Array Value} {h : SHeap} : callOut ih (.enter g args,h) = ih (.call g args .normal) h := (id rfl)
theorem dstep_eff' {E : Env} {ih : K} {l : List Oper} {nt base i lo : Nat} {heaps : List SHeap} {tm : Tr Value} {h : SHeap} {cur : List Nat} :
    dstepS E ih l.toArray nt base ⟨i,.eff,lo⟩ ⟨heaps,tm,h,cur⟩ = (match l[i]? with
      | none => .error "draw  no operation"
      | some ⟨dst,op,ty,pos,after,g⟩ => match g with
        | none => (match dispatch op E (evT E.G tm) ⟨dst,op,ty,pos,after,none⟩ h with
          | .error e => .error e
          | .ok out => match callOut ih out with
            | .error e => .error e
            | .ok (v,h) => bif Nat.ble h.next lim then .ok ⟨h :: heaps,putT tm nt dst v,h,[]⟩ else .error "draw  too many names")
        | some _ => dstepS E ih l.toArray nt base ⟨i,.eff,lo⟩ ⟨heaps,tm,h,cur⟩) := by
  rcases ho : l[i]? with _ | ⟨dst,op,ty,pos,after,g⟩
  · simp only [dstepS,List.getElem?_toArray,ho]
  · cases g with
    | none =>
      simp only [dstepS,List.getElem?_toArray,ho,wantedS,PKind.isEff,cond_true,simOp]
      cases dispatch op E (evT E.G tm) ⟨dst,op,ty,pos,after,none⟩ h with
      | error e => rfl
      | ok out =>
        simp only
        cases callOut ih out with
        | error e => rfl
        | ok p => rfl
    | some _ => rfl
theorem dstep_reads' {E : Env} {ih : K} {l : List Oper} {nt base i : Nat} {hh : SHeap} {old : List SHeap} {tm : Tr Value} {h : SHeap} {cur : List Nat} :
    dstepS E ih l.toArray nt base ⟨i,.read,0⟩ ⟨hh :: old,tm,h,cur⟩ = (match l[i]? with
      | none => .error "draw  no operation"
      | some ⟨dst,op,ty,pos,after,g⟩ => match g with
        | none => (match outVal (dispatch op E (evT E.G tm) ⟨dst,op,ty,pos,after,none⟩ hh) with
          | .ok v => bif readAgain E (evT E.G tm) ⟨dst,op,ty,pos,after,none⟩ v old then .ok ⟨hh :: old,putT tm nt dst v,h,cur⟩ else .error "draw  a read that hangs on the order"
          | .error e => .error e)
        | some _ => dstepS E ih l.toArray nt base ⟨i,.read,0⟩ ⟨hh :: old,tm,h,cur⟩) := by
  rcases ho : l[i]? with _ | ⟨dst,op,ty,pos,after,g⟩
  · simp only [dstepS,List.getElem?_toArray,ho]
  · cases g with
    | none =>
      simp only [dstepS,List.getElem?_toArray,ho,wantedS,PKind.isEff,cond_false,floatS,simOp,Nat.sub_zero,List.take_length]
      cases outVal (dispatch op E (evT E.G tm) ⟨dst,op,ty,pos,after,none⟩ hh) with
      | error e => rfl
      | ok v =>
        simp only
        cases hR : readAgain E (evT E.G tm) ⟨dst,op,ty,pos,after,none⟩ v old <;> simp only [hR,cond_true,cond_false]
    | some _ => rfl
theorem readAgain_nil {E : Env} {ev : Ev} {o : Oper} {v : Value} : readAgain E ev o v [] = true := (id rfl)
theorem readAgain_cons {E : Env} {ev : Ev} {dst : Option Tmp} {op : Op} {ty : TypeId} {pos : String} {after : Array Edge} {g : Option (Nat × Bool)} {v : Value} {h : SHeap} {r : List SHeap} : readAgain E ev ⟨dst,op,ty,pos,after,g⟩ v (h :: r) = (match dispatch op E ev ⟨dst,op,ty,pos,after,g⟩ h with
    | .ok (.value u,_) => valEq 200 u v && readAgain E ev ⟨dst,op,ty,pos,after,g⟩ v r
    | _ => false) := by
  simp only [readAgain,simOp]
  rfl
theorem valEq_int {k : IntKind} {n : Int} : valEq 200 (.int k n) (.int k n) = true := by simp [valEq]
end Go.Sim
namespace Go.Proofs.YtaclddcneogolaaGreatDoor
open Go Go.Sim
set_option maxRecDepth 100000
variable {O : Nat → Option (List Value → SHeap → Except String (Value × SHeap))} {ih : K}

theorem pl35a : planOf (Eo O) (nthD (drawsOf (cF Tryz.f35)) 0).toList = some ⟨[⟨0,.pure,0⟩,⟨1,.read,0⟩,⟨2,.eff,0⟩,⟨3,.pure,1⟩,⟨4,.pure,0⟩,⟨5,.pure,0⟩,⟨6,.read,0⟩,⟨7,.pure,0⟩],8,0⟩ := by kernel_rfl
theorem pl35b : planOf (Eo O) (nthD (drawsOf (cF Tryz.f35)) 1).toList = some ⟨[⟨0,.pure,0⟩,⟨1,.read,0⟩,⟨2,.eff,0⟩,⟨3,.pure,1⟩,⟨4,.pure,0⟩,⟨5,.pure,0⟩,⟨6,.read,0⟩,⟨7,.pure,0⟩,⟨8,.pure,0⟩],9,0⟩ := by kernel_rfl
theorem pl35c : planOf (Eo O) (nthD (drawsOf (cF Tryz.f35)) 2).toList = some ⟨[⟨0,.pure,0⟩,⟨1,.read,0⟩,⟨2,.eff,0⟩,⟨5,.pure,0⟩,⟨6,.read,0⟩,⟨7,.eff,1⟩,⟨3,.pure,1⟩,⟨4,.pure,0⟩,⟨8,.pure,2⟩,⟨9,.pure,0⟩,⟨10,.pure,0⟩,⟨11,.read,0⟩,⟨12,.pure,0⟩],13,0⟩ := by kernel_rfl

theorem fa32 {a : Addr} {h : SHeap} : opFieldAddr (Eo O) ((Eo O).T 32) (some (.pointer (some a))) 0 h = .ok (.value (.pointer (some (addrAdd a 0))),h) := by kernel_rfl
theorem fa32x {a : Addr} {h : SHeap} : opFieldAddr (Eo O) ((Eo O).T 32) (some (.pointer (some a))) 1 h = .ok (.value (.pointer (some (addrAdd a 1))),h) := by kernel_rfl
theorem fa32y {a : Addr} {h : SHeap} : opFieldAddr (Eo O) ((Eo O).T 32) (some (.pointer (some a))) 2 h = .ok (.value (.pointer (some (addrAdd a 2))),h) := by kernel_rfl
theorem en33 : EntersS (Eo O) 33 := fun _ _ => by kernel_rfl
theorem bs5 {s t u v : ByteArray} {n : Int} {h : SHeap} : opBuildSlice (Eo O) ((Eo O).T 147) 5 (some [(0,.iface 9 (.string s)),(1,.iface 9 (.string t)),(2,.iface 9 (.string u)),(3,.iface 9 (.string v)),(4,.iface 3 (.int .i64 n))]) h = .ok (.value (.slice (some ⟨h.next,0,none⟩) 5 5),newCells h 20 ([Part.str s,Part.str t,Part.str u,Part.str v,Part.num n].map Part.val) false) := by kernel_rfl
theorem neg_i64 {E : Env} {ev : Ev} {o : Oper} {n : Int} {h : SHeap} : opUn E ev o .neg (some (.int .i64 n)) h = .ok (.value (.int .i64 (wrapF .i64 (0 - n))),h) := (id rfl)
theorem wrapF_in {n : Int} (h1 : -9223372036854775808 ≤ n) (h2 : n ≤ 9223372036854775807) : wrapF .i64 n = n := by
  have hw : IntKind.wrap .i64 n = n := by
    simp only [IntKind.wrap,IntKind.bits,IntKind.signed]
    simp
    omega
  cases n with
  | ofNat m =>
    simp only [wrapF]
    cases Nat.blt m 9223372036854775808 with
    | true => rfl
    | false => exact hw
  | negSucc m => exact hw

def NameIH (ih : K) : Prop := ∀ (v : Int) (g : SHeap),-9223372036854775808 ≤ v → v ≤ 9223372036854775807 → tabOK (g.t.get 0) = true → g.next + 10 ≤ lim → ih (.call 33 #[.int .i64 v] .normal) g = .ok (.string ⟨(nameT v).toArray⟩,⟨g.t,g.next + nameN v⟩)
theorem name_at {k : Nat} (o33 : O 33 = some nameQ) : NameIH (run (Eo O) (k + 1)) := by
  intro v g h1 h2 ht hl
  rw [run_orc (E := Eo O) (show (Eo O).O 33 = some nameQ from o33)]
  have hb : Nat.ble (g.next + 10) lim = true := by rw [Nat.ble_eq]; exact hl
  simp only [nameQ,ht,decide_eq_true h1,decide_eq_true h2,hb,Bool.and_self,cond_true]
theorem name_len {v : Int} (h1 : -9223372036854775808 ≤ v) (h2 : v ≤ 9223372036854775807) : (nameT v).length ≤ 30 := by
  have hl := itoa_len h1 h2
  cases v with
  | ofNat n =>
    simp only [nameT]
    cases hb : Nat.blt n 60 with
    | false => simp only [cond_false,List.length_cons]; omega
    | true =>
      rw [cond_true,← nameC_eq (of_blt hb)]
      have d : ∀ m,(dig2 m).length ≤ 2 := fun m => by unfold dig2; cases Nat.blt m 10 <;> simp
      have d1 := d (n - 2); have d2 := d (n - 12); have d3 := d ((n - 44) / 2)
      unfold nameC
      cases Nat.beq n 0 <;> cases Nat.beq n 1 <;> cases Nat.blt n 12 <;> cases Nat.blt n 44 <;> cases Nat.beq ((n - 44) % 2) 0 <;> simp <;> omega
  | negSucc n => simp only [nameT,List.length_cons]; omega

def boundP (I J C : Int) : List Part :=
  bif decide (J = 0) then [.str ⟨(nameT I).toArray⟩,.str ⟨#[60,61]⟩,.num C]
  else bif decide (I = 0) && !decide (C = -9223372036854775808) then [.str ⟨(nameT J).toArray⟩,.str ⟨#[62,61]⟩,.num (-C)]
  else [.str ⟨(nameT I).toArray⟩,.str ⟨#[45]⟩,.str ⟨(nameT J).toArray⟩,.str ⟨#[60,61]⟩,.num C]
def boundN (I J C : Int) : Nat :=
  bif decide (J = 0) then 2 + nameN I + nms (boundP I J C)
  else bif decide (I = 0) && !decide (C = -9223372036854775808) then 2 + nameN J + nms (boundP I J C)
  else 2 + nameN I + nameN J + nms (boundP I J C)
def boundT (I J C : Int) : List UInt8 := wordsT (boundP I J C)

theorem bd_code (hW : WordsIH ih) (hN : NameIH ih) {I J C : Int} (hI : -9223372036854775808 ≤ I ∧ I ≤ 9223372036854775807) (hJ : -9223372036854775808 ≤ J ∧ J ≤ 9223372036854775807) (hC : -9223372036854775808 ≤ C ∧ C ≤ 9223372036854775807) {h : SHeap} (htab : tabOK (h.t.get 0) = true) (h0 : 0 < h.next) (hl : h.next + 5000 ≤ lim)
    {tm : Tr Value} (t0 : tm.get 0 = some (.agg #[.int .i64 I,.int .i64 J,.int .i64 C])) :
    ∃ tm' h',codeS (cF Tryz.f35) (Eo O) ih ⟨35,52,.normal,none⟩ ⟨tm,h,[]⟩ = .ok (.ret,⟨tm',h',[]⟩) ∧ tm'.get 2 = some (.string ⟨(boundT I J C).toArray⟩) ∧ h'.next = h.next + boundN I J C ∧ ∀ x,x < h.next → h'.t.get x = h.t.get x := by
  obtain ⟨G,hgd⟩ : ∃ G,G = (newCells h 32 [.int .i64 I,.int .i64 J,.int .i64 C] false).t := ⟨_,rfl⟩
  have hg : G.get h.next = some (.cells (Tr.ofL 33 [.int .i64 I,.int .i64 J,.int .i64 C]) 3 32 false false) := by
    rw [hgd]; exact box_get (t := 32) (l := [.int .i64 I,.int .i64 J,.int .i64 C]) (o := false) (h := h) (by omega)
  have glow : ∀ x,x < h.next → G.get x = h.t.get x := fun x hx => by rw [hgd]; exact new_low (by omega)
  have gtab : tabOK (G.get 0) = true := by rw [glow 0 h0]; exact htab
  have hbox : opBox 32 (some (.agg #[.int .i64 I,.int .i64 J,.int .i64 C])) h = .ok (.value (.pointer (some ⟨h.next,0,none⟩)),⟨G,h.next + 1⟩) := by rw [hgd]; rfl
  have lI := fun (n : Nat) => load_one (E := Eo O) (h := ⟨G,n⟩) E3 rfl hg (show (Tr.ofL 33 [Value.int .i64 I,.int .i64 J,.int .i64 C]).get (0 + 0) = some (.int .i64 I) from rfl)
  have lJ := fun (n : Nat) => load_one (E := Eo O) (h := ⟨G,n⟩) E3 rfl hg (show (Tr.ofL 33 [Value.int .i64 I,.int .i64 J,.int .i64 C]).get (0 + 1) = some (.int .i64 J) from rfl)
  have lC := fun (n : Nat) => load_one (E := Eo O) (h := ⟨G,n⟩) E3 rfl hg (show (Tr.ofL 33 [Value.int .i64 I,.int .i64 J,.int .i64 C]).get (0 + 2) = some (.int .i64 C) from rfl)
  have bl : ∀ n,n ≤ 100 → Nat.ble (h.next + 1 + n) 4294967296 = true := fun n hn => by rw [Nat.ble_eq]; unfold lim at hl; omega
  have nle : ∀ v,nameN v ≤ 1 := fun v => by
    cases v with
    | ofNat n => simp only [nameN]; cases Nat.blt n 100 <;> simp
    | negSucc n => simp [nameN]
  have W := fun (k n : Nat) (ps : List Part) (hk : k ≤ 100) (hn : ps.length = n) (hf : ∀ p ∈ ps,p.fits) (h1 : 1 ≤ n) (h2 : n ≤ 10) (hlen : (wordsT ps).length ≤ 140737488355328) =>
    hW (h.next + 1 + k) n (newCells ⟨G,h.next + 1 + k⟩ 20 (ps.map Part.val) false) ps (by
      have := box_get (t := 20) (l := ps.map Part.val) (o := false) (h := ⟨G,h.next + 1 + k⟩) (by show h.next + 1 + k < lim; omega)
      rw [List.length_map,hn] at this
      exact this) hn hf h1 h2 (by rw [new_low (by show 0 ≠ h.next + 1 + k; omega)]; exact gtab) (by show h.next + 1 + k + 1 + 4000 ≤ lim; omega) hlen
  have N1 := fun (v : Int) (hv : -9223372036854775808 ≤ v ∧ v ≤ 9223372036854775807) => hN v ⟨G,h.next + 1⟩ hv.1 hv.2 gtab (by show h.next + 1 + 10 ≤ lim; omega)
  have N2 := fun (v : Int) (k : Nat) (hk : k ≤ 100) (hv : -9223372036854775808 ≤ v ∧ v ≤ 9223372036854775807) => hN v ⟨G,h.next + 1 + k⟩ hv.1 hv.2 gtab (by show h.next + 1 + k + 10 ≤ lim; omega)
  have flow : ∀ (k : Nat) l x,x < h.next → (newCells ⟨G,h.next + 1 + k⟩ 20 l false).t.get x = h.t.get x := fun k l x hx => by
    rw [new_low (by show x ≠ h.next + 1 + k; omega)]; exact glow x hx
  have fnext : ∀ (k : Nat) l,(newCells ⟨G,h.next + 1 + k⟩ 20 l false).next = h.next + 1 + k + 1 := fun _ _ => rfl
  have lIn := itoa_len hC.1 hC.2
  have nI := name_len hI.1 hI.2
  have nJ := name_len hJ.1 hJ.2
  have hgl : (⟨G,h.next + 1⟩ : SHeap).next ≤ lim := by show h.next + 1 ≤ lim; omega
  generalize hr : codeS (cF Tryz.f35) (Eo O) ih ⟨35,52,.normal,none⟩ ⟨tm,h,[]⟩ = r
  by_cases hj : J = 0
  · have e0 : (J == 0) = true := by simp [hj]
    have hP : boundP I J C = [.str ⟨(nameT I).toArray⟩,.str ⟨#[60,61]⟩,.num C] := by simp only [boundP,hj,decide_true,cond_true]
    have w := W (nameN I) 3 [.str ⟨(nameT I).toArray⟩,.str ⟨#[60,61]⟩,.num C] (by have := nle I; omega) rfl (by intro p hp; simp only [List.mem_cons,List.not_mem_nil,or_false] at hp; rcases hp with rfl | rfl | rfl <;> first | trivial | assumption) (by omega) (by omega) (by
      have := join_len3 (x := nameT I) (y := [60,61]) (z := Lib.itoa C) (n := 30) (m := 30) (k := 30) nI (by decide) (by omega)
      exact Nat.le_trans this (by decide))
    have pl := pl35a (O := O)
    simp only [Tryz.f35,cF,Option.getD,drawsOf,List.append_nil,List.nil_append,List.cons_append,List.singleton_append,nthD] at pl
    simp only [Tryz.f35,cF,Option.getD,cA,cB,cI,codeS,cSeq_run,cCond_run,cRegion_run,cRegion_draw,cBlock_run,cSkip_run,cRet_run,cExit_run,opsS_nil,opsS_run,opS_free,thenS_normal,thenS_ret,thenS_exit,exitBlock_normal,exitBlock_ret,exitBlock_exit,normalS_ok,dispatch,dMove,opMove,evT_tmp,evT_int,evT_bool,dBin,lss_i64,gtr_i64,add_i64,valR,afterS_value,putT_some,putT_none,get_put,lim,Nat.reduceLT,Nat.reduceEqDiff,and_true,if_true,if_false,reduceIte,false_and,true_and,cLoop_run,Nat.beq,cond_true,
      dIndexAddr,dFieldAddr,dNilCheck,dLoad,nilCheck_ptr,Option.bind_some,natOf_int,addrAdd_free,drawS_nil',drawS_cons',dstep_pure',dstep_reads',dstep_eff',readAgain_nil,readAgain_cons,valEq_int,callOut_enter,simOp_run,outVal_val,List.getElem?_toArray,List.getElem?_cons_succ,List.getElem?_cons_zero,List.drop_succ_cons,List.drop_zero,dPick,pick_true,pick_false,opS_guard,wantedS,Option.bind_some,dIndex,dBuild,dBuildSlice,dCall,evParts,evList,dSlice,bqa,bqb,bqc,bqd,eql_i64,neq_i64,evT_str,Bool.and_self,afterS_enter,call_fn en32,call_fn en33,dBox,dMakeIface,mi9,mi3,hbox,fa32,fa32x,fa32y,bs3n,bDraw_list pl hgl,t0,lI,lJ,lC,N1 I hI,bl (nameN I) (by have := nle I; omega),e0,w] at hr
    subst hr
    refine ⟨_,_,rfl,?_,?_,fun x hx => flow _ _ x hx⟩
    · simp [get_put,lim,boundT,hP]
    · rw [show boundN I J C = 2 + nameN I + nms (boundP I J C) from by simp only [boundN,hj,decide_true,cond_true],hP]; simp only [fnext]; omega
  · have e0 : (J == 0) = false := by simp [hj]
    have d0 : decide (J = 0) = false := by simp [hj]
    by_cases hi : I = 0 ∧ C ≠ -9223372036854775808
    · obtain ⟨hi,hc⟩ := hi
      have e1 : (I == 0) = true := by simp [hi]
      have e2 : (C != -9223372036854775808) = true := by simp [hc]
      have d1 : (decide (I = 0) && !decide (C = -9223372036854775808)) = true := by simp [hi,hc]
      have hP : boundP I J C = [.str ⟨(nameT J).toArray⟩,.str ⟨#[62,61]⟩,.num (-C)] := by simp only [boundP,d0,d1,cond_true,cond_false]
      have hneg : wrapF .i64 (0 - C) = -C := by rw [Int.zero_sub]; exact wrapF_in (by omega) (by omega)
      have lNn := itoa_len (v := -C) (by omega) (by omega)
      have fC : Part.fits (.num (-C)) := ⟨by omega,by omega⟩
      have w := W (nameN J) 3 [.str ⟨(nameT J).toArray⟩,.str ⟨#[62,61]⟩,.num (-C)] (by have := nle J; omega) rfl (by intro p hp; simp only [List.mem_cons,List.not_mem_nil,or_false] at hp; rcases hp with rfl | rfl | rfl <;> first | trivial | assumption) (by omega) (by omega) (by
        have := join_len3 (x := nameT J) (y := [62,61]) (z := Lib.itoa (-C)) (n := 30) (m := 30) (k := 30) nJ (by decide) (by omega)
        exact Nat.le_trans this (by decide))
      have pl := pl35b (O := O)
      simp only [Tryz.f35,cF,Option.getD,drawsOf,List.append_nil,List.nil_append,List.cons_append,List.singleton_append,nthD] at pl
      simp only [Tryz.f35,cF,Option.getD,cA,cB,cI,codeS,cSeq_run,cCond_run,cRegion_run,cRegion_draw,cBlock_run,cSkip_run,cRet_run,cExit_run,opsS_nil,opsS_run,opS_free,thenS_normal,thenS_ret,thenS_exit,exitBlock_normal,exitBlock_ret,exitBlock_exit,normalS_ok,dispatch,dMove,opMove,evT_tmp,evT_int,evT_bool,dBin,lss_i64,gtr_i64,add_i64,valR,afterS_value,putT_some,putT_none,get_put,lim,Nat.reduceLT,Nat.reduceEqDiff,and_true,if_true,if_false,reduceIte,false_and,true_and,cLoop_run,Nat.beq,cond_true,
      dIndexAddr,dFieldAddr,dNilCheck,dLoad,nilCheck_ptr,Option.bind_some,natOf_int,addrAdd_free,drawS_nil',drawS_cons',dstep_pure',dstep_reads',dstep_eff',readAgain_nil,readAgain_cons,valEq_int,callOut_enter,simOp_run,outVal_val,List.getElem?_toArray,List.getElem?_cons_succ,List.getElem?_cons_zero,List.drop_succ_cons,List.drop_zero,dPick,pick_true,pick_false,opS_guard,wantedS,Option.bind_some,dIndex,dBuild,dBuildSlice,dCall,evParts,evList,dSlice,bqa,bqb,bqc,bqd,eql_i64,neq_i64,evT_str,Bool.and_self,afterS_enter,call_fn en32,call_fn en33,dBox,dMakeIface,dUn,neg_i64,mi9,mi3,hbox,fa32,fa32x,fa32y,bs3n,bDraw_list pl hgl,t0,lI,lJ,lC,N1 J hJ,bl (nameN J) (by have := nle J; omega),e0,e1,e2,hneg,w] at hr
      subst hr
      refine ⟨_,_,rfl,?_,?_,fun x hx => flow _ _ x hx⟩
      · simp [get_put,lim,boundT,hP]
      · rw [show boundN I J C = 2 + nameN J + nms (boundP I J C) from by simp only [boundN,d0,d1,cond_true,cond_false],hP]; simp only [fnext]; omega
    · have d1 : (decide (I = 0) && !decide (C = -9223372036854775808)) = false := by
        by_cases hi0 : I = 0
        · by_cases hc0 : C = -9223372036854775808
          · simp [hc0]
          · exact absurd ⟨hi0,hc0⟩ hi
        · simp [hi0]
      have hP : boundP I J C = [.str ⟨(nameT I).toArray⟩,.str ⟨#[45]⟩,.str ⟨(nameT J).toArray⟩,.str ⟨#[60,61]⟩,.num C] := by simp only [boundP,d0,d1,cond_true,cond_false]
      have w := W (nameN I + nameN J) 5 [.str ⟨(nameT I).toArray⟩,.str ⟨#[45]⟩,.str ⟨(nameT J).toArray⟩,.str ⟨#[60,61]⟩,.num C] (by have := nle I; have := nle J; omega) rfl (by intro p hp; simp only [List.mem_cons,List.not_mem_nil,or_false] at hp; rcases hp with rfl | rfl | rfl | rfl | rfl <;> first | trivial | assumption) (by omega) (by omega) (by
        have := join_len5 (x := nameT I) (y := [45]) (z := nameT J) (u := [60,61]) (v := Lib.itoa C) (n := 30) (m := 30) (k := 30) (a := 30) (b := 30) nI (by decide) nJ (by decide) (by omega)
        exact Nat.le_trans this (by decide))
      rw [← Nat.add_assoc] at w
      have n2 := N2 J (nameN I) (by have := nle I; omega) hJ
      have bl2 := bl (nameN I + nameN J) (by have := nle I; have := nle J; omega)
      rw [← Nat.add_assoc] at bl2
      have pl := pl35c (O := O)
      simp only [Tryz.f35,cF,Option.getD,drawsOf,List.append_nil,List.nil_append,List.cons_append,List.singleton_append,nthD] at pl
      by_cases hi0 : I = 0
      · have e1 : (I == 0) = true := by simp [hi0]
        have e2 : (C != -9223372036854775808) = false := by
          by_cases hc0 : C = -9223372036854775808
          · simp [hc0]
          · exact absurd ⟨hi0,hc0⟩ hi
        simp only [Tryz.f35,cF,Option.getD,cA,cB,cI,codeS,cSeq_run,cCond_run,cRegion_run,cRegion_draw,cBlock_run,cSkip_run,cRet_run,cExit_run,opsS_nil,opsS_run,opS_free,thenS_normal,thenS_ret,thenS_exit,exitBlock_normal,exitBlock_ret,exitBlock_exit,normalS_ok,dispatch,dMove,opMove,evT_tmp,evT_int,evT_bool,dBin,lss_i64,gtr_i64,add_i64,valR,afterS_value,putT_some,putT_none,get_put,lim,Nat.reduceLT,Nat.reduceEqDiff,and_true,if_true,if_false,reduceIte,false_and,true_and,cLoop_run,Nat.beq,cond_true,
      dIndexAddr,dFieldAddr,dNilCheck,dLoad,nilCheck_ptr,Option.bind_some,natOf_int,addrAdd_free,drawS_nil',drawS_cons',dstep_pure',dstep_reads',dstep_eff',readAgain_nil,readAgain_cons,valEq_int,callOut_enter,simOp_run,outVal_val,List.getElem?_toArray,List.getElem?_cons_succ,List.getElem?_cons_zero,List.drop_succ_cons,List.drop_zero,dPick,pick_true,pick_false,opS_guard,wantedS,Option.bind_some,dIndex,dBuild,dBuildSlice,dCall,evParts,evList,dSlice,bqa,bqb,bqc,bqd,eql_i64,neq_i64,evT_str,Bool.and_self,afterS_enter,call_fn en32,call_fn en33,dBox,dMakeIface,dUn,neg_i64,mi9,mi3,hbox,fa32,fa32x,fa32y,bs5,bDraw_list pl hgl,t0,lI,lJ,lC,N1 I hI,n2,bl (nameN I) (by have := nle I; omega),bl2,e0,e1,e2,w] at hr
        subst hr
        refine ⟨_,_,rfl,?_,?_,fun x hx => ?_⟩
        · simp [get_put,lim,boundT,hP]
        · have := fnext (nameN I + nameN J); simp only [← Nat.add_assoc] at this; rw [show boundN I J C = 2 + nameN I + nameN J + nms (boundP I J C) from by simp only [boundN,d0,d1,cond_false],hP]; simp only [this]; omega
        · have := flow (nameN I + nameN J); simp only [← Nat.add_assoc] at this; exact this _ x hx
      · have e1 : (I == 0) = false := by simp [hi0]
        simp only [Tryz.f35,cF,Option.getD,cA,cB,cI,codeS,cSeq_run,cCond_run,cRegion_run,cRegion_draw,cBlock_run,cSkip_run,cRet_run,cExit_run,opsS_nil,opsS_run,opS_free,thenS_normal,thenS_ret,thenS_exit,exitBlock_normal,exitBlock_ret,exitBlock_exit,normalS_ok,dispatch,dMove,opMove,evT_tmp,evT_int,evT_bool,dBin,lss_i64,gtr_i64,add_i64,valR,afterS_value,putT_some,putT_none,get_put,lim,Nat.reduceLT,Nat.reduceEqDiff,and_true,if_true,if_false,reduceIte,false_and,true_and,cLoop_run,Nat.beq,cond_true,
      dIndexAddr,dFieldAddr,dNilCheck,dLoad,nilCheck_ptr,Option.bind_some,natOf_int,addrAdd_free,drawS_nil',drawS_cons',dstep_pure',dstep_reads',dstep_eff',readAgain_nil,readAgain_cons,valEq_int,callOut_enter,simOp_run,outVal_val,List.getElem?_toArray,List.getElem?_cons_succ,List.getElem?_cons_zero,List.drop_succ_cons,List.drop_zero,dPick,pick_true,pick_false,opS_guard,wantedS,Option.bind_some,dIndex,dBuild,dBuildSlice,dCall,evParts,evList,dSlice,bqa,bqb,bqc,bqd,eql_i64,neq_i64,evT_str,Bool.and_self,afterS_enter,call_fn en32,call_fn en33,dBox,dMakeIface,dUn,neg_i64,mi9,mi3,hbox,fa32,fa32x,fa32y,bs5,bDraw_list pl hgl,t0,lI,lJ,lC,N1 I hI,n2,bl (nameN I) (by have := nle I; omega),bl2,e0,e1,w] at hr
        subst hr
        refine ⟨_,_,rfl,?_,?_,fun x hx => ?_⟩
        · simp [get_put,lim,boundT,hP]
        · have := fnext (nameN I + nameN J); simp only [← Nat.add_assoc] at this; rw [show boundN I J C = 2 + nameN I + nameN J + nms (boundP I J C) from by simp only [boundN,d0,d1,cond_false],hP]; simp only [this]; omega
        · have := flow (nameN I + nameN J); simp only [← Nat.add_assoc] at this; exact this _ x hx

theorem body35 : Tryz.f35.body = some (cF Tryz.f35) := rfl
theorem fn35 : (Eo O).F 35 = some Tryz.f35 := by show Tab.funcs.get 35 = _; kernel_rfl
theorem nt35 {a : Value} : max Tryz.f35.ntmps (#[a] : Array Value).size = 52 := rfl
theorem res35 : Tryz.f35.results.toList = [.tmp 2] := rfl
def boundA (h : SHeap) (l : List Value) : Ex (Value × SHeap) := match l with
  | [.int .i64 I,.int .i64 J,.int .i64 C] => bif tabOK (h.t.get 0) && in64 I && in64 J && in64 C && Nat.ble (h.next + 5000) lim then .ok (.string ⟨(boundT I J C).toArray⟩,⟨h.t,h.next + boundN I J C⟩) else .error "bound"
  | _ => .error "bound"
def boundQ (args : List Value) (h : SHeap) : Ex (Value × SHeap) := match args with
  | [.agg cs] => boundA h cs.toList
  | _ => .error "bound"
theorem bound_ok (hOK : ∀ f g,(Eo O).O f = some g → OrcOK (Eo O) f g) (o32 : O 32 = some wordsQ) (o33 : O 33 = some nameQ) (o35 : O 35 = none) : OrcOK (Eo O) 35 boundQ := by
  refine orc_of_run (run_ok (envOK O) (bDraw_ok (envOK O) (show Tryz.prog.follows .mixedOrders = true from mixed)) hOK 2) fun args h v h' hlow hok => ?_
  unfold boundQ at hok
  split at hok
  · rename_i cs hargs
    unfold boundA at hok
    split at hok
    · rename_i k t m hcs
      cases hc : (tabOK (h.t.get 0) && in64 k && in64 t && in64 m && Nat.ble (h.next + 5000) lim) with
      | false => rw [hc] at hok; simp at hok
      | true =>
        rw [hc,cond_true] at hok
        simp only [Except.ok.injEq,Prod.mk.injEq] at hok
        obtain ⟨rfl,rfl⟩ := hok
        simp only [Bool.and_eq_true] at hc
        obtain ⟨⟨⟨⟨c1,c2⟩,c3⟩,c4⟩,c5⟩ := hc
        have harr : args = #[.agg cs] := Array.toList_inj.1 hargs
        have hcs' : cs = #[.int .i64 k,.int .i64 t,.int .i64 m] := Array.toList_inj.1 hcs
        subst harr hcs'
        obtain ⟨tm',h'',k1,k2,k3,k4⟩ := bd_code (O := O) (ih := run (Eo O) 1) (words_at (k := 0) o32) (name_at (k := 0) o33) (in64xiff c2) (in64xiff c3) (in64xiff c4) c1 (next_pos c1 hlow) (Nat.le_of_ble_eq_true c5) (tm := Tr.ofL 33 [.agg #[.int .i64 k,.int .i64 t,.int .i64 m]]) rfl
        refine ⟨h'',(run_call (show (Eo O).O 35 = none from o35)).trans (enterS_ret (vs := [_]) fn35 body35 nt35 rfl res35 k1 (by simp only [resultsS,k2,need])),k3,fun x o hx => ⟨o,by rw [k4 x (hlow x o hx)]; exact hx,ObjLe.refl o⟩⟩
    · simp at hok
  · simp at hok
end Go.Proofs.YtaclddcneogolaaGreatDoor

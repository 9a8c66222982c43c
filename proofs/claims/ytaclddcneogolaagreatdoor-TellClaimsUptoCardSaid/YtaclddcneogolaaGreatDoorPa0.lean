/- Laws of the operations in the law TellParts; a claim of one tag. -/
import Derived.Test.YtaclddcneogolaaGreatDoorUnA
set_option linter.unusedVariables false
set_option linter.unusedSimpArgs false
set_option linter.unusedSimpArgs false
set_option linter.unusedVariables false
namespace Go.Proofs.YtaclddcneogolaaGreatDoor
open Go Go.Sim
set_option maxRecDepth 100000
variable {O : Nat → Option (List Value → SHeap → Except String (Value × SHeap))} {ih : K}

theorem tabOU {h : SHeap} (h1 : h.t.get 0 = h0.t.get 0) : tabOK (h.t.get 0) = true := by
  rw [h1,show h0.t.get 0 = some powM.obj by kernel_rfl]; exact tab0
def nilS : Value := .slice none 0 0
theorem alloc29 {h : SHeap} : opAlloc ((Eo O).T 29) 29 h = .ok (.value (.pointer (some ⟨h.next,0,none⟩)),newCells h 29 (clV false rs0 ss0 nilS) false) := by kernel_rfl
theorem ia25 {b o j : Nat} {h : SHeap} (hj : j < 10) : opIndexAddr (Eo O) ((Eo O).T 25) (some (.pointer (some ⟨b,o,none⟩))) (some j) h = .ok (.value (.pointer (some ⟨b,o + j * 3,none⟩)),h) := by
  rw [E25]
  simp only [opIndexAddr,indexTo,E24]
  rw [blt_of hj,cond_true,addrAdd_free]
  rfl
theorem ia26 {b o j : Nat} {h : SHeap} (hj : j < 32) : opIndexAddr (Eo O) ((Eo O).T 26) (some (.pointer (some ⟨b,o,none⟩))) (some j) h = .ok (.value (.pointer (some ⟨b,o + j * 3,none⟩)),h) := by
  rw [E26]
  simp only [opIndexAddr,indexTo,E24]
  rw [blt_of hj,cond_true,addrAdd_free]
  rfl
theorem bi_len9 {ev : Ev} {o : Oper} {ar : Array Operand} {x : Value} {h : SHeap} : opBuiltin (Eo O) ev o ⟨.builtin .len,ar,#[9]⟩ .len (some [x]) h = opLen (Eo O) ev o ((Eo O).T 9) x h := (id rfl)
theorem idx_str {ev : Ev} {op : Oper} {l : List UInt8} {i : Nat} {b : UInt8} {h : SHeap} (hl : l[i]? = some b) : opIndex (Eo O) ev op ((Eo O).T 9) (some (.string ⟨l.toArray⟩)) (some i) h = .ok (.value (.int .u8 (.ofNat b.toNat)),h) := by
  rw [E9]
  simp only [opIndex,hl,valR]
theorem sub_one {E : Env} {ev : Ev} {o : Oper} {t : TypeId} {n : Nat} {h : SHeap} (h0 : 0 < n) (hn : n < 9223372036854775808) : opBin E ev o .sub t (some (.int .i64 (.ofNat n))) (some (.int .i64 1)) h = .ok (.value (.int .i64 (.ofNat (n - 1))),h) := by
  have e : (Int.ofNat n - 1 : Int) = Int.ofNat (n - 1) := by simp only [Int.ofNat_eq_natCast]; omega
  have := bin_i64 (E := E) (ev := ev) (o := o) (op := .sub) (t := t) (x := .ofNat n) (y := 1) (h := h) rfl
  rw [this]
  show Except.ok (SNext.value (.int .i64 (wrapF .i64 (Int.ofNat n - 1))),h) = _
  rw [e,Go.Sim.wrap_small (by omega)]
theorem neq_u8 {E : Env} {ev : Ev} {o : Oper} {t : TypeId} {x y : Int} {h : SHeap} : opBin E ev o .neq t (some (.int .u8 x)) (some (.int .u8 y)) h = .ok (.value (.bool (x != y)),h) := (id rfl)

/-! ## three cells within a row -/
theorem sub_list {c : Tr Value} {l : List Value} {n k : Nat} {x y z : Value} (h : c.toL 32 n = some l) (hk : k + 3 ≤ n) (hn : n ≤ lim) (hl : (l.drop k).take 3 = [x,y,z]) : c.toListFrom k 3 = some [x,y,z] := by
  obtain ⟨h1,h2⟩ := toL_get h
  have g : ∀ r,r < 3 → c.get (k + r) = [x,y,z][r]? := fun r hr => by
    rw [← h2 (k + r) (by omega) (by omega),← hl,List.getElem?_take_of_lt hr,List.getElem?_drop]
  have g0 : c.get k = some x := g 0 (by decide)
  have g1 : c.get (k + 1) = some y := g 1 (by decide)
  have g2 : c.get (k + 1 + 1) = some z := g 2 (by decide)
  simp only [Tr.toListFrom,forceN_eq,g0,g1,g2]
theorem put3xlist {c : Tr Value} {l : List Value} {n k : Nat} {x y z : Value} (h : c.toL 32 n = some l) (hk : k + 3 ≤ n) (hn : n ≤ lim) :
    (((c.put k (some x)).put (k + 1) (some y)).put (k + 1 + 1) (some z)).toL 32 n = some (l.take k ++ [x,y,z] ++ l.drop (k + 3)) := by
  have hs : ((((c.put k (some x)).put (k + 1) (some y)).put (k + 1 + 1) (some z)).toL 32 n).isSome = true := toL_put (toL_put (toL_put (by rw [h]; rfl)))
  obtain ⟨h1,h2⟩ := toL_get h
  cases hr : (((c.put k (some x)).put (k + 1) (some y)).put (k + 1 + 1) (some z)).toL 32 n with
  | none => rw [hr] at hs; simp at hs
  | some l' =>
    obtain ⟨k1,k2⟩ := toL_get hr
    refine congrArg some (List.ext_getElem? fun i => ?_)
    by_cases hi : i < n
    · rw [k2 i hi (by omega)]
      simp only [get_put]
      rw [List.append_assoc]
      by_cases a : i < k
      · rw [if_neg (by omega),if_neg (by omega),if_neg (by omega),List.getElem?_append_left (by rw [List.length_take]; omega),List.getElem?_take_of_lt a,h2 i hi (by omega)]
      · rw [List.getElem?_append_right (by rw [List.length_take]; omega),List.length_take,Nat.min_eq_left (by omega)]
        by_cases b : i < k + 3
        · rcases (show i = k ∨ i = k + 1 ∨ i = k + 1 + 1 by omega) with rfl | rfl | rfl
          · rw [if_neg (by omega),if_neg (by omega),if_pos ⟨rfl,by omega⟩,Nat.sub_self]; rfl
          · rw [if_neg (by omega),if_pos ⟨rfl,by omega⟩,show k + 1 - k = 1 by omega]; rfl
          · rw [if_pos ⟨rfl,by omega⟩,show k + 1 + 1 - k = 2 by omega]; rfl
        · rw [if_neg (by omega),if_neg (by omega),if_neg (by omega),List.getElem?_append_right (by simp; omega),List.getElem?_drop,← h2 i hi (by omega)]
          congr 1
          simp only [List.length_cons,List.length_nil]
          omega
    · have e1 : l'[i]? = none := List.getElem?_eq_none (by omega)
      rw [e1,List.getElem?_eq_none]
      simp only [List.length_append,List.length_take,List.length_cons,List.length_nil,List.length_drop]
      omega
theorem store_mid {b p n e : Nat} {x y z : Int} {c : Tr Value} {o : Bool} {h : SHeap} (hb : h.t.get b = some (.cells c n e o false)) (hp : p + 3 ≤ n) :
    opStore (Eo O) 24 (some (.pointer (some ⟨b,p,none⟩))) (some (.agg #[.int .i64 x,.int .i64 y,.int .i64 z])) h = .ok (.value (.tuple #[]),h.set b (some (.cells (((c.put p (some (.int .i64 x))).put (p + 1) (some (.int .i64 y))).put (p + 1 + 1) (some (.int .i64 z))) n e o false))) := by
  unfold opStore storeAt
  simp only [E24,hb]
  rw [show (Value.agg #[Value.int .i64 x,.int .i64 y,.int .i64 z]).cells = #[Value.int .i64 x,.int .i64 y,.int .i64 z] from rfl]
  rw [if_neg (by simp)]
  simp only [storeRange,show Nat.ble (#[Value.int .i64 x,.int .i64 y,.int .i64 z] : Array Value).toList.length 12 = true from rfl,cond_true,show (#[Value.int .i64 x,.int .i64 y,.int .i64 z] : Array Value).toList = [Value.int .i64 x,.int .i64 y,.int .i64 z] from rfl,storeList,blt_of (show p < n by omega),blt_of (show p + 1 < n by omega),blt_of (show p + 1 + 1 < n by omega),force_eq,forceN_eq]

theorem drop_add {α : Type} (a b : List α) (k : Nat) : (a ++ b).drop (a.length + k) = b.drop k := by
  induction a with
  | nil => simp
  | cons x r ih => rw [List.length_cons,show r.length + 1 + k = (r.length + k) + 1 by omega,List.cons_append,List.drop_succ_cons,ih]
theorem take_add {α : Type} (a b : List α) (k : Nat) : (a ++ b).take (a.length + k) = a ++ b.take k := by
  induction a with
  | nil => simp
  | cons x r ih => rw [List.length_cons,show r.length + 1 + k = (r.length + k) + 1 by omega,List.cons_append,List.take_succ_cons,ih,List.cons_append]

/-! ## a claim's list,one tag set -/
theorem tgVs_set : ∀ (l : List Tg) (j : Nat) (t : Tg),j < l.length → tgVs (l.set j t) = (tgVs l).take (j * 3) ++ tgV t ++ (tgVs l).drop (j * 3 + 3)
  | u :: r,0,t,h => rfl
  | u :: r,j + 1,t,h => by
    have ih := tgVs_set r j t (by simpa using h)
    rw [show (j + 1) * 3 = j * 3 + 1 + 1 + 1 by omega,show j * 3 + 1 + 1 + 1 + 3 = (j * 3 + 3) + 1 + 1 + 1 by omega]
    simp only [List.set_cons_succ,tgVs,ih,List.take_succ_cons,List.drop_succ_cons,List.cons_append]
theorem clV_reg {d : Bool} {rs ss : List Tg} {cv : Value} {j : Nat} {t : Tg} (h : rs[j]? = some t) : ((clV d rs ss cv).drop (1 + j * 3)).take 3 = tgV t := by
  have hj : j < rs.length := (List.getElem?_eq_some_iff.1 h).1
  rw [show 1 + j * 3 = j * 3 + 1 by omega]
  simp only [clV,List.drop_succ_cons]
  rw [List.drop_append_of_le_length (by rw [tgVs_len]; omega),List.take_append_of_le_length (by rw [List.length_drop,tgVs_len]; omega)]
  exact tgVs_at rs j t h
theorem clV_stk {d : Bool} {rs ss : List Tg} {cv : Value} {j : Nat} {t : Tg} (hr : rs.length = 10) (h : ss[j]? = some t) : ((clV d rs ss cv).drop (31 + j * 3)).take 3 = tgV t := by
  have hj : j < ss.length := (List.getElem?_eq_some_iff.1 h).1
  rw [show 31 + j * 3 = (30 + j * 3) + 1 by omega]
  simp only [clV,List.drop_succ_cons]
  have l30 : (tgVs rs).length = 30 := by rw [tgVs_len,hr]
  rw [show 30 + j * 3 = (tgVs rs).length + j * 3 by omega,drop_add,List.drop_append_of_le_length (by rw [tgVs_len]; omega),List.take_append_of_le_length (by rw [List.length_drop,tgVs_len]; omega)]
  exact tgVs_at ss j t h
theorem clV_setr {d : Bool} {rs ss : List Tg} {cv : Value} {j : Nat} {t : Tg} (hj : j < rs.length) : clV d (rs.set j t) ss cv = (clV d rs ss cv).take (1 + j * 3) ++ tgV t ++ (clV d rs ss cv).drop (1 + j * 3 + 3) := by
  rw [show 1 + j * 3 = j * 3 + 1 by omega,show j * 3 + 1 + 3 = (j * 3 + 3) + 1 by omega]
  simp only [clV,List.take_succ_cons,List.drop_succ_cons,tgVs_set rs j t hj,List.cons_append]
  rw [List.take_append_of_le_length (by rw [tgVs_len]; omega),List.drop_append_of_le_length (by rw [tgVs_len]; omega),List.append_assoc]
theorem clV_sets {d : Bool} {rs ss : List Tg} {cv : Value} {j : Nat} {t : Tg} (hr : rs.length = 10) (hj : j < ss.length) : clV d rs (ss.set j t) cv = (clV d rs ss cv).take (31 + j * 3) ++ tgV t ++ (clV d rs ss cv).drop (31 + j * 3 + 3) := by
  have l30 : (tgVs rs).length = 30 := by rw [tgVs_len,hr]
  rw [show 31 + j * 3 = (30 + j * 3) + 1 by omega,show (30 + j * 3) + 1 + 3 = (30 + (j * 3 + 3)) + 1 by omega]
  simp only [clV,List.take_succ_cons,List.drop_succ_cons,tgVs_set ss j t hj,List.cons_append]
  rw [show 30 + j * 3 = (tgVs rs).length + j * 3 by omega,show 30 + (j * 3 + 3) = (tgVs rs).length + (j * 3 + 3) by omega,take_add,drop_add,List.take_append_of_le_length (by rw [tgVs_len]; omega),List.drop_append_of_le_length (by rw [tgVs_len]; omega)]
  simp only [List.append_assoc]

theorem clV_toL {d : Bool} {rs ss : List Tg} {cv : Value} (hr : rs.length = 10) (hs : ss.length = 32) : (Tr.ofL 33 (clV d rs ss cv)).toL 32 128 = some (clV d rs ss cv) := by
  have l := clV_len (d := d) (cv := cv) hr hs
  have := toL_of_ofL 31 32 (clV d rs ss cv) (by decide) (by rw [l]; decide)
  rw [l] at this
  exact this

/-! ## the texts -/
theorem tagLine_zero (v : Int) : tagLine v (0,0,0) = [] := by
  unfold tagLine
  rw [show tgZ (0,0,0) = true from rfl]
  rfl
theorem tagLines_zero : ∀ (n b : Nat),tagLines b (List.replicate n (0,0,0)) = []
  | 0,b => rfl
  | n + 1,b => by simp only [List.replicate_succ,tagLines,tagLine_zero,tagLines_zero n (b + 1),List.append_nil]
theorem tagLines_one : ∀ (n b j : Nat) (t : Tg),j < n → tagLines b ((List.replicate n (0,0,0)).set j t) = tagLine (.ofNat (b + j)) t
  | n + 1,b,0,t,h => by simp only [List.replicate_succ,List.set_cons_zero,tagLines,tagLines_zero n (b + 1),List.append_nil,Nat.add_zero]
  | n + 1,b,j + 1,t,h => by
    simp only [List.replicate_succ,List.set_cons_succ,tagLines,tagLine_zero,List.nil_append]
    rw [tagLines_one n (b + 1) j t (by omega),show b + 1 + j = b + (j + 1) by omega]
theorem claim_reg {j : Nat} {t : Tg} (hj : j < 10) : claimT false (rs0.set j t) ss0 [] = tagLine (.ofNat (2 + j)) t := by
  show tagLines 2 (rs0.set j t) ++ tagLines 12 ss0 ++ [] = _
  rw [show tagLines 12 ss0 = [] from tagLines_zero 32 12,List.append_nil,List.append_nil]
  exact tagLines_one 10 2 j t hj
theorem claim_stk {j : Nat} {t : Tg} (hj : j < 32) : claimT false rs0 (ss0.set j t) [] = tagLine (.ofNat (12 + j)) t := by
  show tagLines 2 rs0 ++ tagLines 12 (ss0.set j t) ++ [] = _
  rw [show tagLines 2 rs0 = [] from tagLines_zero 10 2,List.append_nil,List.nil_append]
  exact tagLines_one 32 12 j t hj
theorem set_fits {l : List Tg} {j : Nat} {t : Tg} (h : ∀ u ∈ l,u.fits) (ht : t.fits) : ∀ u ∈ l.set j t,u.fits := fun u hu => by
  rcases List.mem_or_eq_of_mem_set hu with h1 | h1
  · exact h u h1
  · rw [h1]; exact ht
end Go.Proofs.YtaclddcneogolaaGreatDoor

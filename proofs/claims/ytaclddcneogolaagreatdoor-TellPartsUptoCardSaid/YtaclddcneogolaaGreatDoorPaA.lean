/- Laws of the operations in the law TellParts; a claim of one tag. The simulator on the law TellParts: the loops over tags. (Written by genpa.py.) The simulator on the law TellParts: the loop over constraints, and the whole. (Written by genpb.py.) -/
import Derived.Test.YtaclddcneogolaaGreatDoorUnA
set_option linter.unusedVariables false
set_option linter.unusedSimpArgs false
set_option linter.unusedSimpArgs false
set_option linter.unusedVariables false
namespace Go.Proofs.YtaclddcneogolaaGreatDoor
open Go Go.Sim
set_option maxRecDepth 100000
variable {O : Nat → Option (List Value → SHeap → Except String (Value × SHeap))} {ih : K}

def nilS : Value := .slice none 0 0
theorem alloc29 {h : SHeap} : opAlloc ((Eo O).T 29) 29 h = .ok (.value (.pointer (some ⟨h.next, 0, none⟩)), newCells h 29 (clV false rs0 ss0 nilS) false) := by kernel_rfl
theorem ia25 {b o j : Nat} {h : SHeap} (hj : j < 10) : opIndexAddr (Eo O) ((Eo O).T 25) (some (.pointer (some ⟨b, o, none⟩))) (some j) h = .ok (.value (.pointer (some ⟨b, o + j * 3, none⟩)), h) := by
  rw [E25]
  simp only [opIndexAddr, indexTo, E24]
  rw [blt_of hj, cond_true, addrAdd_free]
  rfl
theorem ia26 {b o j : Nat} {h : SHeap} (hj : j < 32) : opIndexAddr (Eo O) ((Eo O).T 26) (some (.pointer (some ⟨b, o, none⟩))) (some j) h = .ok (.value (.pointer (some ⟨b, o + j * 3, none⟩)), h) := by
  rw [E26]
  simp only [opIndexAddr, indexTo, E24]
  rw [blt_of hj, cond_true, addrAdd_free]
  rfl
theorem bi_len9 {ev : Ev} {o : Oper} {ar : Array Operand} {x : Value} {h : SHeap} : opBuiltin (Eo O) ev o ⟨.builtin .len, ar, #[9]⟩ .len (some [x]) h = opLen (Eo O) ev o ((Eo O).T 9) x h := (id rfl)
theorem idx_str {ev : Ev} {op : Oper} {l : List UInt8} {i : Nat} {b : UInt8} {h : SHeap} (hl : l[i]? = some b) : opIndex (Eo O) ev op ((Eo O).T 9) (some (.string ⟨l.toArray⟩)) (some i) h = .ok (.value (.int .u8 (.ofNat b.toNat)), h) := by
  rw [E9]
  simp only [opIndex, hl, valR]
theorem sub_one {E : Env} {ev : Ev} {o : Oper} {t : TypeId} {n : Nat} {h : SHeap} (h0 : 0 < n) (hn : n < 9223372036854775808) : opBin E ev o .sub t (some (.int .i64 (.ofNat n))) (some (.int .i64 1)) h = .ok (.value (.int .i64 (.ofNat (n - 1))), h) := by
  have e : (Int.ofNat n - 1 : Int) = Int.ofNat (n - 1) := by simp only [Int.ofNat_eq_natCast]; omega
  have := bin_i64 (E := E) (ev := ev) (o := o) (op := .sub) (t := t) (x := .ofNat n) (y := 1) (h := h) rfl
  rw [this]
  show Except.ok (SNext.value (.int .i64 (wrapF .i64 (Int.ofNat n - 1))), h) = _
  rw [e, Go.Sim.wrap_small (by omega)]
theorem neq_u8 {E : Env} {ev : Ev} {o : Oper} {t : TypeId} {x y : Int} {h : SHeap} : opBin E ev o .neq t (some (.int .u8 x)) (some (.int .u8 y)) h = .ok (.value (.bool (x != y)), h) := (id rfl)

/-! ## three cells within a row -/
theorem sub_list {c : Tr Value} {l : List Value} {n k : Nat} {x y z : Value} (h : c.toL 32 n = some l) (hk : k + 3 ≤ n) (hn : n ≤ lim) (hl : (l.drop k).take 3 = [x, y, z]) : c.toListFrom k 3 = some [x, y, z] := by
  obtain ⟨h1, h2⟩ := toL_get h
  have g : ∀ r, r < 3 → c.get (k + r) = [x, y, z][r]? := fun r hr => by
    rw [← h2 (k + r) (by omega) (by omega), ← hl, List.getElem?_take_of_lt hr, List.getElem?_drop]
  have g0 : c.get k = some x := g 0 (by decide)
  have g1 : c.get (k + 1) = some y := g 1 (by decide)
  have g2 : c.get (k + 1 + 1) = some z := g 2 (by decide)
  simp only [Tr.toListFrom, forceN_eq, g0, g1, g2]
theorem put3xlist {c : Tr Value} {l : List Value} {n k : Nat} {x y z : Value} (h : c.toL 32 n = some l) (hk : k + 3 ≤ n) (hn : n ≤ lim) :
    (((c.put k (some x)).put (k + 1) (some y)).put (k + 1 + 1) (some z)).toL 32 n = some (l.take k ++ [x, y, z] ++ l.drop (k + 3)) := by
  have hs : ((((c.put k (some x)).put (k + 1) (some y)).put (k + 1 + 1) (some z)).toL 32 n).isSome = true := toL_put (toL_put (toL_put (by rw [h]; rfl)))
  obtain ⟨h1, h2⟩ := toL_get h
  cases hr : (((c.put k (some x)).put (k + 1) (some y)).put (k + 1 + 1) (some z)).toL 32 n with
  | none => rw [hr] at hs; simp at hs
  | some l' =>
    obtain ⟨k1, k2⟩ := toL_get hr
    refine congrArg some (List.ext_getElem? fun i => ?_)
    by_cases hi : i < n
    · rw [k2 i hi (by omega)]
      simp only [get_put]
      rw [List.append_assoc]
      by_cases a : i < k
      · rw [if_neg (by omega), if_neg (by omega), if_neg (by omega), List.getElem?_append_left (by rw [List.length_take]; omega), List.getElem?_take_of_lt a, h2 i hi (by omega)]
      · rw [List.getElem?_append_right (by rw [List.length_take]; omega), List.length_take, Nat.min_eq_left (by omega)]
        by_cases b : i < k + 3
        · rcases (show i = k ∨ i = k + 1 ∨ i = k + 1 + 1 by omega) with rfl | rfl | rfl
          · rw [if_neg (by omega), if_neg (by omega), if_pos ⟨rfl, by omega⟩, Nat.sub_self]; rfl
          · rw [if_neg (by omega), if_pos ⟨rfl, by omega⟩, show k + 1 - k = 1 by omega]; rfl
          · rw [if_pos ⟨rfl, by omega⟩, show k + 1 + 1 - k = 2 by omega]; rfl
        · rw [if_neg (by omega), if_neg (by omega), if_neg (by omega), List.getElem?_append_right (by simp; omega), List.getElem?_drop, ← h2 i hi (by omega)]
          congr 1
          simp only [List.length_cons, List.length_nil]
          omega
    · have e1 : l'[i]? = none := List.getElem?_eq_none (by omega)
      rw [e1, List.getElem?_eq_none]
      simp only [List.length_append, List.length_take, List.length_cons, List.length_nil, List.length_drop]
      omega
theorem store_mid {b p n e : Nat} {x y z : Int} {c : Tr Value} {o : Bool} {h : SHeap} (hb : h.t.get b = some (.cells c n e o false)) (hp : p + 3 ≤ n) :
    opStore (Eo O) 24 (some (.pointer (some ⟨b, p, none⟩))) (some (.agg #[.int .i64 x, .int .i64 y, .int .i64 z])) h = .ok (.value (.tuple #[]), h.set b (some (.cells (((c.put p (some (.int .i64 x))).put (p + 1) (some (.int .i64 y))).put (p + 1 + 1) (some (.int .i64 z))) n e o false))) := by
  unfold opStore storeAt
  simp only [E24, hb]
  rw [show (Value.agg #[Value.int .i64 x, .int .i64 y, .int .i64 z]).cells = #[Value.int .i64 x, .int .i64 y, .int .i64 z] from rfl]
  rw [if_neg (by simp)]
  simp only [storeRange, show Nat.ble (#[Value.int .i64 x, .int .i64 y, .int .i64 z] : Array Value).toList.length 12 = true from rfl, cond_true, show (#[Value.int .i64 x, .int .i64 y, .int .i64 z] : Array Value).toList = [Value.int .i64 x, .int .i64 y, .int .i64 z] from rfl, storeList, blt_of (show p < n by omega), blt_of (show p + 1 < n by omega), blt_of (show p + 1 + 1 < n by omega), force_eq, forceN_eq]

theorem drop_add {α : Type} (a b : List α) (k : Nat) : (a ++ b).drop (a.length + k) = b.drop k := by
  induction a with
  | nil => simp
  | cons x r ih => rw [List.length_cons, show r.length + 1 + k = (r.length + k) + 1 by omega, List.cons_append, List.drop_succ_cons, ih]
theorem take_add {α : Type} (a b : List α) (k : Nat) : (a ++ b).take (a.length + k) = a ++ b.take k := by
  induction a with
  | nil => simp
  | cons x r ih => rw [List.length_cons, show r.length + 1 + k = (r.length + k) + 1 by omega, List.cons_append, List.take_succ_cons, ih, List.cons_append]

/-! ## a claim's list, one tag set -/
theorem tgVs_set : ∀ (l : List Tg) (j : Nat) (t : Tg), j < l.length → tgVs (l.set j t) = (tgVs l).take (j * 3) ++ tgV t ++ (tgVs l).drop (j * 3 + 3)
  | u :: r, 0, t, h => rfl
  | u :: r, j + 1, t, h => by
    have ih := tgVs_set r j t (by simpa using h)
    rw [show (j + 1) * 3 = j * 3 + 1 + 1 + 1 by omega, show j * 3 + 1 + 1 + 1 + 3 = (j * 3 + 3) + 1 + 1 + 1 by omega]
    simp only [List.set_cons_succ, tgVs, ih, List.take_succ_cons, List.drop_succ_cons, List.cons_append]
theorem clV_reg {d : Bool} {rs ss : List Tg} {cv : Value} {j : Nat} {t : Tg} (h : rs[j]? = some t) : ((clV d rs ss cv).drop (1 + j * 3)).take 3 = tgV t := by
  have hj : j < rs.length := (List.getElem?_eq_some_iff.1 h).1
  rw [show 1 + j * 3 = j * 3 + 1 by omega]
  simp only [clV, List.drop_succ_cons]
  rw [List.drop_append_of_le_length (by rw [tgVs_len]; omega), List.take_append_of_le_length (by rw [List.length_drop, tgVs_len]; omega)]
  exact tgVs_at rs j t h
theorem clV_stk {d : Bool} {rs ss : List Tg} {cv : Value} {j : Nat} {t : Tg} (hr : rs.length = 10) (h : ss[j]? = some t) : ((clV d rs ss cv).drop (31 + j * 3)).take 3 = tgV t := by
  have hj : j < ss.length := (List.getElem?_eq_some_iff.1 h).1
  rw [show 31 + j * 3 = (30 + j * 3) + 1 by omega]
  simp only [clV, List.drop_succ_cons]
  have l30 : (tgVs rs).length = 30 := by rw [tgVs_len, hr]
  rw [show 30 + j * 3 = (tgVs rs).length + j * 3 by omega, drop_add, List.drop_append_of_le_length (by rw [tgVs_len]; omega), List.take_append_of_le_length (by rw [List.length_drop, tgVs_len]; omega)]
  exact tgVs_at ss j t h
theorem clV_setr {d : Bool} {rs ss : List Tg} {cv : Value} {j : Nat} {t : Tg} (hj : j < rs.length) : clV d (rs.set j t) ss cv = (clV d rs ss cv).take (1 + j * 3) ++ tgV t ++ (clV d rs ss cv).drop (1 + j * 3 + 3) := by
  rw [show 1 + j * 3 = j * 3 + 1 by omega, show j * 3 + 1 + 3 = (j * 3 + 3) + 1 by omega]
  simp only [clV, List.take_succ_cons, List.drop_succ_cons, tgVs_set rs j t hj, List.cons_append]
  rw [List.take_append_of_le_length (by rw [tgVs_len]; omega), List.drop_append_of_le_length (by rw [tgVs_len]; omega), List.append_assoc]
theorem clV_sets {d : Bool} {rs ss : List Tg} {cv : Value} {j : Nat} {t : Tg} (hr : rs.length = 10) (hj : j < ss.length) : clV d rs (ss.set j t) cv = (clV d rs ss cv).take (31 + j * 3) ++ tgV t ++ (clV d rs ss cv).drop (31 + j * 3 + 3) := by
  have l30 : (tgVs rs).length = 30 := by rw [tgVs_len, hr]
  rw [show 31 + j * 3 = (30 + j * 3) + 1 by omega, show (30 + j * 3) + 1 + 3 = (30 + (j * 3 + 3)) + 1 by omega]
  simp only [clV, List.take_succ_cons, List.drop_succ_cons, tgVs_set ss j t hj, List.cons_append]
  rw [show 30 + j * 3 = (tgVs rs).length + j * 3 by omega, show 30 + (j * 3 + 3) = (tgVs rs).length + (j * 3 + 3) by omega, take_add, drop_add, List.take_append_of_le_length (by rw [tgVs_len]; omega), List.drop_append_of_le_length (by rw [tgVs_len]; omega)]
  simp only [List.append_assoc]

theorem clV_toL {d : Bool} {rs ss : List Tg} {cv : Value} (hr : rs.length = 10) (hs : ss.length = 32) : (Tr.ofL 33 (clV d rs ss cv)).toL 32 128 = some (clV d rs ss cv) := by
  have l := clV_len (d := d) (cv := cv) hr hs
  have := toL_of_ofL 31 32 (clV d rs ss cv) (by decide) (by rw [l]; decide)
  rw [l] at this
  exact this

/-! ## the texts -/
theorem tagLine_zero (v : Int) : tagLine v (0, 0, 0) = [] := by
  unfold tagLine
  rw [show tgZ (0, 0, 0) = true from rfl]
  rfl
theorem tagLines_zero : ∀ (n b : Nat), tagLines b (List.replicate n (0, 0, 0)) = []
  | 0, b => rfl
  | n + 1, b => by simp only [List.replicate_succ, tagLines, tagLine_zero, tagLines_zero n (b + 1), List.append_nil]
theorem tagLines_one : ∀ (n b j : Nat) (t : Tg), j < n → tagLines b ((List.replicate n (0, 0, 0)).set j t) = tagLine (.ofNat (b + j)) t
  | n + 1, b, 0, t, h => by simp only [List.replicate_succ, List.set_cons_zero, tagLines, tagLines_zero n (b + 1), List.append_nil, Nat.add_zero]
  | n + 1, b, j + 1, t, h => by
    simp only [List.replicate_succ, List.set_cons_succ, tagLines, tagLine_zero, List.nil_append]
    rw [tagLines_one n (b + 1) j t (by omega), show b + 1 + j = b + (j + 1) by omega]
theorem claim_reg {j : Nat} {t : Tg} (hj : j < 10) : claimT false (rs0.set j t) ss0 [] = tagLine (.ofNat (2 + j)) t := by
  show tagLines 2 (rs0.set j t) ++ tagLines 12 ss0 ++ [] = _
  rw [show tagLines 12 ss0 = [] from tagLines_zero 32 12, List.append_nil, List.append_nil]
  exact tagLines_one 10 2 j t hj
theorem claim_stk {j : Nat} {t : Tg} (hj : j < 32) : claimT false rs0 (ss0.set j t) [] = tagLine (.ofNat (12 + j)) t := by
  show tagLines 2 rs0 ++ tagLines 12 (ss0.set j t) ++ [] = _
  rw [show tagLines 2 rs0 = [] from tagLines_zero 10 2, List.append_nil, List.nil_append]
  exact tagLines_one 32 12 j t hj
theorem set_fits {l : List Tg} {j : Nat} {t : Tg} (h : ∀ u ∈ l, u.fits) (ht : t.fits) : ∀ u ∈ l.set j t, u.fits := fun u hu => by
  rcases List.mem_or_eq_of_mem_set hu with h1 | h1
  · exact h u h1
  · rw [h1]; exact ht
end Go.Proofs.YtaclddcneogolaaGreatDoor

set_option linter.unusedSimpArgs false
set_option linter.unusedVariables false
namespace Go.Proofs.YtaclddcneogolaaGreatDoor
open Go Go.Sim
set_option maxRecDepth 100000
set_option maxHeartbeats 1000000

noncomputable def paX : Code := cI (cI (cB (cA (cB (cB (cB (cB (cF Tryz.f5))))))))
noncomputable def paY : Code := cI (cI (cB (cA (cB (cB (cB (cB (cB (cF Tryz.f5)))))))))
noncomputable def paZ : Code := cI (cI (cB (cA (cB (cB (cB (cB (cB (cB (cF Tryz.f5))))))))))

structure PaI (h1 : SHeap) (C : Nat) (v : Tmp) (text : List UInt8) (n0 : Nat) (j : Nat) (st : St) : Prop where
  ds : st.defers = []
  t1 : st.tm.get 1 = some (.pointer (some ⟨C, 0, none⟩))
  t3 : st.tm.get 3 = some (.string ⟨text.toArray⟩)
  tv : st.tm.get v = some (.int .i64 (.ofNat j))
  le : h1.next ≤ st.h.next
  low : ∀ x, x < h1.next → st.h.t.get x = h1.t.get x
  next : st.h.next ≤ n0 + 2100 * j
theorem tabOU {h : SHeap} (h1 : h.t.get 0 = h0.t.get 0) : tabOK (h.t.get 0) = true := by
  rw [h1, show h0.t.get 0 = some powM.obj by kernel_rfl]; exact tab0

/-! ## the loop over the registers -/
theorem paX_in {k : Nat} {h1 : SHeap} {C : Nat} {rs ss : List Tg} {cv : Value} {cb : Tr Value} {e n0 : Nat} {q r : Bool} {pre : List UInt8} (hrs : rs.length = 10) (hss : ss.length = 32) (fits : ∀ t ∈ rs, t.fits)
    (hC : h1.t.get C = some (.cells cb 128 e q r)) (hcb : cb.toL 32 128 = some (clV false rs ss cv)) (hC1 : C < h1.next) (h01 : 0 < h1.next) (tab : h1.t.get 0 = h0.t.get 0) (hlim : n0 + 2100 * 10 + 60000 ≤ lim) (hpre : pre.length ≤ 100000)
    (j : Nat) (hj : j < 10) (st : St) (hS : PaI h1 C 4 (pre ++ tagLines 2 (rs.take j)) n0 j st) :
    ∃ st', codeS paX (Eo OU) (run (Eo OU) (k + 6)) ⟨5, 80, .normal, none⟩ st = .ok (.normal, st') ∧ PaI h1 C 4 (pre ++ tagLines 2 (rs.take (j + 1))) n0 (j + 1) st' := by
  obtain ⟨tm, ⟨G, n⟩, dd⟩ := st
  obtain ⟨hd, t1, t3, tv, le, low, hnx⟩ := hS
  simp only at hd t1 t3 tv le low hnx
  subst hd
  have hlim' : lim = 4294967296 := rfl
  obtain ⟨t, ht⟩ : ∃ t, rs[j]? = some t := ⟨rs[j], List.getElem?_eq_getElem (by omega)⟩
  have hft : t.fits := fits t (List.mem_of_getElem? ht)
  have hj' : decide (Int.ofNat j < 10) = true := decide_eq_true (by show (j : Int) < 10; omega)
  have hj2 : wrapF .i64 (Int.ofNat j + 1) = Int.ofNat (j + 1) := Go.Sim.wrap_small (m := j + 1) (by omega)
  have htk : rs.take (j + 1) = rs.take j ++ [t] := by rw [List.take_add_one, ht]; rfl
  -- the new claim
  obtain ⟨hA, eA⟩ : ∃ hA, hA = newCells ⟨G, n⟩ 29 (clV false rs0 ss0 nilS) false := ⟨_, rfl⟩
  have nA : hA.next = n + 1 := by rw [eA]; rfl
  have lowA : ∀ x, x < n → hA.t.get x = G.get x := fun x hx => by rw [eA]; exact new_low (h := ⟨G, n⟩) (show x ≠ n by omega)
  have gA : hA.t.get n = some (.cells (Tr.ofL 33 (clV false rs0 ss0 nilS)) 128 29 false false) := by
    rw [eA]
    exact box_get (t := 29) (l := clV false rs0 ss0 nilS) (o := false) (h := ⟨G, n⟩) (show n < lim by omega)
  have gC : hA.t.get C = some (.cells cb 128 e q r) := by rw [lowA C (by omega), low C hC1]; exact hC
  have al : opAlloc ((Eo OU).T 29) 29 ⟨G, n⟩ = .ok (.value (.pointer (some ⟨n, 0, none⟩)), hA) := by rw [eA]; exact alloc29
  have lt : opLoad (Eo OU) 24 (some (.pointer (some ⟨C, 0 + 1 + j * 3, none⟩))) hA = .ok (.value (tgA t), hA) :=
    load_tri T24l gC (sub_list hcb (by omega) (by decide) (by rw [Nat.zero_add]; exact clV_reg ht))
  obtain ⟨hB, eB⟩ : ∃ hB, hB = hA.set n (some (.cells ((((Tr.ofL 33 (clV false rs0 ss0 nilS)).put (0 + 1 + j * 3) (some (.int .i64 t.1))).put (0 + 1 + j * 3 + 1) (some (.int .i64 t.2.1))).put (0 + 1 + j * 3 + 1 + 1) (some (.int .i64 t.2.2))) 128 29 false false)) := ⟨_, rfl⟩
  have st1 : opStore (Eo OU) 24 (some (.pointer (some ⟨n, 0 + 1 + j * 3, none⟩))) (some (tgA t)) hA = .ok (.value (.tuple #[]), hB) := by
    rw [eB]; exact store_mid gA (by omega)
  have nB : hB.next = n + 1 := by rw [eB]; exact nA
  have lowB : ∀ x, x < n → hB.t.get x = G.get x := fun x hx => by
    rw [eB]; simp only [SHeap.set, get_put]; rw [if_neg (by omega)]; exact lowA x hx
  have gB : hB.t.get n = some (.cells ((((Tr.ofL 33 (clV false rs0 ss0 nilS)).put (0 + 1 + j * 3) (some (.int .i64 t.1))).put (0 + 1 + j * 3 + 1) (some (.int .i64 t.2.1))).put (0 + 1 + j * 3 + 1 + 1) (some (.int .i64 t.2.2))) 128 29 false false) := by
    rw [eB]; simp only [SHeap.set, get_put]; exact if_pos ⟨trivial, by omega⟩
  have tB : ((((Tr.ofL 33 (clV false rs0 ss0 nilS)).put (0 + 1 + j * 3) (some (.int .i64 t.1))).put (0 + 1 + j * 3 + 1) (some (.int .i64 t.2.1))).put (0 + 1 + j * 3 + 1 + 1) (some (.int .i64 t.2.2))).toL 32 128 = some (clV false (rs0.set j t) ss0 nilS) := by
    rw [put3xlist (clV_toL rfl rfl) (by omega) (by decide), clV_setr (rs := rs0) (show j < 10 from hj)]
    rw [Nat.zero_add]; rfl
  have l29 := load_many (O := OU) (k := 0) (h := hB) E29 (by decide) E29a gB tB (by decide) (by decide)
  replace l29 : opLoad (Eo OU) 29 (some (.pointer (some ⟨n, 0, none⟩))) hB = .ok (.value (.agg (clV false (rs0.set j t) ss0 nilS).toArray), hB) := by
    rw [List.drop_zero, List.take_of_length_le (by rw [clV_len (by rw [List.length_set]; rfl) rfl]; decide)] at l29
    exact l29
  obtain ⟨h3, c1, c2, c3, c4⟩ := claim_run (O := OU) (k := k) rfl rfl rfl rfl rfl rfl rfl rfl rfl rfl rfl rfl (h := hB) (d := false) (rs := rs0.set j t) (ss := ss0) (cs := []) (cv := nilS) (by rw [List.length_set]; rfl) rfl (set_fits rs0xfits hft) ss0xfits (by intro u hu; simp at hu) (by decide) (by simp only [List.length_nil]; omega)
    (.inl ⟨none, 0, rfl, rfl⟩) (tabOU (by rw [lowB 0 (by omega), low 0 h01]; exact tab)) (by omega)
  rw [claim_reg hj] at c1
  simp only [List.length_nil] at c3
  have len1 := tagLines_len (rs.take (j + 1)) 2 (fun u hu => fits u (List.mem_of_mem_take hu)) (by rw [List.length_take]; omega)
  rw [htk, tagLines_snoc, List.length_take, Nat.min_eq_left (by omega)] at len1
  simp only [List.length_append, List.length_take, List.length_cons, List.length_nil] at len1
  rw [Nat.min_eq_left (by omega)] at len1
  have ad := fun (ev : Ev) (o : Oper) => add_str (E := Eo OU) (ev := ev) (o := o) (t := 9) (x := pre ++ tagLines 2 (rs.take j)) (y := tagLine (.ofNat (2 + j)) t) (h := h3) (by rw [List.length_append]; omega)
  have ia := fun (h : SHeap) (b o : Nat) => ia25 (O := OU) (b := b) (o := o) (h := h) hj
  generalize hr : codeS paX (Eo OU) (run (Eo OU) (k + 6)) ⟨5, 80, .normal, none⟩ ⟨tm, ⟨G, n⟩, []⟩ = r
  unfold paX at hr
  simp only [Tryz.f5, cF, Option.getD, cA, cB, cI, codeS, cSeq_run, cCond_run, cRegion_run, cRegion_draw, cBlock_run, cSkip_run, cRet_run, cExit_run, opsS_nil, opsS_run, opS_free, thenS_normal, thenS_ret, thenS_exit, exitBlock_normal, exitBlock_ret, exitBlock_exit, normalS_ok, dispatch, dMove, opMove, evT_tmp, evT_int, evT_bool, evT_str, dBin, dUn, dAlloc, lss_i64, add_i64, valR, afterS_value, putT_some, putT_none, get_put, lim, Nat.reduceLT, Nat.reduceEqDiff, and_true, if_true, if_false, reduceIte, false_and, true_and, Nat.beq, cond_true, cond_false,
      dIndexAddr, dFieldAddr, dLoad, dStore, Option.bind_some, natOf_int, addrAdd_free, List.getElem?_toArray, List.getElem?_cons_succ, List.getElem?_cons_zero, List.drop_succ_cons, List.drop_zero, dPick, pick_true, pick_false, opS_guard, wantedS_none, wantedS_some, dIndex, dBuild, dBuildSlice, dCall, evParts, evList, show (true == true) = true from rfl, show (false == true) = false from rfl, show (true == false) = false from rfl, show (false == false) = true from rfl, Bool.and_self, Bool.not_true, Bool.not_false, not_b, afterS_enter, call_fn en9, fa29b, t1, t3, tv, hj', hj2, al, ia, lt, st1, l29, c1, ad] at hr
  subst hr
  refine ⟨_, rfl, rfl, ?_, ?_, ?_, ?_, fun x hx => ?_, ?_⟩
  · simp [get_put, lim, t1]
  · rw [htk, tagLines_snoc, List.length_take, Nat.min_eq_left (by omega)]
    simp [get_put, lim]
  · simp [get_put, lim]
  · show h1.next ≤ h3.next
    omega
  · show h3.t.get x = _
    rw [c4 x (by omega), lowB x (by omega), low x hx]
  · show h3.next ≤ _
    omega

theorem paX_end {ih : K} {h1 : SHeap} {C : Nat} {text : List UInt8} {n0 : Nat} (st : St) (hS : PaI h1 C 4 text n0 10 st) :
    ∃ st', codeS paX (Eo OU) ih ⟨5, 80, .normal, none⟩ st = .ok (.exit 0, st') ∧ PaI h1 C 4 text n0 10 st' := by
  obtain ⟨tm, ⟨G, n⟩, dd⟩ := st
  obtain ⟨hd, t1, t3, tv, le, low, hnx⟩ := hS
  simp only at hd t1 t3 tv le low hnx
  subst hd
  have hj' : decide (Int.ofNat 10 < 10) = false := by decide
  generalize hr : codeS paX (Eo OU) ih ⟨5, 80, .normal, none⟩ ⟨tm, ⟨G, n⟩, []⟩ = r
  unfold paX at hr
  simp only [Tryz.f5, cF, Option.getD, cA, cB, cI, codeS, cSeq_run, cCond_run, cRegion_run, cRegion_draw, cBlock_run, cSkip_run, cRet_run, cExit_run, opsS_nil, opsS_run, opS_free, thenS_normal, thenS_ret, thenS_exit, exitBlock_normal, exitBlock_ret, exitBlock_exit, normalS_ok, dispatch, dMove, opMove, evT_tmp, evT_int, evT_bool, evT_str, dBin, dUn, dAlloc, lss_i64, add_i64, valR, afterS_value, putT_some, putT_none, get_put, lim, Nat.reduceLT, Nat.reduceEqDiff, and_true, if_true, if_false, reduceIte, false_and, true_and, Nat.beq, cond_true, cond_false,
      dIndexAddr, dFieldAddr, dLoad, dStore, Option.bind_some, natOf_int, addrAdd_free, List.getElem?_toArray, List.getElem?_cons_succ, List.getElem?_cons_zero, List.drop_succ_cons, List.drop_zero, dPick, pick_true, pick_false, opS_guard, wantedS_none, wantedS_some, dIndex, dBuild, dBuildSlice, dCall, evParts, evList, show (true == true) = true from rfl, show (false == true) = false from rfl, show (true == false) = false from rfl, show (false == false) = true from rfl, Bool.and_self, Bool.not_true, Bool.not_false, not_b, afterS_enter, call_fn en9, t1, t3, tv, hj'] at hr
  subst hr
  refine ⟨_, rfl, rfl, ?_, ?_, ?_, le, low, hnx⟩
  · simp [get_put, lim, t1]
  · simp [get_put, lim, t3]
  · simp [get_put, lim, tv]

/-! ## the loop over the stack -/
theorem paY_in {k : Nat} {h1 : SHeap} {C : Nat} {rs ss : List Tg} {cv : Value} {cb : Tr Value} {e n0 : Nat} {q r : Bool} {pre : List UInt8} (hrs : rs.length = 10) (hss : ss.length = 32) (fits : ∀ t ∈ ss, t.fits)
    (hC : h1.t.get C = some (.cells cb 128 e q r)) (hcb : cb.toL 32 128 = some (clV false rs ss cv)) (hC1 : C < h1.next) (h01 : 0 < h1.next) (tab : h1.t.get 0 = h0.t.get 0) (hlim : n0 + 2100 * 32 + 60000 ≤ lim) (hpre : pre.length ≤ 100000)
    (j : Nat) (hj : j < 32) (st : St) (hS : PaI h1 C 6 (pre ++ tagLines 12 (ss.take j)) n0 j st) :
    ∃ st', codeS paY (Eo OU) (run (Eo OU) (k + 6)) ⟨5, 80, .normal, none⟩ st = .ok (.normal, st') ∧ PaI h1 C 6 (pre ++ tagLines 12 (ss.take (j + 1))) n0 (j + 1) st' := by
  obtain ⟨tm, ⟨G, n⟩, dd⟩ := st
  obtain ⟨hd, t1, t3, tv, le, low, hnx⟩ := hS
  simp only at hd t1 t3 tv le low hnx
  subst hd
  have hlim' : lim = 4294967296 := rfl
  obtain ⟨t, ht⟩ : ∃ t, ss[j]? = some t := ⟨ss[j], List.getElem?_eq_getElem (by omega)⟩
  have hft : t.fits := fits t (List.mem_of_getElem? ht)
  have hj' : decide (Int.ofNat j < 32) = true := decide_eq_true (by show (j : Int) < 32; omega)
  have hj2 : wrapF .i64 (Int.ofNat j + 1) = Int.ofNat (j + 1) := Go.Sim.wrap_small (m := j + 1) (by omega)
  have htk : ss.take (j + 1) = ss.take j ++ [t] := by rw [List.take_add_one, ht]; rfl
  -- the new claim
  obtain ⟨hA, eA⟩ : ∃ hA, hA = newCells ⟨G, n⟩ 29 (clV false rs0 ss0 nilS) false := ⟨_, rfl⟩
  have nA : hA.next = n + 1 := by rw [eA]; rfl
  have lowA : ∀ x, x < n → hA.t.get x = G.get x := fun x hx => by rw [eA]; exact new_low (h := ⟨G, n⟩) (show x ≠ n by omega)
  have gA : hA.t.get n = some (.cells (Tr.ofL 33 (clV false rs0 ss0 nilS)) 128 29 false false) := by
    rw [eA]
    exact box_get (t := 29) (l := clV false rs0 ss0 nilS) (o := false) (h := ⟨G, n⟩) (show n < lim by omega)
  have gC : hA.t.get C = some (.cells cb 128 e q r) := by rw [lowA C (by omega), low C hC1]; exact hC
  have al : opAlloc ((Eo OU).T 29) 29 ⟨G, n⟩ = .ok (.value (.pointer (some ⟨n, 0, none⟩)), hA) := by rw [eA]; exact alloc29
  have lt : opLoad (Eo OU) 24 (some (.pointer (some ⟨C, 0 + 31 + j * 3, none⟩))) hA = .ok (.value (tgA t), hA) :=
    load_tri T24l gC (sub_list hcb (by omega) (by decide) (by rw [Nat.zero_add]; exact clV_stk hrs ht))
  obtain ⟨hB, eB⟩ : ∃ hB, hB = hA.set n (some (.cells ((((Tr.ofL 33 (clV false rs0 ss0 nilS)).put (0 + 31 + j * 3) (some (.int .i64 t.1))).put (0 + 31 + j * 3 + 1) (some (.int .i64 t.2.1))).put (0 + 31 + j * 3 + 1 + 1) (some (.int .i64 t.2.2))) 128 29 false false)) := ⟨_, rfl⟩
  have st1 : opStore (Eo OU) 24 (some (.pointer (some ⟨n, 0 + 31 + j * 3, none⟩))) (some (tgA t)) hA = .ok (.value (.tuple #[]), hB) := by
    rw [eB]; exact store_mid gA (by omega)
  have nB : hB.next = n + 1 := by rw [eB]; exact nA
  have lowB : ∀ x, x < n → hB.t.get x = G.get x := fun x hx => by
    rw [eB]; simp only [SHeap.set, get_put]; rw [if_neg (by omega)]; exact lowA x hx
  have gB : hB.t.get n = some (.cells ((((Tr.ofL 33 (clV false rs0 ss0 nilS)).put (0 + 31 + j * 3) (some (.int .i64 t.1))).put (0 + 31 + j * 3 + 1) (some (.int .i64 t.2.1))).put (0 + 31 + j * 3 + 1 + 1) (some (.int .i64 t.2.2))) 128 29 false false) := by
    rw [eB]; simp only [SHeap.set, get_put]; exact if_pos ⟨trivial, by omega⟩
  have tB : ((((Tr.ofL 33 (clV false rs0 ss0 nilS)).put (0 + 31 + j * 3) (some (.int .i64 t.1))).put (0 + 31 + j * 3 + 1) (some (.int .i64 t.2.1))).put (0 + 31 + j * 3 + 1 + 1) (some (.int .i64 t.2.2))).toL 32 128 = some (clV false rs0 (ss0.set j t) nilS) := by
    rw [put3xlist (clV_toL rfl rfl) (by omega) (by decide), clV_sets (ss := ss0) rfl (show j < 32 from hj)]
    rw [Nat.zero_add]; rfl
  have l29 := load_many (O := OU) (k := 0) (h := hB) E29 (by decide) E29a gB tB (by decide) (by decide)
  replace l29 : opLoad (Eo OU) 29 (some (.pointer (some ⟨n, 0, none⟩))) hB = .ok (.value (.agg (clV false rs0 (ss0.set j t) nilS).toArray), hB) := by
    rw [List.drop_zero, List.take_of_length_le (by rw [clV_len rfl (by rw [List.length_set]; rfl)]; decide)] at l29
    exact l29
  obtain ⟨h3, c1, c2, c3, c4⟩ := claim_run (O := OU) (k := k) rfl rfl rfl rfl rfl rfl rfl rfl rfl rfl rfl rfl (h := hB) (d := false) (rs := rs0) (ss := ss0.set j t) (cs := []) (cv := nilS) rfl (by rw [List.length_set]; rfl) rs0xfits (set_fits ss0xfits hft) (by intro u hu; simp at hu) (by decide) (by simp only [List.length_nil]; omega)
    (.inl ⟨none, 0, rfl, rfl⟩) (tabOU (by rw [lowB 0 (by omega), low 0 h01]; exact tab)) (by omega)
  rw [claim_stk hj] at c1
  simp only [List.length_nil] at c3
  have len1 := tagLines_len (ss.take (j + 1)) 12 (fun u hu => fits u (List.mem_of_mem_take hu)) (by rw [List.length_take]; omega)
  rw [htk, tagLines_snoc, List.length_take, Nat.min_eq_left (by omega)] at len1
  simp only [List.length_append, List.length_take, List.length_cons, List.length_nil] at len1
  rw [Nat.min_eq_left (by omega)] at len1
  have ad := fun (ev : Ev) (o : Oper) => add_str (E := Eo OU) (ev := ev) (o := o) (t := 9) (x := pre ++ tagLines 12 (ss.take j)) (y := tagLine (.ofNat (12 + j)) t) (h := h3) (by rw [List.length_append]; omega)
  have ia := fun (h : SHeap) (b o : Nat) => ia26 (O := OU) (b := b) (o := o) (h := h) hj
  generalize hr : codeS paY (Eo OU) (run (Eo OU) (k + 6)) ⟨5, 80, .normal, none⟩ ⟨tm, ⟨G, n⟩, []⟩ = r
  unfold paY at hr
  simp only [Tryz.f5, cF, Option.getD, cA, cB, cI, codeS, cSeq_run, cCond_run, cRegion_run, cRegion_draw, cBlock_run, cSkip_run, cRet_run, cExit_run, opsS_nil, opsS_run, opS_free, thenS_normal, thenS_ret, thenS_exit, exitBlock_normal, exitBlock_ret, exitBlock_exit, normalS_ok, dispatch, dMove, opMove, evT_tmp, evT_int, evT_bool, evT_str, dBin, dUn, dAlloc, lss_i64, add_i64, valR, afterS_value, putT_some, putT_none, get_put, lim, Nat.reduceLT, Nat.reduceEqDiff, and_true, if_true, if_false, reduceIte, false_and, true_and, Nat.beq, cond_true, cond_false,
      dIndexAddr, dFieldAddr, dLoad, dStore, Option.bind_some, natOf_int, addrAdd_free, List.getElem?_toArray, List.getElem?_cons_succ, List.getElem?_cons_zero, List.drop_succ_cons, List.drop_zero, dPick, pick_true, pick_false, opS_guard, wantedS_none, wantedS_some, dIndex, dBuild, dBuildSlice, dCall, evParts, evList, show (true == true) = true from rfl, show (false == true) = false from rfl, show (true == false) = false from rfl, show (false == false) = true from rfl, Bool.and_self, Bool.not_true, Bool.not_false, not_b, afterS_enter, call_fn en9, fa29c, t1, t3, tv, hj', hj2, al, ia, lt, st1, l29, c1, ad] at hr
  subst hr
  refine ⟨_, rfl, rfl, ?_, ?_, ?_, ?_, fun x hx => ?_, ?_⟩
  · simp [get_put, lim, t1]
  · rw [htk, tagLines_snoc, List.length_take, Nat.min_eq_left (by omega)]
    simp [get_put, lim]
  · simp [get_put, lim]
  · show h1.next ≤ h3.next
    omega
  · show h3.t.get x = _
    rw [c4 x (by omega), lowB x (by omega), low x hx]
  · show h3.next ≤ _
    omega

theorem paY_end {ih : K} {h1 : SHeap} {C : Nat} {text : List UInt8} {n0 : Nat} (st : St) (hS : PaI h1 C 6 text n0 32 st) :
    ∃ st', codeS paY (Eo OU) ih ⟨5, 80, .normal, none⟩ st = .ok (.exit 2, st') ∧ PaI h1 C 6 text n0 32 st' := by
  obtain ⟨tm, ⟨G, n⟩, dd⟩ := st
  obtain ⟨hd, t1, t3, tv, le, low, hnx⟩ := hS
  simp only at hd t1 t3 tv le low hnx
  subst hd
  have hj' : decide (Int.ofNat 32 < 32) = false := by decide
  generalize hr : codeS paY (Eo OU) ih ⟨5, 80, .normal, none⟩ ⟨tm, ⟨G, n⟩, []⟩ = r
  unfold paY at hr
  simp only [Tryz.f5, cF, Option.getD, cA, cB, cI, codeS, cSeq_run, cCond_run, cRegion_run, cRegion_draw, cBlock_run, cSkip_run, cRet_run, cExit_run, opsS_nil, opsS_run, opS_free, thenS_normal, thenS_ret, thenS_exit, exitBlock_normal, exitBlock_ret, exitBlock_exit, normalS_ok, dispatch, dMove, opMove, evT_tmp, evT_int, evT_bool, evT_str, dBin, dUn, dAlloc, lss_i64, add_i64, valR, afterS_value, putT_some, putT_none, get_put, lim, Nat.reduceLT, Nat.reduceEqDiff, and_true, if_true, if_false, reduceIte, false_and, true_and, Nat.beq, cond_true, cond_false,
      dIndexAddr, dFieldAddr, dLoad, dStore, Option.bind_some, natOf_int, addrAdd_free, List.getElem?_toArray, List.getElem?_cons_succ, List.getElem?_cons_zero, List.drop_succ_cons, List.drop_zero, dPick, pick_true, pick_false, opS_guard, wantedS_none, wantedS_some, dIndex, dBuild, dBuildSlice, dCall, evParts, evList, show (true == true) = true from rfl, show (false == true) = false from rfl, show (true == false) = false from rfl, show (false == false) = true from rfl, Bool.and_self, Bool.not_true, Bool.not_false, not_b, afterS_enter, call_fn en9, t1, t3, tv, hj'] at hr
  subst hr
  refine ⟨_, rfl, rfl, ?_, ?_, ?_, le, low, hnx⟩
  · simp [get_put, lim, t1]
  · simp [get_put, lim, t3]
  · simp [get_put, lim, tv]
end Go.Proofs.YtaclddcneogolaaGreatDoor

set_option linter.unusedSimpArgs false
set_option linter.unusedVariables false
namespace Go.Proofs.YtaclddcneogolaaGreatDoor
open Go Go.Sim
set_option maxRecDepth 100000
set_option maxHeartbeats 1000000

theorem conLine_last (c : Tg) : (conLine c)[(conLine c).length - 1]? = some 10 := by
  unfold conLine
  rw [List.length_append, List.length_cons, List.length_nil, List.getElem?_append_right (by omega)]
  rw [show (boundT c.1 c.2.1 c.2.2).length + (0 + 1) - 1 - (boundT c.1 c.2.1 c.2.2).length = 0 by omega]
  rfl
theorem conLine_len {c : Tg} (hc : c.fits) : 7 ≤ (conLine c).length ∧ (conLine c).length ≤ 200 := by
  have := bound_len hc
  unfold conLine
  rw [List.length_append, List.length_cons, List.length_nil]
  omega
theorem ten_neq : (Int.ofNat (UInt8.toNat 10) != 10) = false := by decide

theorem paZ_in {k : Nat} {h1 : SHeap} {C : Nat} {rs ss cs : List Tg} {cv : Value} {cb : Tr Value} {x : SObj} {e n0 S o cap : Nat} {q r : Bool} {pre : List UInt8} (hrs : rs.length = 10) (hss : ss.length = 32) (fits : ∀ t ∈ cs, t.fits) (hcs : cs.length ≤ 300000)
    (hC : h1.t.get C = some (.cells cb 128 e q r)) (hcb : cb.toL 32 128 = some (clV false rs ss cv)) (hC1 : C < h1.next) (h01 : 0 < h1.next) (tab : h1.t.get 0 = h0.t.get 0) (hlim : n0 + 2100 * cs.length + 60000 ≤ lim) (hpre : pre.length ≤ 100000)
    (hsv : cv = .slice (some ⟨S, o, none⟩) cs.length cap) (hS1 : S < h1.next) (hSg : h1.t.get S = some x) (hct : ∀ j c, cs[j]? = some c → rowHas x (o + j * 3) [.int .i64 c.1, .int .i64 c.2.1, .int .i64 c.2.2])
    (j : Nat) (hj : j < cs.length) (st : St) (hS : PaI h1 C 8 (pre ++ conLines (cs.take j)) n0 j st) :
    ∃ st', codeS paZ (Eo OU) (run (Eo OU) (k + 6)) ⟨5, 80, .normal, none⟩ st = .ok (.normal, st') ∧ PaI h1 C 8 (pre ++ conLines (cs.take (j + 1))) n0 (j + 1) st' := by
  obtain ⟨tm, ⟨G, n⟩, dd⟩ := st
  obtain ⟨hd, t1, t3, tv, le, low, hnx⟩ := hS
  simp only at hd t1 t3 tv le low hnx
  subst hd
  have hlim' : lim = 4294967296 := rfl
  obtain ⟨c, hc⟩ : ∃ c, cs[j]? = some c := ⟨cs[j], List.getElem?_eq_getElem hj⟩
  have hfc : c.fits := fits c (List.mem_of_getElem? hc)
  have hj' : decide (Int.ofNat j < Int.ofNat cs.length) = true := decide_eq_true (by show (j : Int) < (cs.length : Int); omega)
  have hj2 : wrapF .i64 (Int.ofNat j + 1) = Int.ofNat (j + 1) := Go.Sim.wrap_small (m := j + 1) (by omega)
  have htk : cs.take (j + 1) = cs.take j ++ [c] := by rw [List.take_add_one, hc]; rfl
  obtain ⟨_, hget⟩ := toL_get hcb
  have c127 : cb.get 127 = some cv := by rw [← hget 127 (by decide) (by decide)]; exact clV_cons hrs hss
  have gC : (⟨G, n⟩ : SHeap).t.get C = some (.cells cb 128 e q r) := by rw [low C hC1]; exact hC
  have gS : (⟨G, n⟩ : SHeap).t.get S = some x := by rw [low S hS1]; exact hSg
  have l27 : opLoad (Eo OU) 27 (some (.pointer (some ⟨C, 0 + 127, none⟩))) ⟨G, n⟩ = .ok (.value cv, ⟨G, n⟩) := load_one (E := Eo OU) E27 rfl gC (show cb.get (0 + 127) = _ from c127)
  have l32 : opLoad (Eo OU) 32 (some (.pointer (some ⟨S, o + j * 3, none⟩))) ⟨G, n⟩ = .ok (.value (cnA c), ⟨G, n⟩) := load_row T32l gS (hct j c hc)
  obtain ⟨hA, eA⟩ : ∃ hA, hA = bx ⟨G, n⟩ c := ⟨_, rfl⟩
  have nA : hA.next = n + 1 := by rw [eA]; rfl
  have lowA : ∀ x, x < n → hA.t.get x = G.get x := fun x hx => by rw [eA]; exact new_low (h := ⟨G, n⟩) (show x ≠ n by omega)
  have gA : hA.t.get n = some (.cells (Tr.ofL 33 [Value.int .i64 c.1, .int .i64 c.2.1, .int .i64 c.2.2]) 3 32 false false) := by
    rw [eA]; exact box_get (t := 32) (l := [.int .i64 c.1, .int .i64 c.2.1, .int .i64 c.2.2]) (o := false) (h := ⟨G, n⟩) (show n < lim by omega)
  have b3 : opBuildSlice (Eo OU) ((Eo OU).T 27) 1 (some [(0, cnA c)]) ⟨G, n⟩ = .ok (.value (slc1 n), hA) := by rw [eA]; exact bs27
  obtain ⟨h3, c1, c2, c3, c4⟩ := claim_run (O := OU) (k := k) rfl rfl rfl rfl rfl rfl rfl rfl rfl rfl rfl rfl (h := hA) (d := false) (rs := rs0) (ss := ss0) (cs := [c]) (cv := slc1 n) rfl rfl rs0xfits ss0xfits (fun t ht => by rw [List.mem_singleton.1 ht]; exact hfc) (show 1 ≤ 300000 by decide) (by simp only [List.length_cons, List.length_nil]; omega)
    (.inr ⟨n, 0, 1, _, rfl, by omega, gA, fun i u hi => by
      cases i with
      | zero => obtain rfl := Option.some.inj hi; exact list3
      | succ i => simp at hi⟩) (tabOU (by rw [lowA 0 (by omega), low 0 h01]; exact tab)) (by omega)
  rw [claim_one] at c1
  simp only [List.length_cons, List.length_nil] at c3
  have len0 := conLines_len (cs.take j) (fun u hu => fits u (List.mem_of_mem_take hu))
  rw [List.length_take, Nat.min_eq_left (by omega)] at len0
  obtain ⟨lc1, lc2⟩ := conLine_len hfc
  have h7 : decide (Int.ofNat (conLine c).length < 7) = false := decide_eq_false (by show ¬ ((conLine c).length : Int) < 7; omega)
  have ad := fun (ev : Ev) (o : Oper) => add_str (E := Eo OU) (ev := ev) (o := o) (t := 9) (x := pre ++ conLines (cs.take j)) (y := conLine c) (h := h3) (by rw [List.length_append]; omega)
  have ia := ia27 (O := OU) (S := S) (o := o) (cap := cap) (h := ⟨G, n⟩) hj
  have sb := fun (ev : Ev) (o : Oper) (t : TypeId) => sub_one (E := Eo OU) (ev := ev) (o := o) (t := t) (n := (conLine c).length) (h := h3) (by omega) (by omega)
  have ix := fun (ev : Ev) (o : Oper) => idx_str (O := OU) (ev := ev) (op := o) (h := h3) (conLine_last c)
  subst hsv
  generalize hr : codeS paZ (Eo OU) (run (Eo OU) (k + 6)) ⟨5, 80, .normal, none⟩ ⟨tm, ⟨G, n⟩, []⟩ = r
  unfold paZ at hr
  simp only [Tryz.f5, cF, Option.getD, cA, cB, cI, codeS, cSeq_run, cCond_run, cRegion_run, cRegion_draw, cBlock_run, cSkip_run, cRet_run, cExit_run, opsS_nil, opsS_run, opS_free, thenS_normal, thenS_ret, thenS_exit, exitBlock_normal, exitBlock_ret, exitBlock_exit, normalS_ok, dispatch, dMove, opMove, evT_tmp, evT_int, evT_bool, evT_str, dBin, dUn, dAlloc, lss_i64, add_i64, valR, afterS_value, putT_some, putT_none, get_put, lim, Nat.reduceLT, Nat.reduceEqDiff, and_true, if_true, if_false, reduceIte, false_and, true_and, Nat.beq, cond_true, cond_false,
      dIndexAddr, dFieldAddr, dLoad, dStore, Option.bind_some, natOf_int, addrAdd_free, List.getElem?_toArray, List.getElem?_cons_succ, List.getElem?_cons_zero, List.drop_succ_cons, List.drop_zero, dPick, pick_true, pick_false, opS_guard, wantedS_none, wantedS_some, dIndex, dBuild, dBuildSlice, dCall, evParts, evList, show (true == true) = true from rfl, show (false == true) = false from rfl, show (true == false) = false from rfl, show (false == false) = true from rfl, Bool.and_self, Bool.not_true, Bool.not_false, not_b, afterS_enter, call_fn en9, call_fn en7, opCall_len, bi_len27, len27c, bi_len9, len9, fa29d, build29, l27, l32, ia, b3, c1, t1, t3, tv, hj', hj2, h7, sb, ix, neq_u8, ten_neq, ad] at hr
  subst hr
  refine ⟨_, rfl, rfl, ?_, ?_, ?_, ?_, fun x hx => ?_, ?_⟩
  · simp [get_put, lim, t1]
  · rw [htk, conLines_snoc]
    simp [get_put, lim]
  · simp [get_put, lim]
  · show h1.next ≤ h3.next
    omega
  · show h3.t.get x = _
    rw [c4 x (by omega), lowA x (by omega), low x hx]
  · show h3.next ≤ _
    omega

theorem paZ_end {ih : K} {h1 : SHeap} {C : Nat} {rs ss cs : List Tg} {cv : Value} {cb : Tr Value} {e n0 cap : Nat} {a : Option Addr} {q r : Bool} {text : List UInt8} (hrs : rs.length = 10) (hss : ss.length = 32)
    (hC : h1.t.get C = some (.cells cb 128 e q r)) (hcb : cb.toL 32 128 = some (clV false rs ss cv)) (hC1 : C < h1.next) (hsv : cv = .slice a cs.length cap) (st : St) (hS : PaI h1 C 8 text n0 cs.length st) :
    ∃ st', codeS paZ (Eo OU) ih ⟨5, 80, .normal, none⟩ st = .ok (.exit 4, st') ∧ PaI h1 C 8 text n0 cs.length st' := by
  obtain ⟨tm, ⟨G, n⟩, dd⟩ := st
  obtain ⟨hd, t1, t3, tv, le, low, hnx⟩ := hS
  simp only at hd t1 t3 tv le low hnx
  subst hd
  have hj' : decide (Int.ofNat cs.length < Int.ofNat cs.length) = false := by simp
  obtain ⟨_, hget⟩ := toL_get hcb
  have c127 : cb.get 127 = some cv := by rw [← hget 127 (by decide) (by decide)]; exact clV_cons hrs hss
  have gC : (⟨G, n⟩ : SHeap).t.get C = some (.cells cb 128 e q r) := by rw [low C hC1]; exact hC
  have l27 : opLoad (Eo OU) 27 (some (.pointer (some ⟨C, 0 + 127, none⟩))) ⟨G, n⟩ = .ok (.value cv, ⟨G, n⟩) := load_one (E := Eo OU) E27 rfl gC (show cb.get (0 + 127) = _ from c127)
  subst hsv
  generalize hr : codeS paZ (Eo OU) ih ⟨5, 80, .normal, none⟩ ⟨tm, ⟨G, n⟩, []⟩ = r
  unfold paZ at hr
  simp only [Tryz.f5, cF, Option.getD, cA, cB, cI, codeS, cSeq_run, cCond_run, cRegion_run, cRegion_draw, cBlock_run, cSkip_run, cRet_run, cExit_run, opsS_nil, opsS_run, opS_free, thenS_normal, thenS_ret, thenS_exit, exitBlock_normal, exitBlock_ret, exitBlock_exit, normalS_ok, dispatch, dMove, opMove, evT_tmp, evT_int, evT_bool, evT_str, dBin, dUn, dAlloc, lss_i64, add_i64, valR, afterS_value, putT_some, putT_none, get_put, lim, Nat.reduceLT, Nat.reduceEqDiff, and_true, if_true, if_false, reduceIte, false_and, true_and, Nat.beq, cond_true, cond_false,
      dIndexAddr, dFieldAddr, dLoad, dStore, Option.bind_some, natOf_int, addrAdd_free, List.getElem?_toArray, List.getElem?_cons_succ, List.getElem?_cons_zero, List.drop_succ_cons, List.drop_zero, dPick, pick_true, pick_false, opS_guard, wantedS_none, wantedS_some, dIndex, dBuild, dBuildSlice, dCall, evParts, evList, show (true == true) = true from rfl, show (false == true) = false from rfl, show (true == false) = false from rfl, show (false == false) = true from rfl, Bool.and_self, Bool.not_true, Bool.not_false, not_b, afterS_enter, call_fn en9, call_fn en7, opCall_len, bi_len27, len27c, bi_len9, len9, fa29d, l27, t1, t3, tv, hj'] at hr
  subst hr
  refine ⟨_, rfl, rfl, ?_, ?_, ?_, le, low, hnx⟩
  · simp [get_put, lim, t1]
  · simp [get_put, lim, t3]
  · simp [get_put, lim, tv]

theorem body5 : Tryz.f5.body = some (cF Tryz.f5) := rfl
theorem fn5 {O : Nat → Option (List Value → SHeap → Except String (Value × SHeap))} : (Eo O).F 5 = some Tryz.f5 := by show Tab.funcs.get 5 = _; kernel_rfl
theorem nt5 {a : Value} : max Tryz.f5.ntmps (#[a] : Array Value).size = 80 := rfl
theorem res5 : Tryz.f5.results.toList = [.tmp 2] := rfl

/-- THE WHOLE: the law returns true -/
theorem parts_run {k : Nat} {h : SHeap} {d : Bool} {rs ss cs : List Tg} {cv : Value} (hrs : rs.length = 10) (hss : ss.length = 32) (frs : ∀ t ∈ rs, t.fits) (fss : ∀ t ∈ ss, t.fits) (fcs : ∀ t ∈ cs, t.fits) (hcs : cs.length ≤ 300000) (hlim : h.next + 2200 * cs.length + 300000 ≤ lim)
    (hcons : ConsIn h cv cs) (htab : h.t.get 0 = h0.t.get 0) (hp : 0 < h.next) :
    ∃ h', run (Eo OU) (k + 7) (.call 5 #[.agg (clV d rs ss cv).toArray] .normal) h = .ok (.bool true, h') := by
  have hlim' : lim = 4294967296 := rfl
  obtain ⟨hA, eA⟩ : ∃ hA, hA = newCells h 29 (clV d rs ss cv) false := ⟨_, rfl⟩
  have nA : hA.next = h.next + 1 := by rw [eA]; rfl
  have lowA : ∀ x, x < h.next → hA.t.get x = h.t.get x := fun x hx => by rw [eA]; exact new_low (by omega)
  have l128 := clV_len (d := d) (cv := cv) hrs hss
  have hcb := clV_toL (d := d) (cv := cv) hrs hss
  have gA : hA.t.get h.next = some (.cells (Tr.ofL 33 (clV d rs ss cv)) 128 29 false false) := by
    rw [eA]
    have := box_get (t := 29) (l := clV d rs ss cv) (o := false) (h := h) (by omega)
    rw [l128] at this
    exact this
  have tabA : hA.t.get 0 = h0.t.get 0 := by rw [lowA 0 hp]; exact htab
  have consA : ConsIn hA cv cs := by
    rcases hcons with c | ⟨S, o, cap, x, c1, c2, c3, c4⟩
    · exact .inl c
    · exact .inr ⟨S, o, cap, x, c1, by omega, by rw [lowA S c2]; exact c3, c4⟩
  have bA : opBox 29 (some (.agg (clV d rs ss cv).toArray)) h = .ok (.value (.pointer (some ⟨h.next, 0, none⟩)), hA) := by rw [eA]; rfl
  have hk := known_at (k := k + 5) (h := hA) (by rw [tabA]; kernel_rfl)
  replace hk : run (Eo OU) (k + 6) (.call 7 #[] .normal) hA = .ok (.bool true, hA) := hk
  obtain ⟨_, hget⟩ := toL_get hcb
  have d0 : (Tr.ofL 33 (clV d rs ss cv)).get 0 = some (.bool d) := by rw [← hget 0 (by decide) (by decide)]; rfl
  have l4 : opLoad (Eo OU) 4 (some (.pointer (some ⟨h.next, 0 + 0, none⟩))) hA = .ok (.value (.bool d), hA) := load_one (E := Eo OU) E4a rfl gA (show (Tr.ofL 33 (clV d rs ss cv)).get (0 + 0) = _ from d0)
  have ld29 : ∀ g : SHeap, g.t.get h.next = some (.cells (Tr.ofL 33 (clV d rs ss cv)) 128 29 false false) → opLoad (Eo OU) 29 (some (.pointer (some ⟨h.next, 0, none⟩))) g = .ok (.value (.agg (clV d rs ss cv).toArray), g) := fun g hg => by
    have := load_many (O := OU) (k := 0) (h := g) E29 (by decide) E29a hg hcb (by decide) (by decide)
    rw [List.drop_zero, List.take_of_length_le (by rw [l128]; decide)] at this
    exact this
  suffices hc : ∃ tm' h', codeS (cF Tryz.f5) (Eo OU) (run (Eo OU) (k + 6)) ⟨5, 80, .normal, none⟩ ⟨Tr.ofL 33 [.agg (clV d rs ss cv).toArray], h, []⟩ = .ok (.ret, ⟨tm', h', []⟩) ∧ tm'.get 2 = some (.bool true) by
    obtain ⟨tm', h', k1, k2⟩ := hc
    exact ⟨h', (run_call (show (Eo OU).O 5 = none from rfl)).trans (enterS_ret (vs := [_]) fn5 body5 nt5 rfl res5 k1 (by simp only [resultsS, k2, need]))⟩
  generalize hr : codeS (cF Tryz.f5) (Eo OU) (run (Eo OU) (k + 6)) ⟨5, 80, .normal, none⟩ ⟨Tr.ofL 33 [.agg (clV d rs ss cv).toArray], h, []⟩ = r
  have t0 : (Tr.ofL 33 [Value.agg (clV d rs ss cv).toArray]).get 0 = some (.agg (clV d rs ss cv).toArray) := rfl
  generalize Tr.ofL 33 [Value.agg (clV d rs ss cv).toArray] = tm at hr t0
  cases d with
  | true =>
    obtain ⟨h3, c1, c2, c3, c4⟩ := claim_run (O := OU) (k := k) rfl rfl rfl rfl rfl rfl rfl rfl rfl rfl rfl rfl (h := hA) (d := true) (cv := cv) hrs hss frs fss fcs hcs (by omega) consA (tabOU tabA) (by omega)
    have l29 := ld29 hA gA
    have eq := fun (ev : Ev) (o : Oper) => eql_str (O := OU) (ev := ev) (o := o) (t := 9) (x := claimT true rs ss cs) (y := [100, 101, 97, 100, 10]) (h := h3)
    rw [show (claimT true rs ss cs == [100, 101, 97, 100, 10]) = true from beq_self_eq_true ([100, 101, 97, 100, 10] : List UInt8)] at eq
    simp only [Tryz.f5, cF, Option.getD, cA, cB, cI, codeS, cSeq_run, cCond_run, cRegion_run, cRegion_draw, cBlock_run, cSkip_run, cRet_run, cExit_run, opsS_nil, opsS_run, opS_free, thenS_normal, thenS_ret, thenS_exit, exitBlock_normal, exitBlock_ret, exitBlock_exit, normalS_ok, dispatch, dMove, opMove, evT_tmp, evT_int, evT_bool, evT_str, dBin, dUn, dAlloc, lss_i64, add_i64, valR, afterS_value, putT_some, putT_none, get_put, lim, Nat.reduceLT, Nat.reduceEqDiff, and_true, if_true, if_false, reduceIte, false_and, true_and, Nat.beq, cond_true, cond_false,
      dIndexAddr, dFieldAddr, dLoad, dStore, Option.bind_some, natOf_int, addrAdd_free, List.getElem?_toArray, List.getElem?_cons_succ, List.getElem?_cons_zero, List.drop_succ_cons, List.drop_zero, dPick, pick_true, pick_false, opS_guard, wantedS_none, wantedS_some, dIndex, dBuild, dBuildSlice, dCall, evParts, evList, show (true == true) = true from rfl, show (false == true) = false from rfl, show (true == false) = false from rfl, show (false == false) = true from rfl, Bool.and_self, Bool.not_true, Bool.not_false, not_b, afterS_enter, call_fn en9, call_fn en7, opCall_len, bi_len27, len27c, bi_len9, len9, cLoop_run, dBox, bA, hk, fa29a, l4, l29, c1, eq, t0] at hr
    subst hr
    exact ⟨_, _, rfl, by simp [get_put, lim]⟩
  | false =>
    -- the registers
    obtain ⟨tmx, hx⟩ : ∃ tmx, tmx = ((((((((tm.put 1 (some (.pointer (some ⟨h.next, 0, none⟩)))).put 2 (some (.bool false))).put 10 (some (.bool true))).put 11 (some (.bool false))).put 12 (some (.pointer (some ⟨h.next, 0 + 0, none⟩)))).put 13 (some (.bool false))).put 3 (some (.string ⟨#[]⟩))).put 4 (some (.int .i64 0))) := ⟨_, rfl⟩
    have hx0 : PaI hA h.next 4 ([] ++ tagLines 2 (rs.take 0)) hA.next 0 ⟨tmx, hA, []⟩ := by
      subst hx
      refine ⟨rfl, ?_, ?_, ?_, Nat.le_refl _, fun _ _ => rfl, by show hA.next ≤ _; omega⟩
      · simp [get_put, lim]
      · simp [get_put, lim, tagLines]
      · simp [get_put, lim]
    obtain ⟨⟨tm1, hX, dd1⟩, ex, ix⟩ := loopS_inv (f := codeS paX (Eo OU) (run (Eo OU) (k + 6)) ⟨5, 80, .normal, none⟩) (I := fun j => PaI hA h.next 4 ([] ++ tagLines 2 (rs.take j)) hA.next j) (N := 10) (id := 0) (Q := PaI hA h.next 4 ([] ++ tagLines 2 (rs.take 10)) hA.next 10)
      (fun j st hj hI => paX_in hrs hss frs gA hcb (by omega) (by omega) tabA (by omega) (by decide) j hj st hI) (fun st hI => paX_end st hI) 10 1000000 0 _ (by omega) (by omega) hx0
    obtain ⟨hd1, u1, u3, _, le1, low1, nx1⟩ := ix
    simp only at hd1 u1 u3 le1 low1 nx1
    subst hd1
    rw [List.nil_append, List.take_of_length_le (by omega)] at u3
    -- the stack
    obtain ⟨tmy, hy⟩ : ∃ tmy, tmy = tm1.put 6 (some (.int .i64 0)) := ⟨_, rfl⟩
    have hy0 : PaI hA h.next 6 (tagLines 2 rs ++ tagLines 12 (ss.take 0)) (hA.next + 30000) 0 ⟨tmy, hX, []⟩ := by
      subst hy
      refine ⟨rfl, ?_, ?_, ?_, le1, low1, by show hX.next ≤ _; omega⟩
      · simp [get_put, lim, u1]
      · simp [get_put, lim, u3, tagLines]
      · simp [get_put, lim]
    have lr := tagLines_len rs 2 frs (by omega)
    rw [hrs] at lr
    obtain ⟨⟨tm2, hY, dd2⟩, ey, iy⟩ := loopS_inv (f := codeS paY (Eo OU) (run (Eo OU) (k + 6)) ⟨5, 80, .normal, none⟩) (I := fun j => PaI hA h.next 6 (tagLines 2 rs ++ tagLines 12 (ss.take j)) (hA.next + 30000) j) (N := 32) (id := 2) (Q := PaI hA h.next 6 (tagLines 2 rs ++ tagLines 12 (ss.take 32)) (hA.next + 30000) 32)
      (fun j st hj hI => paY_in hrs hss fss gA hcb (by omega) (by omega) tabA (by omega) (by omega) j hj st hI) (fun st hI => paY_end st hI) 32 1000000 0 _ (by omega) (by omega) hy0
    obtain ⟨hd2, v1, v3, _, le2, low2, nx2⟩ := iy
    simp only at hd2 v1 v3 le2 low2 nx2
    subst hd2
    rw [List.take_of_length_le (by omega)] at v3
    -- the constraints
    have ls := tagLines_len ss 12 fss (by omega)
    rw [hss] at ls
    obtain ⟨tmz, hz⟩ : ∃ tmz, tmz = tm2.put 8 (some (.int .i64 0)) := ⟨_, rfl⟩
    have hz0 : PaI hA h.next 8 ((tagLines 2 rs ++ tagLines 12 ss) ++ conLines (cs.take 0)) (hA.next + 100000) 0 ⟨tmz, hY, []⟩ := by
      subst hz
      refine ⟨rfl, ?_, ?_, ?_, le2, low2, by show hY.next ≤ _; omega⟩
      · simp [get_put, lim, v1]
      · simp [get_put, lim, v3, conLines]
      · simp [get_put, lim]
    obtain ⟨a, cap, hcv⟩ : ∃ a cap, cv = .slice a cs.length cap := by
      rcases consA with ⟨a, c, h1, h2⟩ | ⟨S, o, cap, x, h1, _⟩
      · exact ⟨a, c, by rw [h1, h2]; rfl⟩
      · exact ⟨_, cap, h1⟩
    obtain ⟨⟨tm3, hZ, dd3⟩, ez, iz⟩ := loopS_inv (f := codeS paZ (Eo OU) (run (Eo OU) (k + 6)) ⟨5, 80, .normal, none⟩) (I := fun j => PaI hA h.next 8 ((tagLines 2 rs ++ tagLines 12 ss) ++ conLines (cs.take j)) (hA.next + 100000) j) (N := cs.length) (id := 4) (Q := PaI hA h.next 8 ((tagLines 2 rs ++ tagLines 12 ss) ++ conLines (cs.take cs.length)) (hA.next + 100000) cs.length)
      (fun j st hj hI => by
        rcases consA with ⟨a, c, h1, h2⟩ | ⟨S, o, cap2, x, h1, h2, h3, h4⟩
        · rw [h2] at hj; simp at hj
        · exact paZ_in hrs hss fcs hcs gA hcb (by omega) (by omega) tabA (by omega) (by rw [List.length_append]; omega) h1 h2 h3 h4 j hj st hI) (fun st hI => paZ_end hrs hss gA hcb (by omega) hcv st hI) cs.length 1000000 0 _ (by omega) (by omega) hz0
    obtain ⟨hd3, w1, w3, _, le3, low3, nx3⟩ := iz
    simp only at hd3 w1 w3 le3 low3 nx3
    subst hd3
    rw [List.take_of_length_le (Nat.le_refl _)] at w3
    -- the end
    have gZ : hZ.t.get h.next = some (.cells (Tr.ofL 33 (clV false rs ss cv)) 128 29 false false) := by rw [low3 h.next (by omega)]; exact gA
    have l29 := ld29 hZ gZ
    have consZ : ConsIn hZ cv cs := by
      rcases consA with c | ⟨S, o, cap, x, c1, c2, c3, c4⟩
      · exact .inl c
      · exact .inr ⟨S, o, cap, x, c1, by omega, by rw [low3 S c2]; exact c3, c4⟩
    obtain ⟨h3, c1, c2, c3, c4⟩ := claim_run (O := OU) (k := k) rfl rfl rfl rfl rfl rfl rfl rfl rfl rfl rfl rfl (h := hZ) (d := false) (cv := cv) hrs hss frs fss fcs hcs (by omega) consZ (tabOU (by rw [low3 0 (by omega)]; exact tabA)) (by omega)
    have eq := fun (ev : Ev) (o : Oper) => eql_str (O := OU) (ev := ev) (o := o) (t := 9) (x := claimT false rs ss cs) (y := tagLines 2 rs ++ tagLines 12 ss ++ conLines cs) (h := h3)
    rw [show (claimT false rs ss cs == tagLines 2 rs ++ tagLines 12 ss ++ conLines cs) = true from beq_self_eq_true (tagLines 2 rs ++ tagLines 12 ss ++ conLines cs)] at eq
    subst hx hy hz
    unfold paX at ex
    unfold paY at ey
    unfold paZ at ez
    simp only [Tryz.f5, cF, Option.getD, cA, cB, cI, codeS] at ex ey ez
    simp only [Tryz.f5, cF, Option.getD, cA, cB, cI, codeS, cSeq_run, cCond_run, cRegion_run, cRegion_draw, cBlock_run, cSkip_run, cRet_run, cExit_run, opsS_nil, opsS_run, opS_free, thenS_normal, thenS_ret, thenS_exit, exitBlock_normal, exitBlock_ret, exitBlock_exit, normalS_ok, dispatch, dMove, opMove, evT_tmp, evT_int, evT_bool, evT_str, dBin, dUn, dAlloc, lss_i64, add_i64, valR, afterS_value, putT_some, putT_none, get_put, lim, Nat.reduceLT, Nat.reduceEqDiff, and_true, if_true, if_false, reduceIte, false_and, true_and, Nat.beq, cond_true, cond_false,
      dIndexAddr, dFieldAddr, dLoad, dStore, Option.bind_some, natOf_int, addrAdd_free, List.getElem?_toArray, List.getElem?_cons_succ, List.getElem?_cons_zero, List.drop_succ_cons, List.drop_zero, dPick, pick_true, pick_false, opS_guard, wantedS_none, wantedS_some, dIndex, dBuild, dBuildSlice, dCall, evParts, evList, show (true == true) = true from rfl, show (false == true) = false from rfl, show (true == false) = false from rfl, show (false == false) = true from rfl, Bool.and_self, Bool.not_true, Bool.not_false, not_b, afterS_enter, call_fn en9, call_fn en7, opCall_len, bi_len27, len27c, bi_len9, len9, cLoop_run, dBox, bA, hk, fa29a, l4, l29, ex, ey, ez, c1, eq, w1, w3, t0] at hr
    subst hr
    exact ⟨_, _, rfl, by simp [get_put, lim]⟩
end Go.Proofs.YtaclddcneogolaaGreatDoor

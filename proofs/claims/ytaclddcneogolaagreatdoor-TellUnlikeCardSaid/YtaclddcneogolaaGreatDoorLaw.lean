/- THE PLAIN LAW of TellUnlike: unlike constraints have unlike lines. -/
import Derived.Test.YtaclddcneogolaaGreatDoorUnA
set_option linter.unusedVariables false
set_option linter.unusedSimpArgs false
set_option linter.unusedSimpArgs false
set_option linter.unusedVariables false
namespace Go.Proofs.YtaclddcneogolaaGreatDoor
open Go Go.Sim
set_option maxRecDepth 100000

/-! ## numerals are unlike, and hold no blank -/
def numVal (l : List UInt8) : Nat := l.foldl (fun a b => 10 * a + (b.toNat - 48)) 0
theorem numVal_snoc (l : List UInt8) (b : UInt8) : numVal (l ++ [b]) = 10 * numVal l + (b.toNat - 48) := by
  simp only [numVal, List.foldl_append, List.foldl_cons, List.foldl_nil]
theorem dig_nat {n : Nat} (h : n < 10) : (UInt8.ofNat (48 + n)).toNat = 48 + n := by
  rw [UInt8.toNat_ofNat']
  exact Nat.mod_eq_of_lt (by omega)
theorem numVal_dec (u : Nat) : numVal (Lib.decDigits u) = u := by
  induction u using Nat.strongRecOn with
  | _ u ih =>
    by_cases h : u < 10
    · rw [Lib.decDigits, dif_pos h]
      show 10 * 0 + ((UInt8.ofNat (48 + u)).toNat - 48) = u
      rw [dig_nat h]; omega
    · rw [Lib.decDigits, dif_neg h, numVal_snoc, ih (u / 10) (by omega), dig_nat (Nat.mod_lt _ (by decide))]
      omega
theorem dec_inj {u v : Nat} (h : Lib.decDigits u = Lib.decDigits v) : u = v := by
  rw [← numVal_dec u, h, numVal_dec]
theorem dec_dig (u : Nat) : ∀ b ∈ Lib.decDigits u, 48 ≤ b.toNat := by
  induction u using Nat.strongRecOn with
  | _ u ih =>
    intro b hb
    by_cases h : u < 10
    · rw [Lib.decDigits, dif_pos h] at hb
      obtain rfl := List.mem_singleton.1 hb
      rw [dig_nat h]; omega
    · rw [Lib.decDigits, dif_neg h] at hb
      rcases List.mem_append.1 hb with hb | hb
      · exact ih (u / 10) (by omega) b hb
      · obtain rfl := List.mem_singleton.1 hb
        rw [dig_nat (Nat.mod_lt _ (by decide))]; omega
theorem itoa_inj {x y : Int} (h : Lib.itoa x = Lib.itoa y) : x = y := by
  unfold Lib.itoa at h
  by_cases hx : x < 0
  · rw [if_pos hx] at h
    by_cases hy : y < 0
    · rw [if_pos hy] at h
      have := dec_inj (List.cons.inj h).2
      omega
    · rw [if_neg hy] at h
      have := dec_dig y.toNat 45 (by rw [← h]; exact List.mem_cons_self ..)
      exact absurd this (by decide)
  · rw [if_neg hx] at h
    by_cases hy : y < 0
    · rw [if_pos hy] at h
      have := dec_dig x.toNat 45 (by rw [h]; exact List.mem_cons_self ..)
      exact absurd this (by decide)
    · rw [if_neg hy] at h
      have := dec_inj h
      omega

/-! ## words without blanks -/
theorem word_inj {x y : List UInt8} {r s : List UInt8} (hx : (32 : UInt8) ∉ x) (hy : (32 : UInt8) ∉ y) (h : x ++ 32 :: r = y ++ 32 :: s) : x = y ∧ r = s := by
  induction x generalizing y with
  | nil => cases y with
    | nil => exact ⟨rfl, by simpa using h⟩
    | cons b y => simp only [List.nil_append, List.cons_append, List.cons.injEq] at h; exact absurd (h.1 ▸ List.mem_cons_self ..) hy
  | cons a x ih => cases y with
    | nil => simp only [List.nil_append, List.cons_append, List.cons.injEq] at h; exact absurd (h.1 ▸ List.mem_cons_self ..) hx
    | cons b y =>
      simp only [List.cons_append, List.cons.injEq] at h
      obtain ⟨h1, h2⟩ := ih (fun e => hx (List.mem_cons_of_mem _ e)) (fun e => hy (List.mem_cons_of_mem _ e)) h.2
      exact ⟨by rw [h.1, h1], h2⟩

/-! ## names are unlike, and hold no blank -/
theorem nameC_inj : ∀ a, a < 60 → ∀ b, b < 60 → nameC a = nameC b → a = b := by decide +kernel
theorem nameC_blank : ∀ a, a < 60 → (32 : UInt8) ∉ nameC a := by decide +kernel
theorem nameT_small {v : Int} (h1 : 0 ≤ v) (h2 : v < 60) : nameT v = nameC v.toNat := by
  obtain ⟨n, rfl⟩ : ∃ n : Nat, v = n := ⟨v.toNat, by omega⟩
  have hn : n < 60 := by omega
  show nameT (Int.ofNat n) = _
  rw [show ((n : Int)).toNat = n from Int.toNat_natCast n, nameC_eq hn]
  simp only [nameT, blt_of hn, cond_true]
theorem name_inj {v w : Int} (h1 : 0 ≤ v) (h2 : v < 60) (h3 : 0 ≤ w) (h4 : w < 60) (h : nameT v = nameT w) : v = w := by
  rw [nameT_small h1 h2, nameT_small h3 h4] at h
  have := nameC_inj _ (by omega) _ (by omega) h
  omega
theorem name_blank {v : Int} (h1 : 0 ≤ v) (h2 : v < 60) : (32 : UInt8) ∉ nameT v := by
  rw [nameT_small h1 h2]; exact nameC_blank _ (by omega)

/-! ## the line, case for case -/
theorem boundT_a {I J C : Int} (h : J = 0) : boundT I J C = nameT I ++ 32 :: ([60, 61] ++ 32 :: Lib.itoa C) := by
  unfold boundT boundP wordsT
  rw [decide_eq_true h]
  exact join3 _ _ _
theorem boundT_b {I J C : Int} (h : J ≠ 0) (hI : I = 0) (hC : C ≠ -9223372036854775808) : boundT I J C = nameT J ++ 32 :: ([62, 61] ++ 32 :: Lib.itoa (-C)) := by
  unfold boundT boundP wordsT
  rw [decide_eq_false h, decide_eq_true hI, decide_eq_false hC]
  exact join3 _ _ _
theorem boundT_c {I J C : Int} (h : J ≠ 0) (hI : ¬ (I = 0 ∧ C ≠ -9223372036854775808)) : boundT I J C = nameT I ++ 32 :: ([45] ++ 32 :: (nameT J ++ 32 :: ([60, 61] ++ 32 :: Lib.itoa C))) := by
  unfold boundT boundP wordsT
  rw [decide_eq_false h]
  have : (decide (I = 0) && !decide (C = -9223372036854775808)) = false := by
    cases hx : (decide (I = 0) && !decide (C = -9223372036854775808)) with
    | false => rfl
    | true =>
      simp only [Bool.and_eq_true, Bool.not_eq_true', decide_eq_true_eq, decide_eq_false_iff_not] at hx
      exact absurd hx hI
  rw [this]
  exact join5 _ _ _ _ _

theorem bound_inj {x y : Tg} (hx : someT x = true) (hy : someT y = true) (h : boundT x.1 x.2.1 x.2.2 = boundT y.1 y.2.1 y.2.2) : x = y := by
  obtain ⟨i, j, c⟩ := x
  obtain ⟨i', j', c'⟩ := y
  unfold someT at hx hy
  simp only [Bool.and_eq_true, decide_eq_true_eq, bne_iff_ne, ne_eq] at hx hy h
  obtain ⟨⟨⟨⟨a1, a2⟩, a3⟩, a4⟩, a5⟩ := hx
  obtain ⟨⟨⟨⟨b1, b2⟩, b3⟩, b4⟩, b5⟩ := hy
  have nb1 := name_blank (v := i) a1 a2
  have nb2 := name_blank (v := j) a3 a4
  have nb3 := name_blank (v := i') b1 b2
  have nb4 := name_blank (v := j') b3 b4
  have w1 : (32 : UInt8) ∉ ([60, 61] : List UInt8) := by decide
  have w2 : (32 : UInt8) ∉ ([62, 61] : List UInt8) := by decide
  have w3 : (32 : UInt8) ∉ ([45] : List UInt8) := by decide
  by_cases hj : j = 0
  · rw [boundT_a hj] at h
    by_cases hj' : j' = 0
    · rw [boundT_a hj'] at h
      obtain ⟨e1, e2⟩ := word_inj nb1 nb3 h
      obtain ⟨_, e3⟩ := word_inj w1 w1 e2
      rw [name_inj a1 a2 b1 b2 e1, itoa_inj e3, hj, hj']
    · by_cases hi' : i' = 0 ∧ c' ≠ -9223372036854775808
      · rw [boundT_b hj' hi'.1 hi'.2] at h
        obtain ⟨_, e2⟩ := word_inj nb1 nb4 h
        obtain ⟨e3, _⟩ := word_inj w1 w2 e2
        exact absurd e3 (by decide)
      · rw [boundT_c hj' hi'] at h
        obtain ⟨_, e2⟩ := word_inj nb1 nb3 h
        obtain ⟨e3, _⟩ := word_inj w1 w3 e2
        exact absurd e3 (by decide)
  · by_cases hi : i = 0 ∧ c ≠ -9223372036854775808
    · rw [boundT_b hj hi.1 hi.2] at h
      by_cases hj' : j' = 0
      · rw [boundT_a hj'] at h
        obtain ⟨_, e2⟩ := word_inj nb2 nb3 h
        obtain ⟨e3, _⟩ := word_inj w2 w1 e2
        exact absurd e3 (by decide)
      · by_cases hi' : i' = 0 ∧ c' ≠ -9223372036854775808
        · rw [boundT_b hj' hi'.1 hi'.2] at h
          obtain ⟨e1, e2⟩ := word_inj nb2 nb4 h
          obtain ⟨_, e3⟩ := word_inj w2 w2 e2
          have e4 := itoa_inj e3
          rw [name_inj a3 a4 b3 b4 e1, hi.1, hi'.1, show c = c' by omega]
        · rw [boundT_c hj' hi'] at h
          obtain ⟨_, e2⟩ := word_inj nb2 nb3 h
          obtain ⟨e3, _⟩ := word_inj w2 w3 e2
          exact absurd e3 (by decide)
    · rw [boundT_c hj hi] at h
      by_cases hj' : j' = 0
      · rw [boundT_a hj'] at h
        obtain ⟨_, e2⟩ := word_inj nb1 nb3 h
        obtain ⟨e3, _⟩ := word_inj w3 w1 e2
        exact absurd e3 (by decide)
      · by_cases hi' : i' = 0 ∧ c' ≠ -9223372036854775808
        · rw [boundT_b hj' hi'.1 hi'.2] at h
          obtain ⟨_, e2⟩ := word_inj nb1 nb4 h
          obtain ⟨e3, _⟩ := word_inj w3 w2 e2
          exact absurd e3 (by decide)
        · rw [boundT_c hj' hi'] at h
          obtain ⟨e1, e2⟩ := word_inj nb1 nb3 h
          obtain ⟨_, e3⟩ := word_inj w3 w3 e2
          obtain ⟨e4, e5⟩ := word_inj nb2 nb4 e3
          obtain ⟨_, e6⟩ := word_inj w1 w1 e5
          rw [name_inj a1 a2 b1 b2 e1, name_inj a3 a4 b3 b4 e4, itoa_inj e6]

/-- THE LAW -/
theorem unlike_true (x y : Tg) : unlikeT x y = true := by
  unfold unlikeT
  cases hx : someT x with
  | false => rfl
  | true =>
    cases hy : someT y with
    | false => rfl
    | true =>
      simp only [Bool.and_self, cond_true, beq_iff_eq]
      by_cases e : x = y
      · subst e
        simp
      · have h1 : (conLine x == conLine y) = false := by
          rw [beq_eq_false_iff_ne]
          intro h
          unfold conLine at h
          exact e (bound_inj hx hy (List.append_cancel_right h))
        rw [h1]
        symm
        obtain ⟨i, j, c⟩ := x
        obtain ⟨i', j', c'⟩ := y
        cases hh : ((i == i') && (j == j') && (c == c')) with
        | false => rfl
        | true =>
          simp only [Bool.and_eq_true, beq_iff_eq] at hh
          obtain ⟨⟨h1, h2⟩, h3⟩ := hh
          subst h1 h2 h3
          exact absurd rfl e
end Go.Proofs.YtaclddcneogolaaGreatDoor

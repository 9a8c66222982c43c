/- The simulator's tables over this program. -/
import Derived.Test.YtgiompikfhhkmaaGreatDoorExtA
import Derived.Test.YtgiompikfhhkmaaGreatDoorMemo
set_option linter.unusedVariables false
set_option linter.unusedSimpArgs false
namespace Go.Proofs.YtgiompikfhhkmaaGreatDoor
open Go Go.Sim
set_option maxRecDepth 100000

/-- what the outside functions are handed,taken apart -/
def hdlN : Value → Option Nat
  | .pointer (some ⟨b,t,none⟩) => bif Nat.beq b 9 then some t else none
  | _ => none
def rtyN : Value → Option Nat
  | .agg ⟨[x]⟩ => hdlN x
  | _ => none
def ityN : Value → Option Nat
  | .iface t v => bif Nat.beq t 69 then rtyN v else none
  | _ => none
def valN (n : Nat) : Value → Option (Nat × Nat × Nat)
  | .agg ⟨[x,.pointer (some ⟨b,o,none⟩),.int .u64 (.ofNat m)]⟩ => bif Nat.beq m n then match hdlN x with
    | some t => some (t,b,o)
    | none => none else none
  | _ => none
theorem hdlN_eq {v : Value} {t : Nat} (h : hdlN v = some t) : v = hdl t := by
  unfold hdlN at h
  split at h
  · rename_i b u
    cases hb : Nat.beq b 9 with
    | true =>
      rw [hb] at h
      simp only [cond_true,Option.some.injEq] at h
      subst h
      rw [Nat.eq_of_beq_eq_true hb]
    | false => rw [hb] at h; simp at h
  · simp at h
theorem rtyN_eq {v : Value} {t : Nat} (h : rtyN v = some t) : v = rty t := by
  unfold rtyN at h
  split at h
  · rw [hdlN_eq h]
  · simp at h
theorem ityN_eq {v : Value} {t : Nat} (h : ityN v = some t) : v = .iface 69 (rty t) := by
  unfold ityN at h
  split at h
  · rename_i u v
    cases hb : Nat.beq u 69 with
    | true =>
      rw [hb] at h
      simp only [cond_true] at h
      rw [Nat.eq_of_beq_eq_true hb,rtyN_eq h]
    | false => rw [hb] at h; simp at h
  · simp at h
theorem valN_eq {n : Nat} {v : Value} {t b o : Nat} (h : valN n v = some (t,b,o)) : v = .agg #[hdl t,.pointer (some ⟨b,o,none⟩),.int .u64 (.ofNat n)] := by
  unfold valN at h
  split at h
  · rename_i x b' o' m
    cases hb : Nat.beq m n with
    | true =>
      rw [hb] at h
      simp only [cond_true] at h
      split at h
      · rename_i u hu
        simp only [Option.some.injEq,Prod.mk.injEq] at h
        obtain ⟨rfl,rfl,rfl⟩ := h
        rw [Nat.eq_of_beq_eq_true hb,hdlN_eq hu]
      · simp at h
    | false => rw [hb] at h; simp at h
  · simp at h

abbrev OutF := List Value → SHeap → Option (Value × SHeap)
noncomputable def Eb : Env :=
  { P := Tryz.prog,T := Tab.types.get,F := Tab.funcs.get,X := fun _ => none,O := fun _ => none,lies := fun _ _ _ _ => false,eqT := fun _ => none,bytesLie := fun _ _ => false,M := fun _ _ => none,A := fun _ _ => none,Q := fun _ => none,G := 10 }
theorem envB : EnvOK Eb where
  type := fun t ti h => by
    have h : (Tr.ofL 33 Tab.typeList).get t = some ti := by rw [← types_eq]; exact h
    have := tyAll.get t ti (ofL_get h)
    rw [Nat.zero_add] at this
    exact this
  func := fun f fn h => by
    have h : (Tr.ofL 33 Tab.funcList).get f = some fn := by rw [← funcs_eq]; exact h
    have := fnAll.get f fn (ofL_get h)
    rw [Nat.zero_add] at this
    exact this.1
  call := fun f fn h => by
    have h : (Tr.ofL 33 Tab.funcList).get f = some fn := by rw [← funcs_eq]; exact h
    have := fnAll.get f fn (ofL_get h)
    rw [Nat.zero_add] at this
    exact this.2
  same := fun f h x w => by cases h
  makeNoZero := fun f e h => by cases h
  lies := fun e n o u h => by cases h
  eqT := fun t ks h => by cases h
  bytesLie := fun e u h => by cases h
  outer := fun f g h => by cases h
  meth := fun t name f b h => by cases h
  asks := fun t a b h => by cases h
  held := fun t e h => by cases h

/-- reflectlite.TypeOf -/
def x10 : OutF
  | [.iface t _],h => some (.iface 69 (rty t),h)
  | _,_ => none
/-- reflectlite.ValueOf -/
def x25 : OutF
  | [.iface t v],h => bif Nat.beq t 44 || Nat.beq t 46 then some (.agg #[hdl t,.pointer (some ⟨h.next,0,none⟩),.int .u64 150],newCells h t v.cells.toList false) else none
  | _,_ => none
/-- Value.Type -/
def x26 : OutF
  | [a],h => match valN 150 a with
    | some (t,_,_) => bif Nat.beq t 46 then some (.iface 69 (rty 46),h) else none
    | none => none
  | _,_ => none
/-- Value.IsNil -/
noncomputable def x27 : OutF
  | [a],h => match valN 150 a with
    | some (t,b,o) => bif Nat.beq t 46 then match loadAt Eb h 46 ⟨b,o,none⟩ with
      | .ok (.pointer (some _)) => some (.bool false,h)
      | _ => none else none
    | none => none
  | _,_ => none
/-- Value.Elem -/
noncomputable def x77 : OutF
  | [a],h => match valN 150 a with
    | some (t,b,o) => bif Nat.beq t 46 then match loadAt Eb h 46 ⟨b,o,none⟩ with
      | .ok (.pointer (some ⟨c,p,none⟩)) => some (.agg #[hdl 44,.pointer (some ⟨c,p,none⟩),.int .u64 406],h)
      | _ => none else none
    | none => none
  | _,_ => none
/-- Value.Set -/
noncomputable def x78 : OutF
  | [a,s],h => match valN 406 a with
    | some (t,b,o) => match valN 150 s with
      | some (u,c,p) => bif Nat.beq t 44 && Nat.beq u 44 then match loadAt Eb h 44 ⟨c,p,none⟩ with
        | .ok v => match storeAt Eb h 44 ⟨b,o,none⟩ v with
          | .ok h => some (.tuple #[],h)
          | .error _ => none
        | .error _ => none else none
      | none => none
    | none => none
  | _,_ => none
/-- Type.Kind -/
def x327 : OutF
  | [a],h => match hdlN a with
    | some t => bif Nat.beq t 44 || Nat.beq t 46 then some (.int .u8 22,h) else none
    | none => none
  | _,_ => none
/-- rtype.AssignableTo -/
def x334 : OutF
  | [a,s],h => match rtyN a with
    | some t => match ityN s with
      | some u => bif Nat.beq t 44 && Nat.beq u 44 then some (.bool true,h) else none
      | none => none
    | none => none
  | _,_ => none
/-- rtype.Comparable -/
def x335 : OutF
  | [a],h => match rtyN a with
    | some t => bif Nat.beq t 450 || Nat.beq t 29 then some (.bool true,h) else none
    | none => none
  | _,_ => none
/-- rtype.Elem -/
def x336 : OutF
  | [a],h => match rtyN a with
    | some t => bif Nat.beq t 46 then some (.iface 69 (rty 44),h) else none
    | none => none
  | _,_ => none
/-- rtype.Implements -/
def x337 : OutF
  | [a,s],h => match rtyN a with
    | some t => match ityN s with
      | some u => bif Nat.beq t 44 && Nat.beq u 25 then some (.bool true,h) else none
      | none => none
    | none => none
  | _,_ => none

theorem or_nat {t a b : Nat} (h : (Nat.beq t a || Nat.beq t b) = true) : t = a ∨ t = b := by
  simp only [Bool.or_eq_true] at h
  exact h.imp Nat.eq_of_beq_eq_true Nat.eq_of_beq_eq_true
theorem and_nat {t a u b : Nat} (h : (Nat.beq t a && Nat.beq u b) = true) : t = a ∧ u = b := by
  simp only [Bool.and_eq_true] at h
  exact ⟨Nat.eq_of_beq_eq_true h.1,Nat.eq_of_beq_eq_true h.2⟩
theorem bif_some {α : Type} {c : Bool} {x : Option α} {y : α} (h : (bif c then x else none) = some y) : c = true ∧ x = some y := by
  cases c with
  | true => exact ⟨rfl,h⟩
  | false => simp at h

variable {args : List Value} {h h' : SHeap} {v : Value}
theorem x10xok (e : x10 args h = some (v,h')) : OutAt Eb 10 args h v h' := by
  unfold x10 at e
  split at e
  · cases e; exact out_typeOf rfl rfl _ _
  · simp at e
theorem x25xok (e : x25 args h = some (v,h')) : OutAt Eb 25 args h v h' := by
  unfold x25 at e
  split at e
  · obtain ⟨c,e⟩ := bif_some e
    cases e
    exact out_valueOf rfl rfl (or_nat c)
  · simp at e
theorem x26xok (e : x26 args h = some (v,h')) : OutAt Eb 26 args h v h' := by
  unfold x26 at e
  split at e
  · split at e
    · rename_i q
      obtain ⟨c,e⟩ := bif_some e
      cases e
      rw [valN_eq q,Nat.eq_of_beq_eq_true c]
      exact out_vtype rfl rfl
    · simp at e
  · simp at e
theorem x27xok (e : x27 args h = some (v,h')) : OutAt Eb 27 args h v h' := by
  unfold x27 at e
  split at e
  · split at e
    · rename_i q
      obtain ⟨c,e⟩ := bif_some e
      split at e
      · rename_i hl
        cases e
        rw [valN_eq q,Nat.eq_of_beq_eq_true c]
        exact out_isNil envB rfl rfl hl
      · simp at e
    · simp at e
  · simp at e
theorem x77xok (e : x77 args h = some (v,h')) : OutAt Eb 77 args h v h' := by
  unfold x77 at e
  split at e
  · split at e
    · rename_i q
      obtain ⟨c,e⟩ := bif_some e
      split at e
      · rename_i hl
        cases e
        rw [valN_eq q,Nat.eq_of_beq_eq_true c]
        exact out_velem envB rfl rfl hl
      · simp at e
    · simp at e
  · simp at e
theorem x78xok (e : x78 args h = some (v,h')) : OutAt Eb 78 args h v h' := by
  unfold x78 at e
  split at e
  · split at e
    · rename_i q
      split at e
      · rename_i q2
        obtain ⟨c,e⟩ := bif_some e
        split at e
        · rename_i hl
          split at e
          · rename_i hs
            cases e
            obtain ⟨c1,c2⟩ := and_nat c
            rw [valN_eq q,valN_eq q2,c1,c2]
            exact out_set envB rfl rfl hl hs
          · simp at e
        · simp at e
      · simp at e
    · simp at e
  · simp at e
theorem x327xok (e : x327 args h = some (v,h')) : OutAt Eb 327 args h v h' := by
  unfold x327 at e
  split at e
  · split at e
    · rename_i q
      obtain ⟨c,e⟩ := bif_some e
      cases e
      rw [hdlN_eq q]
      exact out_kind rfl rfl (or_nat c)
    · simp at e
  · simp at e
theorem x335xok (e : x335 args h = some (v,h')) : OutAt Eb 335 args h v h' := by
  unfold x335 at e
  split at e
  · split at e
    · rename_i q
      obtain ⟨c,e⟩ := bif_some e
      cases e
      rw [rtyN_eq q]
      exact out_comparable rfl rfl (or_nat c)
    · simp at e
  · simp at e
theorem x336xok (e : x336 args h = some (v,h')) : OutAt Eb 336 args h v h' := by
  unfold x336 at e
  split at e
  · split at e
    · rename_i q
      obtain ⟨c,e⟩ := bif_some e
      cases e
      rw [rtyN_eq q,Nat.eq_of_beq_eq_true c]
      exact out_elem rfl rfl
    · simp at e
  · simp at e
theorem x337xok (e : x337 args h = some (v,h')) : OutAt Eb 337 args h v h' := by
  unfold x337 at e
  split at e
  · split at e
    · rename_i q
      split at e
      · rename_i q2
        obtain ⟨c,e⟩ := bif_some e
        cases e
        obtain ⟨c1,c2⟩ := and_nat c
        rw [rtyN_eq q,ityN_eq q2,c1,c2]
        exact out_implements rfl rfl
      · simp at e
    · simp at e
  · simp at e
theorem x334xok (e : x334 args h = some (v,h')) : OutAt Eb 334 args h v h' := by
  unfold x334 at e
  split at e
  · split at e
    · rename_i q
      split at e
      · rename_i q2
        obtain ⟨c,e⟩ := bif_some e
        cases e
        obtain ⟨c1,c2⟩ := and_nat c
        rw [rtyN_eq q,ityN_eq q2,c1,c2]
        exact out_assignable rfl rfl
      · simp at e
    · simp at e
  · simp at e

noncomputable def outs : Nat → Option Ext := fun f =>
  bif Nat.blt f 79 then (bif Nat.beq f 10 then some (.fn x10) else bif Nat.beq f 25 then some (.fn x25) else bif Nat.beq f 26 then some (.fn x26) else bif Nat.beq f 27 then some (.fn x27) else bif Nat.beq f 77 then some (.fn x77) else bif Nat.beq f 78 then some (.fn x78) else none)
  else bif Nat.blt f 327 then none else bif Nat.beq f 327 then some (.fn x327) else bif Nat.beq f 334 then some (.fn x334) else bif Nat.beq f 335 then some (.fn x335) else bif Nat.beq f 336 then some (.fn x336) else bif Nat.beq f 337 then some (.fn x337) else none
theorem bif_or {α : Type} {c : Bool} {x y : Option α} {z : α} (h : (bif c then x else y) = some z) : (c = true ∧ x = some z) ∨ y = some z := by
  cases c with
  | true => exact .inl ⟨rfl,h⟩
  | false => exact .inr h
theorem outs_ok {f : Nat} {x : Ext} (e : outs f = some x) : ∃ g,x = .fn g ∧ ∀ (args : List Value) (h : SHeap) (v : Value) (h' : SHeap),g args h = some (v,h') → OutAt Eb f args h v h' := by
  unfold outs at e
  rcases bif_or e with ⟨_,e⟩ | e
  · rcases bif_or e with ⟨c,e⟩ | e
    · obtain rfl := Nat.eq_of_beq_eq_true c; cases e; exact ⟨_,rfl,fun _ _ _ _ e => x10xok e⟩
    rcases bif_or e with ⟨c,e⟩ | e
    · obtain rfl := Nat.eq_of_beq_eq_true c; cases e; exact ⟨_,rfl,fun _ _ _ _ e => x25xok e⟩
    rcases bif_or e with ⟨c,e⟩ | e
    · obtain rfl := Nat.eq_of_beq_eq_true c; cases e; exact ⟨_,rfl,fun _ _ _ _ e => x26xok e⟩
    rcases bif_or e with ⟨c,e⟩ | e
    · obtain rfl := Nat.eq_of_beq_eq_true c; cases e; exact ⟨_,rfl,fun _ _ _ _ e => x27xok e⟩
    rcases bif_or e with ⟨c,e⟩ | e
    · obtain rfl := Nat.eq_of_beq_eq_true c; cases e; exact ⟨_,rfl,fun _ _ _ _ e => x77xok e⟩
    rcases bif_or e with ⟨c,e⟩ | e
    · obtain rfl := Nat.eq_of_beq_eq_true c; cases e; exact ⟨_,rfl,fun _ _ _ _ e => x78xok e⟩
    cases e
  · rcases bif_or e with ⟨_,e⟩ | e
    · cases e
    rcases bif_or e with ⟨c,e⟩ | e
    · obtain rfl := Nat.eq_of_beq_eq_true c; cases e; exact ⟨_,rfl,fun _ _ _ _ e => x327xok e⟩
    rcases bif_or e with ⟨c,e⟩ | e
    · obtain rfl := Nat.eq_of_beq_eq_true c; cases e; exact ⟨_,rfl,fun _ _ _ _ e => x334xok e⟩
    rcases bif_or e with ⟨c,e⟩ | e
    · obtain rfl := Nat.eq_of_beq_eq_true c; cases e; exact ⟨_,rfl,fun _ _ _ _ e => x335xok e⟩
    rcases bif_or e with ⟨c,e⟩ | e
    · obtain rfl := Nat.eq_of_beq_eq_true c; cases e; exact ⟨_,rfl,fun _ _ _ _ e => x336xok e⟩
    rcases bif_or e with ⟨c,e⟩ | e
    · obtain rfl := Nat.eq_of_beq_eq_true c; cases e; exact ⟨_,rfl,fun _ _ _ _ e => x337xok e⟩
    cases e

/-- methods -/
noncomputable def meths (t : TypeId) (name : String) : Option (FuncId × Bool) :=
  bif Nat.beq t 69 then (if name = "Comparable" then some (335,false) else if name = "Implements" then some (337,false) else if name = "Elem" then some (336,false) else if name = "AssignableTo" then some (334,false) else if name = "Kind" then some (327,true) else none)
  else bif Nat.beq t 450 then (if name = "Error" then some (348,false) else none)
  else bif Nat.beq t 44 then (if name = "Unwrap" then some (332,false) else none) else none
theorem meths_ok {t : TypeId} {name : String} {f : FuncId} {b : Bool} (e : meths t name = some (f,b)) (v x : Value) (w : World) (hv : b = false ∧ x = v ∨ b = true ∧ v = .agg #[x]) :
    (method (Tryz.prog.types.size + Made.depth) t v name).run Tryz.prog w = .ok (f,x) w := by
  unfold meths at e
  rcases bif_or e with ⟨c,e⟩ | e
  · obtain rfl := Nat.eq_of_beq_eq_true c
    split at e
    · rename_i h; subst h; cases e; rcases hv with ⟨_,rfl⟩ | ⟨h,_⟩; exact m69xcomparable _ w; cases h
    split at e
    · rename_i h; subst h; cases e; rcases hv with ⟨_,rfl⟩ | ⟨h,_⟩; exact m69ximplements _ w; cases h
    split at e
    · rename_i h; subst h; cases e; rcases hv with ⟨_,rfl⟩ | ⟨h,_⟩; exact m69xelem _ w; cases h
    split at e
    · rename_i h; subst h; cases e; rcases hv with ⟨_,rfl⟩ | ⟨h,_⟩; exact m69xassignable _ w; cases h
    split at e
    · rename_i h; subst h; cases e; rcases hv with ⟨h,_⟩ | ⟨_,rfl⟩; cases h; exact m69xkind _ w
    cases e
  rcases bif_or e with ⟨c,e⟩ | e
  · obtain rfl := Nat.eq_of_beq_eq_true c
    split at e
    · rename_i h; subst h; cases e; rcases hv with ⟨_,rfl⟩ | ⟨h,_⟩; exact m450xerror _ w; cases h
    cases e
  rcases bif_or e with ⟨c,e⟩ | e
  · obtain rfl := Nat.eq_of_beq_eq_true c
    split at e
    · rename_i h; subst h; cases e; rcases hv with ⟨_,rfl⟩ | ⟨h,_⟩; exact m44xunwrap _ w; cases h
    cases e
  cases e

/-- assertions to interfaces -/
noncomputable def asksT (t a : TypeId) : Option Bool :=
  bif Nat.beq t 450 then (bif Nat.beq a 76 || Nat.beq a 74 then some false else bif Nat.beq a 71 then some false else none)
  else bif Nat.beq t 29 then (bif Nat.beq a 76 || Nat.beq a 74 then some false else bif Nat.beq a 71 then some false else none)
  else bif Nat.beq t 44 then (bif Nat.beq a 74 then some true else bif Nat.beq a 71 then some false else none) else none
theorem ask_29x76 : askP 29 76 = some false := ask_no (s := "Unwrap") (l := []) (by kernel_rfl)
theorem ask_29x74 : askP 29 74 = some false := ask_no (s := "Unwrap") (l := []) (by kernel_rfl)
theorem ask_44x71 : askP 44 71 = some false := ask_no (s := "Is") (l := []) (by kernel_rfl)
theorem asks_ok {t a : TypeId} {b : Bool} (e : asksT t a = some b) : ∃ want i,Tryz.prog.underlying a = some (.interface want) ∧ Tryz.prog.info? t = some i ∧ (Instr.missingMethod want i.methods).isNone = b := by
  refine ask_of ?_
  unfold asksT at e
  rcases bif_or e with ⟨c,e1⟩ | e1
  · obtain rfl := Nat.eq_of_beq_eq_true c
    rcases bif_or e1 with ⟨c2,e2⟩ | e2
    · obtain rfl := Option.some.inj e2
      rcases or_nat c2 with rfl | rfl
      · exact ask_450x76
      · exact ask_450x74
    · obtain ⟨c3,e3⟩ := bif_some e2
      obtain rfl := Option.some.inj e3
      obtain rfl := Nat.eq_of_beq_eq_true c3
      exact ask_450x71
  rcases bif_or e1 with ⟨c,e2⟩ | e2
  · obtain rfl := Nat.eq_of_beq_eq_true c
    rcases bif_or e2 with ⟨c2,e3⟩ | e3
    · obtain rfl := Option.some.inj e3
      rcases or_nat c2 with rfl | rfl
      · exact ask_29x76
      · exact ask_29x74
    · obtain ⟨c3,e4⟩ := bif_some e3
      obtain rfl := Option.some.inj e4
      obtain rfl := Nat.eq_of_beq_eq_true c3
      exact ask_29x71
  obtain ⟨c,e3⟩ := bif_some e2
  obtain rfl := Nat.eq_of_beq_eq_true c
  rcases bif_or e3 with ⟨c2,e4⟩ | e4
  · obtain rfl := Option.some.inj e4
    obtain rfl := Nat.eq_of_beq_eq_true c2
    exact ask_44x74
  · obtain ⟨c3,e5⟩ := bif_some e4
    obtain rfl := Option.some.inj e5
    obtain rfl := Nat.eq_of_beq_eq_true c3
    exact ask_44x71

/-- pointers that are compared -/
def heldT (t : TypeId) : Option TypeId := bif Nat.beq t 450 then some 471 else none
theorem held_cmp : (match Tryz.prog.info? 450 with | some i => i.comparable | none => false) = true := by kernel_rfl
theorem held_size : (match Tryz.prog.info? 471 with | some i => Nat.beq i.size 1 | none => false) = true := by kernel_rfl
theorem held_und : Tryz.prog.underlying 450 = some (.pointer 471) := by kernel_rfl
theorem held_ok {t e : TypeId} (h : heldT t = some e) : Tryz.prog.underlying t = some (.pointer e) ∧ (∃ i,Tryz.prog.info? t = some i ∧ i.comparable = true) ∧ ∃ i,Tryz.prog.info? e = some i ∧ i.size ≠ 0 := by
  unfold heldT at h
  obtain ⟨c,h⟩ := bif_some h
  cases h
  obtain rfl := Nat.eq_of_beq_eq_true c
  refine ⟨held_und,?_,?_⟩
  · have h := held_cmp
    split at h
    · rename_i i hi; exact ⟨i,hi,h⟩
    · cases h
  · have h := held_size
    split at h
    · rename_i i hi; exact ⟨i,hi,by rw [Nat.eq_of_beq_eq_true h]; decide⟩
    · cases h

noncomputable def Eo (O : Nat → Option (List Value → SHeap → Except String (Value × SHeap))) : Env :=
  { P := Tryz.prog,T := Tab.types.get,F := Tab.funcs.get,X := outs,O,lies := fun _ _ _ _ => false,eqT := fun _ => none,bytesLie := fun _ _ => false,M := meths,A := asksT,Q := heldT,G := 10 }

theorem envOK (O : Nat → Option (List Value → SHeap → Except String (Value × SHeap))) : EnvOK (Eo O) where
  type := envB.type
  func := envB.func
  call := envB.call
  same := fun f h x w => by
    obtain ⟨g,e,_⟩ := outs_ok h
    cases e
  makeNoZero := fun f e h => by
    obtain ⟨g,e,_⟩ := outs_ok h
    cases e
  lies := fun e n o u h => by cases h
  eqT := fun t ks h => by cases h
  bytesLie := fun e u h => by cases h
  outer := fun f g h args rargs hp v hp' hg ρ w hw hr => by
    obtain ⟨g',e,k⟩ := outs_ok h
    cases e
    obtain ⟨ρ',w',u,k1,k2,k3,k4⟩ := k args.toList hp v hp' hg rargs ρ w (wrel_env (E := Eo O) (E' := Eb) rfl rfl hw) hr
    exact ⟨ρ',w',u,k1,wrel_env (E := Eb) (E' := Eo O) rfl rfl k2,k3,k4⟩
  meth := fun t name f b h v x w hv => meths_ok h v x w hv
  asks := fun t a b h => asks_ok h
  held := fun t e h => held_ok h

theorem mixed : Tryz.prog.follows .mixedOrders = true := by kernel_rfl

end Go.Proofs.YtgiompikfhhkmaaGreatDoor

/- Proved: the law TellUnlike returns true at every two constraints, from every start that fits the row (the tied card of TellUnlike). Conditions: none beyond the row's own: the one listed table (internal/strconv.uint64pow10) reads as the program's text lays it, and this is tied by the given texts. The seat is cut with walls (the translator's switch -farwalls): the run comes to none of them. -/
import Derived.Test.YtaclddcneogolaaGreatDoorLaw
import Derived.Test.YtaclddcneogolaaGreatDoorFin
import Derived.Lib.SmallJoins
set_option linter.unusedVariables false
set_option linter.unusedSimpArgs false
namespace Go.Proofs.YtaclddcneogolaaGreatDoor
open Go Go.Sim Go.ChangeShapes Go.WideShapes Go.ChangeAt Go.RowKit Go.Joins
set_option maxRecDepth 100000

theorem cn_self (ρ : Ren) (x : Tg) : VRel ρ (cnA x) (cnA x) := plain_self 3 _ (by rfl)
theorem cns_rel (x y : Tg) : LRel ρ0 (#[cnA x, cnA y] : Array Value).toList (#[cnA x, cnA y] : Array Value).toList := by
  refine ⟨rfl, fun i a b h1 h2 => ?_⟩
  rw [h1] at h2
  obtain rfl := Option.some.inj h2
  have hm : a ∈ [cnA x, cnA y] := List.mem_of_getElem? h1
  simp only [List.mem_cons, List.not_mem_nil, or_false] at hm
  rcases hm with rfl | rfl
  · exact cn_self _ _
  · exact cn_self _ _

/-- THE WALK -/
theorem walkU {W : World} {cs : Array Value} (hb : W.heap[0]? = some (.cells cs 342 (0, 0))) (hs : cs.size = 20) (hc : ∀ i, i < 20 → cs.toList[i]? = some (.int .u64 (10 ^ i)))
    {x y : Tg} (hx : -9223372036854775808 ≤ x.2.2 ∧ x.2.2 ≤ 9223372036854775807) (hy : -9223372036854775808 ≤ y.2.2 ∧ y.2.2 ≤ 9223372036854775807) :
    Calls Tryz.prog 6 #[cnA x, cnA y] W fun e W' => e = .returned (.bool true) ∧ ∀ may, W.keptBut W' may := by
  obtain ⟨h', hr⟩ := unlike_run (k := 0) hx hy
  rw [unlike_true] at hr
  refine Calls.mono (calls_of_run (E := Eo OU) (envOK OU) (drawOK OU) okU (f := 6) (args := #[cnA x, cnA y]) (rargs := #[cnA x, cnA y]) (show (Eo OU).O 6 = none from rfl) hr (start_rel hb hs hc) start_glob (cns_rel x y)) fun e W' he => ?_
  obtain ⟨ρ', u, rfl, hv, _, hk⟩ := he
  cases hv
  exact ⟨rfl, fun may => kept_of hk may⟩

theorem structReads {H : Type} {enc : TypeId × Value → H} (W' : World) (b : Nat) (sp : Nat → Bool) (hd : Bool) {x : Tg} (w0 : (Lit.int .i64 x.1).wf = true) (w1 : (Lit.int .i64 x.2.1).wf = true) (w2 : (Lit.int .i64 x.2.2).wf = true) :
    DataW.Trod enc Tryz.prog W' b sp hd 32 (cnA x) (.agg [.lit (.int .i64 x.1), .lit (.int .i64 x.2.1), .lit (.int .i64 x.2.2)]) [] := by
  exact shut_agg3 (v0 := .int .i64 x.1) (v1 := .int .i64 x.2.1) (v2 := .int .i64 x.2.2) (enc := enc) (w := W') (base := b) (spare := sp) (held := hd) (y0 := (.lit (.int .i64 x.1), [])) (y1 := (.lit (.int .i64 x.2.1), [])) (y2 := (.lit (.int .i64 x.2.2), [])) Tryz.underlying32 (by kernel_rfl) (by kernel_rfl) ⟨1, by simp [DataW.trod, Tryz.underlying3, w0]⟩ ⟨1, by simp [DataW.trod, Tryz.underlying3, w1]⟩ ⟨1, by simp [DataW.trod, Tryz.underlying3, w2]⟩

theorem structOpens {H : Type} {enc : TypeId × Value → H} {W : World} {base b0 : Nat} {sp : Nat → Bool} {hd : Bool} {r : Reach} {v : Value} {d : DataW H} {p : List MemPlace} (hv : Value.okWide Tryz.prog W r b0 32 v) (h : DataW.Trod enc Tryz.prog W base sp hd 32 v d p) :
    ∃ x : Tg, v = cnA x ∧ d = .agg [.lit (.int .i64 x.1), .lit (.int .i64 x.2.1), .lit (.int .i64 x.2.2)] ∧ p = [] ∧ (Lit.int .i64 x.1).wf = true ∧ (Lit.int .i64 x.2.1).wf = true ∧ (Lit.int .i64 x.2.2).wf = true := by
  obtain ⟨c0, c1, c2, y0, y1, y2, m, rfl, rfl, rfl, hy0, hy1, hy2⟩ := open_agg3 Tryz.underlying32 (by kernel_rfl) (by kernel_rfl) hv h
  obtain ⟨x, e0, rfl, wx⟩ := DataW.trod_int Tryz.underlying3 hy0
  obtain ⟨y, e1, rfl, wy⟩ := DataW.trod_int Tryz.underlying3 hy1
  obtain ⟨f, e2, rfl, wf⟩ := DataW.trod_int Tryz.underlying3 hy2
  simp at e0 e1 e2
  subst e0 e1 e2
  exact ⟨(x, y, f), rfl, rfl, rfl, wx, wy, wf⟩

theorem liftedU (os : Os) (started : os.Started) (H : Type) (enc : TypeId × Value → H) :
    ReturnsInHanded {} Tryz.checked os 6 .any (fun w args => (Rows.tellUnlikeSpec.pre enc Tryz.prog Tryz.f6 [] false w args ∧ laidMetH Tryz.prog laid1 w) ∧ sizedMet enc Tryz.prog Tryz.f6 (OpenSpec.ofChange Rows.tellUnlikeSpec) false w args)
      (Rows.tellUnlikeSpec.post enc Tryz.prog Tryz.f6 false true false false) := by
  refine returnsInHanded_of_calls (C := Tryz.checked) own started (by kernel_rfl)
    (ChangeSpec.witness_shaped (enc := enc) (C := Tryz.checked) (os := os) (X := fun w _ => laidMetH Tryz.prog laid1 w) false (World.laidAll Tryz.prog os laid1) #[.agg #[.int .i64 0, .int .i64 0, .int .i64 0], .agg #[.int .i64 0, .int .i64 0, .int .i64 0]] 8 (World.laidAll_os _ _ _)
      (World.shaped_of_ZipB (by kernel_rfl) (by kernel_rfl)) (by kernel_rfl) (by kernel_rfl) (by kernel_rfl)
      (by rw [MakeChecks.laidMetH_plain _ _ _ (by kernel_rfl)]; exact laidMet_laidAll _ (by kernel_rfl) (by kernel_rfl))) ?_
  intro w tape i _ hsh _ hok hpre _
  obtain ⟨_, _, _, fn', hfn', _, _, _, _, hval⟩ := hok
  obtain rfl : fn' = Tryz.f6 := (Option.some.inj (Tryz.func6.symm.trans hfn')).symm
  obtain ⟨⟨⟨ds, gs, before, hw, hc⟩, hx⟩, hz⟩ := hpre
  have hw' := DataW.Whole.of_heap (w' := w.forCall tape i) (by rfl) hw
  have hX : laidMetH Tryz.prog laid1 (w.forCall tape i) := hx.of_heap (by rfl)
  obtain ⟨cs0, hv, hcs⟩ := pow_cells hX
  obtain ⟨zero, hrow, hzs⟩ : ∃ zero : Array Value, (((begin Tryz.prog (fun _ _ => 0) default).world.heap[0]?).bind Obj.row?) = some (zero, 342) ∧ zero.size = 20 := by
    have e : ((((begin Tryz.prog (fun _ _ => 0) default).world.heap[0]?).bind Obj.row?).map fun x => (x.1.size, x.2)) = some (20, 342) := by kernel_rfl
    obtain ⟨⟨z, t⟩, h1, h2⟩ := Option.map_eq_some_iff.1 e
    simp only [Prod.mk.injEq] at h2
    obtain ⟨h2, rfl⟩ := h2
    exact ⟨z, h1, h2⟩
  obtain ⟨cs, hb, hsz, _⟩ := hsh.1 0 zero 342 (show 0 < Tryz.prog.globals.size from by rw [show Tryz.prog.globals.size = 2 by kernel_rfl]; omega) hrow
  have hcs' : cs0 = cs := by
    unfold World.var? at hv
    rw [g0] at hv
    simp only [Option.bind_some, hb] at hv
    exact (Option.some.inj hv).symm
  subst hcs'
  have hW := hw'
  obtain ⟨p, q, hA0, hV, rfl, hfz, hnd⟩ := hW
  have hA : DataW.TrodAll enc Tryz.prog (w.forCall tape i) 0 (fun _ => true) true Tryz.f6.params.toList i.args.toList ds p := hA0
  rw [Tryz.params6] at hA hval
  obtain ⟨v0, v1, d0, d1, p0, p1, hargs, rfl, rfl, h0, h1⟩ := trodAll_two hA
  obtain ⟨rfl, rfl⟩ := trodVars_none hV
  rw [hargs] at hval hw' ⊢
  obtain ⟨x, rfl, rfl, rfl, wx0, wx1, wx2⟩ := structOpens (hval 0 32 v0 rfl rfl) h0
  obtain ⟨y, rfl, rfl, rfl, wy0, wy1, wy2⟩ := structOpens (hval 1 32 v1 rfl rfl) h1
  refine (walkU hb (by omega) hcs (bounds_i64 wx2) (bounds_i64 wy2)).mono fun e W' ⟨he, hk⟩ => ?_
  subst he
  refine ChangeSpec.post_blind ⟨_, [], _, [], [], [], hw', ?_, ?_, ?_, hk _, fun h => by cases h⟩
  · exact trodAll_mk1 (shut_bool Tryz.underlying4 _)
  · rw [Tryz.params6]; exact trodAll_mk2 (p := []) (p' := []) (structReads _ _ _ _ wx0 wx1 wx2) (structReads _ _ _ _ wy0 wy1 wy2)
  · rfl

theorem tellUnlike_holds : Rows.TellUnlikeSaid :=
  OpenClaim.holds_of_wide 6 Tryz.f6 rfl rfl rfl rfl rfl rfl rfl ⟨rfl, rfl, rfl, rfl, rfl⟩ rfl rfl rfl rfl rfl (by kernel_rfl) Tryz.func6 (by kernel_rfl)
    (of_decide_eq_true (by kernel_rfl)) (by unfold Func.isWrapper; first | (rw [if_pos (by decide +kernel)]; kernel_rfl) | (rw [if_neg (by decide +kernel)]; exact ⟨rfl, rfl⟩))
    (fun os started H enc _ => liftedU os started H enc)

/-- THE STATEMENT: the tied card of TellUnlike -/
theorem tellUnlike_card : Rows.TellUnlikeCardSaid :=
  Claim7.holds_tied_plain_at .later [] [.data] true (true, "3e036517b1b3998e31826ec3228c434d4005399fcbe3a6d33bfa930043602b64") true
    tellUnlike_holds (fun _ h => by cases h) (by kernel_rfl) (fun _ h => by cases h) tellUnlike_row_tie rfl ⟨rfl, rfl⟩ (by kernel_rfl) rfl
    (fun f fn hf hfn => by
      obtain rfl : f = 6 := Option.some.inj ((show Tryz.prog.funcNamed Rows.tellUnlikeRow.func = some 6 by kernel_rfl).symm.trans hf) |>.symm
      obtain rfl : fn = Tryz.f6 := (Option.some.inj (Tryz.func6.symm.trans hfn)).symm
      exact ⟨by kernel_rfl, fun j t ht => by
        rw [Tryz.params6] at ht
        have hm : t ∈ [32, 32] := by simpa using Array.mem_of_getElem? ht
        have hall : ([32, 32].all fun u => !Tryz.prog.wantsStandIn u) = true := by kernel_rfl
        exact (show Tryz.prog.wantsStandIn t = false by simpa using List.all_eq_true.1 hall t hm)⟩)
    (by kernel_rfl)
#print axioms tellUnlike_card
end Go.Proofs.YtaclddcneogolaaGreatDoor

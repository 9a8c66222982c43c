/- Proved: the law TellParts returns true at every claim of bulk at most 1048576, from every start that fits the row (the tied card of TellParts, second form). Conditions: none beyond the row's own: the bound on what comes in, and the one listed table (internal/strconv.uint64pow10), which reads as the program's text lays it: this is tied by the given texts. The seat is cut with walls (the translator's switch -farwalls): the run comes to none of them. -/
import Derived.Test.YtaclddcneogolaaGreatDoorParW
import Derived.Test.YtaclddcneogolaaGreatDoorRea
import Derived.Deep.DeepHandedRow
set_option linter.unusedVariables false
set_option linter.unusedSimpArgs false
namespace Go.Proofs.YtaclddcneogolaaGreatDoor
open Go Go.Sim Go.ChangeShapes Go.WideShapes Go.ChangeAt Go.RowKit Go.Joins Go.Deep
set_option maxRecDepth 100000

theorem split128 {l : List Value} (h : l.length = 128) : l = (l.drop 0).take 1 ++ ((l.drop 1).take 30 ++ ((l.drop 31).take 96 ++ (l.drop 127).take 1)) := by
  have e1 : (l.drop 127).take 1 = l.drop 127 := List.take_of_length_le (by rw [List.length_drop]; omega)
  have e2 : (l.drop 31).take 96 ++ l.drop 127 = l.drop 31 := by
    have := List.take_append_drop 96 (l.drop 31)
    rw [List.drop_drop] at this
    exact this
  have e3 : (l.drop 1).take 30 ++ l.drop 31 = l.drop 1 := by
    have := List.take_append_drop 30 (l.drop 1)
    rw [List.drop_drop] at this
    exact this
  rw [e1, e2, e3, List.drop_zero]
  exact (List.take_append_drop 1 l).symm
theorem c4 : Tryz.prog.cellsOf 4 = 1 := by kernel_rfl
theorem c25 : Tryz.prog.cellsOf 25 = 30 := by kernel_rfl
theorem c26 : Tryz.prog.cellsOf 26 = 96 := by kernel_rfl
theorem c27 : Tryz.prog.cellsOf 27 = 1 := by kernel_rfl
theorem c29 : Tryz.prog.cellsOf 29 = 128 := by kernel_rfl

/-- the last cell's address is plain, its block is there -/
theorem cons_okWide {W : World} {b0 : Nat} {cs : Array Value} {a : Addr} {n cap : Nat} (h : Value.okWide Tryz.prog W .any b0 29 (.agg cs)) (hc : cs[127]? = some (.slice (some a) n cap)) : a.spot = none ∧ ∃ row cells, W.shape? a.block = some (row, cells) := by
  have e : (Tryz.prog.cellTypes Tryz.prog.depth 29).map (fun ts => (ts.length, ts[127]?)) = some (128, some 27) := by kernel_rfl
  simp only [Value.okWide, Tryz.underlying29] at h
  obtain ⟨cs', e', _, ts, hts, _, hcell⟩ := h
  obtain rfl := Value.agg.inj e'
  rw [hts] at e
  simp only [Option.map_some, Option.some.injEq, Prod.mk.injEq] at e
  obtain ⟨u, hu, hok⟩ := hcell 127 _ hc
  rw [e.1, show 127 % 128 = 127 from rfl, e.2] at hu
  obtain rfl := Option.some.inj hu
  simp only [Cell.okWide, Tryz.underlying27, Cell.ok, World.has] at hok
  obtain ⟨_, _, _, h2, row, cells, h3, _⟩ := hok
  exact ⟨h2, row, cells, h3⟩

/-- WHAT COMES IN -/
theorem claim_opens {H : Type} {enc : TypeId × Value → H} {W : World} {b0 : Nat} {hd : Bool} {v : Value} {d : DataW H} {p : List MemPlace} (hv : Value.okWide Tryz.prog W .any b0 29 v) (h : DataW.Trod enc Tryz.prog W 0 (fun _ => true) hd 29 v d p) :
    ∃ (dead : Bool) (rs ss l : List Tg) (cv : Value), v = .agg (clV dead rs ss cv).toArray ∧ rs.length = 10 ∧ ss.length = 32 ∧ (∀ t ∈ rs, t.fits) ∧ (∀ t ∈ ss, t.fits) ∧ (∀ t ∈ l, t.fits) ∧ (Rows.uptoBulk d ≤ 1048576 → l.length ≤ 300000) ∧
      ((cv = .slice none 0 0 ∧ l = [] ∧ p = []) ∨ ∃ (a : Addr) (cap : Nat), cv = .slice (some ⟨a.block, a.off, none⟩) l.length cap ∧ cap ≤ maxLen ∧ a.spot = none ∧ a.block < W.heap.size ∧ (∀ q ∈ p, ∃ off, q = .cell a.block off) ∧ ∀ i v, (tgVs l)[i]? = some v → W.cell? ⟨a.block, a.off + i, none⟩ = some v) := by
  obtain ⟨cs, rfl, hsz⟩ := okWide_struct Tryz.underlying29 hv
  obtain ⟨fuel, hf⟩ := h
  obtain ⟨y0, y1, y2, y3, n, hx, hlen, t0, t1, t2, t3⟩ := trod_struct4 Tryz.underlying29 hf
  simp only [Prod.mk.injEq] at hx
  obtain ⟨rfl, rfl⟩ := hx
  have hcs : (Value.agg cs).cells = cs := rfl
  rw [hcs] at t0 t1 t2 t3 hlen
  rw [c29] at hlen
  simp only [c4] at t0
  simp only [c25] at t1
  simp only [c26] at t2
  simp only [c27] at t3
  obtain ⟨dead, e0, rfl⟩ := DataW.trod_bool Tryz.underlying4 t0
  obtain ⟨rs, lr, e1, fr, rfl⟩ := open_tags (m := 10) Tryz.underlying25 (by kernel_rfl) t1
  obtain ⟨ss, ls, e2, fs, rfl⟩ := open_tags (m := 32) Tryz.underlying26 (by kernel_rfl) t2
  have hsp := split128 hlen
  rcases open_cons t3 with ⟨e3, rfl⟩ | ⟨a, cap, l, sd, e3, hlc, hcm, rfl, fl, hel, _⟩
  · refine ⟨dead, rs, ss, [], .slice none 0 0, ?_, lr, ls, fr, fs, by simp, fun _ => by simp, .inl ⟨rfl, rfl, rfl⟩⟩
    rw [e0, e1, e2, e3] at hsp
    congr 1
    apply Array.toList_inj.1
    rw [hsp]
    rfl
  · have hcs127 : cs.toList = clV dead rs ss (.slice (some a) l.length cap) := by
      rw [e0, e1, e2, e3] at hsp
      rw [hsp]
      rfl
    have h127 : cs[127]? = some (.slice (some a) l.length cap) := by
      rw [← Array.getElem?_toList, hcs127]
      exact clV_cons lr ls
    obtain ⟨hspot, row, cells, hshape⟩ := cons_okWide hv h127
    have hblk : a.block < W.heap.size := by
      rcases Nat.lt_or_ge a.block W.heap.size with hl | hl
      · exact hl
      · unfold World.shape? at hshape
        rw [Array.getElem?_eq_none hl] at hshape
        simp at hshape
    have ha : (⟨a.block, a.off, none⟩ : Addr) = a := by
      obtain ⟨b, o, s⟩ := a
      simp only at hspot
      rw [hspot]
    refine ⟨dead, rs, ss, l, .slice (some ⟨a.block, a.off, none⟩) l.length cap, ?_, lr, ls, fr, fs, fl, fun hk => ?_, .inr ⟨a, cap, rfl, hcm, hspot, hblk, fun q hq => ?_, cons_cell hspot hel⟩⟩
    · rw [ha, ← hcs127]
    · simp only [Rows.uptoBulk, Rows.uptoBulkAll, bulk_tags] at hk
      omega
    · simp only [List.nil_append] at hq
      obtain ⟨i, _, rfl⟩ := List.mem_map.1 hq
      exact ⟨_, rfl⟩

/-- THE WALK, of what came in -/
theorem claim_walk {H : Type} {enc : TypeId × Value → H} {W : World} {b0 : Nat} {v : Value} {d : DataW H} {p : List MemPlace} {cs : Array Value} (hb : W.heap[0]? = some (.cells cs 342 (0, 0))) (hs : cs.size = 20) (hc : ∀ i, i < 20 → cs.toList[i]? = some (.int .u64 (10 ^ i)))
    (hv : Value.okWide Tryz.prog W .any b0 29 v) (h : DataW.Trod enc Tryz.prog W 0 (fun _ => true) true 29 v d p) (hk : Rows.uptoBulk d ≤ 1048576) :
    (∀ q ∈ p, q.block < W.heap.size) ∧ Calls Tryz.prog 5 #[v] W fun e W' => e = .returned (.bool true) ∧ (∀ may, W.keptBut W' may) ∧ ∀ i, i < W.heap.size → W'.heap[i]? = W.heap[i]? := by
  obtain ⟨dead, rs, ss, l, cv, rfl, lr, ls, fr, fs, fl, hlen, hcase⟩ := claim_opens hv h
  have hl := hlen hk
  have hml : maxLen = 9223372036854775807 := by decide
  have hoc : openCap = 1180591620717411303424 := rfl
  rcases hcase with ⟨rfl, rfl, rfl⟩ | ⟨a, cap, rfl, hcm, _, hblk, hp, hcell⟩
  · exact ⟨by simp, walkP (ρ := ρ0) (h := h0) (cvS := .slice none 0 0) (start_rel hb hs hc) start_glob (no_own0 (n := 2)) (.slcNil (by omega)) rfl (by decide) (by decide) lr ls fr fs fl hl (.inl ⟨none, 0, rfl, rfl⟩)⟩
  · refine ⟨fun q hq => ?_, ?_⟩
    · obtain ⟨off, rfl⟩ := hp q hq
      exact hblk
    · by_cases h0l : l = []
      · subst h0l
        exact walkP (ρ := ρP a.block) (h := ⟨h0.t, 3⟩) (cvS := .slice (some ⟨2, a.off, none⟩) 0 cap) (none_rel hb hs hc a.block) (parts_glob a.block) no_own0 (.slc (by omega) rfl) rfl (by decide) (by decide) lr ls fr fs fl hl (.inl ⟨_, cap, rfl, rfl⟩)
      · have hpos : 0 < l.length := List.length_pos_iff.2 h0l
        refine walkP (ρ := ρP a.block) (h := hP l a.off) (cvS := .slice (some ⟨2, a.off, none⟩) l.length cap) (parts_rel hb hs hc hpos hcell) (parts_glob a.block) no_ownP (.slc (by omega) rfl) ?_ (show 0 < 3 by decide) (show 3 ≤ 3 by decide) lr ls fr fs fl hl (.inr ⟨2, a.off, cap, .far (Tr.ofL 33 (tgVs l)) (l.length * 3) a.off, rfl, show 2 < 3 by decide, ?_, fun j c hj => ?_⟩)
        · simp only [hP, get_put]
          rw [if_neg (by decide)]
        · simp only [hP, get_put]
          exact if_pos ⟨trivial, by decide⟩
        · refine ⟨by omega, ?_⟩
          have hj' : j < l.length := (List.getElem?_eq_some_iff.1 hj).1
          have tl := tgVs_len l
          have := toL_of_ofL 31 32 (tgVs l) (by decide) (by rw [tl]; omega)
          rw [show a.off + j * 3 - a.off = j * 3 by omega]
          exact sub_list this (by omega) (by have : lim = 4294967296 := rfl; omega) (tgVs_at l j c hj)

def zeroClaim : Value := .agg (clV false rs0 ss0 nilS).toArray
theorem reads0 (os : Os) {H : Type} (enc : TypeId × Value → H) : DataW.whole enc Tryz.prog ((World.laidAll Tryz.prog os laid1).forCall (fun _ _ => 0) ⟨#[], #[zeroClaim], []⟩).memory Tryz.f5.params.toList (Rows.OpenSpec.upto Rows.tellPartsSpec).vars false #[zeroClaim].toList 8 =
    some ([.agg [.lit (.bool false), .agg (rs0.map tagD), .agg (ss0.map tagD), .nil]], [], []) := by kernel_rfl

set_option maxHeartbeats 1000000 in
theorem liftedP (os : Os) (started : os.Started) (H : Type) (enc : TypeId × Value → H) (F : Stop.Interp) :
    ReturnsInHanded {} Tryz.checked os 5 .any ((Rows.OpenSpec.upto Rows.tellPartsSpec).preRow enc Tryz.prog Tryz.f5 Rows.tellPartsUptoRow.domain false Rows.tellPartsUptoRow.laid) (((Rows.OpenSpec.upto Rows.tellPartsSpec).at F).post enc Tryz.prog Tryz.f5 false true false false) := by
  refine returnsInHanded_of_row (C := Tryz.checked) (s := Rows.OpenSpec.upto Rows.tellPartsSpec) own started (by kernel_rfl) Tryz.func5
    (witness_row_at (enc := enc) (C := Tryz.checked) false (World.laidAll Tryz.prog os laid1) #[zeroClaim] (World.laidAll_os _ _ _) (by kernel_rfl) (by kernel_rfl) (by kernel_rfl)
      (OpenSpec.preRow_of_cond 8 (reads0 os enc) (by kernel_rfl) (fun k hk => by cases hk; kernel_rfl) (by kernel_rfl) (by rw [MakeChecks.laidMetH_plain _ _ _ (by kernel_rfl)]; exact laidMet_laidAll _ (by kernel_rfl) (by kernel_rfl)))) ?_
  intro W base args ds gs before hval hW _ hcond _ hL hsh _
  obtain ⟨cs0, hv, hcs⟩ := pow_cells hL
  obtain ⟨zero, hrow, hzs⟩ : ∃ zero : Array Value, (((begin Tryz.prog (fun _ _ => 0) default).world.heap[0]?).bind Obj.row?) = some (zero, 342) ∧ zero.size = 20 := by
    have e : ((((begin Tryz.prog (fun _ _ => 0) default).world.heap[0]?).bind Obj.row?).map fun x => (x.1.size, x.2)) = some (20, 342) := by kernel_rfl
    obtain ⟨⟨z, t⟩, h1, h2⟩ := Option.map_eq_some_iff.1 e
    simp only [Prod.mk.injEq] at h2
    obtain ⟨h2, rfl⟩ := h2
    exact ⟨z, h1, h2⟩
  obtain ⟨cs, hb, hsz, _⟩ := hsh.1 0 zero 342 (show 0 < Tryz.prog.globals.size from by rw [show Tryz.prog.globals.size = 2 by kernel_rfl]; omega) hrow
  have hcs' : cs0 = cs := by
    unfold World.var? at hv
    rw [g0] at hv
    simp only [Option.bind_some, hb] at hv
    exact (Option.some.inj hv).symm
  subst hcs'
  have hW' := hW
  obtain ⟨p, q, hA0, hV, rfl, hfz, hnd⟩ := hW
  have hA : DataW.TrodAll enc Tryz.prog W 0 (fun _ => true) true Tryz.f5.params.toList args.toList ds p := hA0
  rw [Tryz.params5] at hA hval
  obtain ⟨v0, vs0, d0, ds0, p0, q0, hargs, rfl, rfl, h0, r0⟩ := trodAll_cons hA
  obtain ⟨rfl, rfl, rfl⟩ := trodAll_nil r0
  obtain rfl : args = #[v0] := by cases args; simp_all
  obtain ⟨rfl, rfl⟩ := trodVars_none hV
  have hk : Rows.uptoBulk d0 ≤ 1048576 := by
    have h1 : Rows.uptoSmall H ([d0] ++ []) = true := hcond _ rfl
    have h2 : Rows.uptoBulkAll ([d0] ++ []) ≤ 1048576 := of_decide_eq_true h1
    simp only [List.append_nil, Rows.uptoBulkAll] at h2
    omega
  obtain ⟨hpb, hwalk⟩ := claim_walk hb (by omega) hcs (hval 0 29 v0 rfl rfl) h0 hk
  refine hwalk.mono fun e W' ⟨he, hkept, hsame⟩ => ?_
  subst he
  refine ⟨_, rfl, _, [], _, [], p0, [], hW', ?_, ?_, rfl, hkept _, fun h => by cases h⟩
  · exact trodAll_mk1 (shut_bool Tryz.underlying4 _)
  · rw [Tryz.params5]
    have stays : DataW.Trod enc Tryz.prog W' 0 (fun b => decide (b < W.heap.size)) true 29 v0 d0 p0 := WideElems.Trod_stays (by kernel_rfl) (by kernel_rfl) (of_decide_eq_true (by kernel_rfl)) h0 (fun x hx => by
      have hlt := hpb x hx
      cases x with
      | cell b off =>
        show W'.cell? ⟨b, off, none⟩ = W.cell? ⟨b, off, none⟩
        unfold World.cell?
        rw [hsame b hlt]
      | map b => exact hsame b hlt) (fun x hx => decide_eq_true (hpb x hx))
    exact trodAll_mk1 stays

theorem tellPartsUpto_holds : Rows.TellPartsUptoSaid :=
  OpenClaim.holds_of_cond 5 Tryz.f5 rfl rfl rfl rfl rfl rfl rfl ⟨rfl, rfl, rfl, rfl, rfl⟩ rfl rfl rfl rfl rfl (by kernel_rfl) Tryz.func5 (by kernel_rfl)
    (of_decide_eq_true (by kernel_rfl)) (by unfold Func.isWrapper; first | (rw [if_pos (by decide +kernel)]; kernel_rfl) | (rw [if_neg (by decide +kernel)]; exact ⟨rfl, rfl⟩))
    (fun os started H enc _ F => by rw [OpenClaim.pre_eq_preRow]; exact liftedP os started H enc F)

/-- THE STATEMENT: the tied card of TellParts, second form -/
theorem tellPartsUpto_card : Rows.TellPartsUptoCardSaid :=
  Claim7.holds_tied_plain_at .later [] [.data] true (true, "3e036517b1b3998e31826ec3228c434d4005399fcbe3a6d33bfa930043602b64") true
    tellPartsUpto_holds (fun _ h => by cases h) (by kernel_rfl) (fun _ h => by cases h) tellPartsUpto_row_tie rfl ⟨rfl, rfl⟩ (by kernel_rfl) rfl
    (fun f fn hf hfn => by
      obtain rfl : f = 5 := Option.some.inj ((show Tryz.prog.funcNamed Rows.tellPartsUptoRow.func = some 5 by kernel_rfl).symm.trans hf) |>.symm
      obtain rfl : fn = Tryz.f5 := (Option.some.inj (Tryz.func5.symm.trans hfn)).symm
      exact ⟨by kernel_rfl, fun j t ht => by
        rw [Tryz.params5] at ht
        have hm : t ∈ [29] := by simpa using Array.mem_of_getElem? ht
        have hall : ([29].all fun u => !Tryz.prog.wantsStandIn u) = true := by kernel_rfl
        exact (show Tryz.prog.wantsStandIn t = false by simpa using List.all_eq_true.1 hall t hm)⟩)
    (by kernel_rfl)
#print axioms tellPartsUpto_card
end Go.Proofs.YtaclddcneogolaaGreatDoor

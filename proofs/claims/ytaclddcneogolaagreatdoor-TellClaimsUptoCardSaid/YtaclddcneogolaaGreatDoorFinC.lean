/- Proved: the law TellClaims returns true at every claim of bulk at most 1048576, from every start that fits the row (the tied card of TellClaims, second form). Conditions: none beyond the row's own: the bound on what comes in, and the one listed table (internal/strconv.uint64pow10), which reads as the program's text lays it: this is tied by the given texts. The seat is cut with walls (the translator's switch -farwalls): the run comes to none of them. -/
import Derived.Test.YtaclddcneogolaaGreatDoorCpA
import Derived.Test.YtaclddcneogolaaGreatDoorParW
import Derived.Test.YtaclddcneogolaaGreatDoorRdA
import Derived.Deep.DeepHandedRow
set_option linter.unusedVariables false
set_option linter.unusedSimpArgs false
namespace Go.Proofs.YtaclddcneogolaaGreatDoor
open Go Go.Sim Go.ChangeShapes Go.WideShapes Go.ChangeAt Go.RowKit Go.Joins Go.Deep
set_option maxRecDepth 100000

/-- THE WALK -/
theorem walkC {W : World} {d : Bool} {rs ss l : List Tg} {cvS cvR : Value} {ρ : Ren} {h : SHeap} (hw : WRel (Eo OU) ρ h W) (hg : GRel (Eo OU) ρ) (hno : ∀ r,¬ Own ρ h r) (hv : VRel ρ cvS cvR) (tab : h.t.get 0 = h0.t.get 0) (hn : 0 < h.next) (hn3 : h.next ≤ 3)
    (hrs : rs.length = 10) (hss : ss.length = 32) (frs : ∀ t ∈ rs,t.fits) (fss : ∀ t ∈ ss,t.fits) (fl : ∀ t ∈ l,t.fits) (hl : l.length ≤ 300000) (hwh : Whole3 h cvS l) (hcons : ConsIn h cvS l) :
    Calls Tryz.prog 4 #[.agg (clV d rs ss cvR).toArray] W fun e W' => e = .returned (.bool true) ∧ (∀ may,W.keptBut W' may) ∧ ∀ i,i < W.heap.size → W'.heap[i]? = W.heap[i]? := by
  obtain ⟨h',hr⟩ := claims_run (k := 0) (d := d) hrs hss frs fss fl hl (by have : lim = 4294967296 := rfl; omega) hwh hcons tab hn
  refine Calls.mono (calls_of_run (E := Eo OU) (envOK OU) (drawOK OU) okU (f := 4) (args := #[.agg (clV d rs ss cvS).toArray]) (rargs := #[.agg (clV d rs ss cvR).toArray]) (show (Eo OU).O 4 = none from rfl) hr hw hg ?_) fun e W' he => ?_
  · refine ⟨rfl,fun i v u h1 h2 => ?_⟩
    cases i with
    | zero =>
      obtain rfl := Option.some.inj h1
      obtain rfl := Option.some.inj h2
      exact .agg' (clV_rel hv)
    | succ i => simp at h1
  · obtain ⟨ρ',u,rfl,hv,_,hk⟩ := he
    cases hv
    obtain ⟨k1,k2⟩ := kept_gen hno hk
    exact ⟨rfl,k1,k2⟩
/-- THE WALK,of what came in -/
theorem claim_walkC {H : Type} {enc : TypeId × Value → H} {W : World} {b0 : Nat} {v : Value} {d : DataW H} {p : List MemPlace} {cs : Array Value} (hb : W.heap[0]? = some (.cells cs 342 (0,0))) (hs : cs.size = 20) (hc : ∀ i,i < 20 → cs.toList[i]? = some (.int .u64 (10 ^ i)))
    (hv : Value.okWide Tryz.prog W .any b0 29 v) (h : DataW.Trod enc Tryz.prog W 0 (fun _ => true) true 29 v d p) (hk : Rows.uptoBulk d ≤ 1048576) :
    (∀ q ∈ p,q.block < W.heap.size) ∧ Calls Tryz.prog 4 #[v] W fun e W' => e = .returned (.bool true) ∧ (∀ may,W.keptBut W' may) ∧ ∀ i,i < W.heap.size → W'.heap[i]? = W.heap[i]? := by
  obtain ⟨dead,rs,ss,l,cv,rfl,lr,ls,fr,fs,fl,hlen,hcase⟩ := claim_opens hv h
  have hl := hlen hk
  have hml : maxLen = 9223372036854775807 := by decide
  have hoc : openCap = 1180591620717411303424 := rfl
  rcases hcase with ⟨rfl,rfl,rfl⟩ | ⟨a,cap,rfl,hcm,_,hblk,hp,hcell⟩
  · exact ⟨by simp,walkC (ρ := ρ0) (h := h0) (cvS := .slice none 0 looseCap) (start_rel hb hs hc) start_glob (no_own0 (n := 2)) (.slcNone none 0) rfl (by decide) (by decide) lr ls fr fs fl hl (.inl ⟨rfl,looseCap,rfl⟩) (.inl ⟨none,looseCap,rfl,rfl⟩)⟩
  · refine ⟨fun q hq => ?_,?_⟩
    · obtain ⟨off,rfl⟩ := hp q hq
      exact hblk
    · by_cases h0l : l = []
      · subst h0l
        exact walkC (ρ := ρ0) (h := h0) (cvS := .slice none 0 looseCap) (start_rel hb hs hc) start_glob (no_own0 (n := 2)) (.slcNone _ _) rfl (by decide) (by decide) lr ls fr fs fl hl (.inl ⟨rfl,looseCap,rfl⟩) (.inl ⟨none,looseCap,rfl,rfl⟩)
      · have hpos : 0 < l.length := List.length_pos_iff.2 h0l
        have tl := tgVs_len l
        have get2 : (hP l a.off).t.get 2 = some (.far (Tr.ofL 33 (tgVs l)) (l.length * 3) a.off) := by
          simp only [hP,get_put]
          exact if_pos ⟨trivial,by decide⟩
        refine walkC (ρ := ρP a.block) (h := hP l a.off) (cvS := .slice (some ⟨2,a.off,none⟩) l.length cap) (parts_rel hb hs hc hpos hcell) (parts_glob a.block) no_ownP (.slc (by omega) rfl) ?_ (show 0 < 3 by decide) (show 3 ≤ 3 by decide) lr ls fr fs fl hl
          (.inr ⟨2,a.off,cap,Tr.ofL 33 (tgVs l),l.length * 3,hpos,show 2 < 3 by decide,rfl,get2,?_⟩) (.inr ⟨2,a.off,cap,.far (Tr.ofL 33 (tgVs l)) (l.length * 3) a.off,rfl,show 2 < 3 by decide,get2,fun j c hj => ?_⟩)
        · simp only [hP,get_put]
          rw [if_neg (by decide)]
        · have := toListFrom_of (t := Tr.ofL 33 (tgVs l)) (l := tgVs l) (i := 0) (fun k hk => by rw [Nat.zero_add]; exact ofL_get_eq (by rw [tl] at hk; unfold lim; omega))
          rw [tl] at this
          exact this
        · refine ⟨by omega,?_⟩
          have hj' : j < l.length := (List.getElem?_eq_some_iff.1 hj).1
          have := toL_of_ofL 31 32 (tgVs l) (by decide) (by rw [tl]; omega)
          rw [show a.off + j * 3 - a.off = j * 3 by omega]
          exact sub_list this (by omega) (by have : lim = 4294967296 := rfl; omega) (tgVs_at l j c hj)

def zeroClaim : Value := .agg (clV false rs0 ss0 nilS).toArray
theorem reads0 (os : Os) {H : Type} (enc : TypeId × Value → H) : DataW.whole enc Tryz.prog ((World.laidAll Tryz.prog os laid1).forCall (fun _ _ => 0) ⟨#[],#[zeroClaim],[]⟩).memory Tryz.f4.params.toList (Rows.OpenSpec.upto Rows.tellClaimsSpec).vars false #[zeroClaim].toList 8 =
    some ([.agg [.lit (.bool false),.agg (rs0.map tagD),.agg (ss0.map tagD),.nil]],[],[]) := by kernel_rfl

set_option maxHeartbeats 1000000 in
theorem liftedC (os : Os) (started : os.Started) (H : Type) (enc : TypeId × Value → H) (F : Stop.Interp) :
    ReturnsInHanded {} Tryz.checked os 4 .any ((Rows.OpenSpec.upto Rows.tellClaimsSpec).preRow enc Tryz.prog Tryz.f4 Rows.tellClaimsUptoRow.domain false Rows.tellClaimsUptoRow.laid) (((Rows.OpenSpec.upto Rows.tellClaimsSpec).at F).post enc Tryz.prog Tryz.f4 false true false false) := by
  refine returnsInHanded_of_row (C := Tryz.checked) (s := Rows.OpenSpec.upto Rows.tellClaimsSpec) own started (by kernel_rfl) Tryz.func4
    (witness_row_at (enc := enc) (C := Tryz.checked) false (World.laidAll Tryz.prog os laid1) #[zeroClaim] (World.laidAll_os _ _ _) (by kernel_rfl) (by kernel_rfl) (by kernel_rfl)
      (OpenSpec.preRow_of_cond 8 (reads0 os enc) (by kernel_rfl) (fun k hk => by cases hk; kernel_rfl) (by kernel_rfl) (by rw [MakeChecks.laidMetH_plain _ _ _ (by kernel_rfl)]; exact laidMet_laidAll _ (by kernel_rfl) (by kernel_rfl)))) ?_
  intro W base args ds gs before hval hW _ hcond _ hL hsh _
  obtain ⟨cs0,hv,hcs⟩ := pow_cells hL
  obtain ⟨zero,hrow,hzs⟩ : ∃ zero : Array Value,(((begin Tryz.prog (fun _ _ => 0) default).world.heap[0]?).bind Obj.row?) = some (zero,342) ∧ zero.size = 20 := by
    have e : ((((begin Tryz.prog (fun _ _ => 0) default).world.heap[0]?).bind Obj.row?).map fun x => (x.1.size,x.2)) = some (20,342) := by kernel_rfl
    obtain ⟨⟨z,t⟩,h1,h2⟩ := Option.map_eq_some_iff.1 e
    simp only [Prod.mk.injEq] at h2
    obtain ⟨h2,rfl⟩ := h2
    exact ⟨z,h1,h2⟩
  obtain ⟨cs,hb,hsz,_⟩ := hsh.1 0 zero 342 (show 0 < Tryz.prog.globals.size from by rw [show Tryz.prog.globals.size = 2 by kernel_rfl]; omega) hrow
  have hcs' : cs0 = cs := by
    unfold World.var? at hv
    rw [g0] at hv
    simp only [Option.bind_some,hb] at hv
    exact (Option.some.inj hv).symm
  subst hcs'
  have hW' := hW
  obtain ⟨p,q,hA0,hV,rfl,hfz,hnd⟩ := hW
  have hA : DataW.TrodAll enc Tryz.prog W 0 (fun _ => true) true Tryz.f4.params.toList args.toList ds p := hA0
  rw [Tryz.params4] at hA hval
  obtain ⟨v0,vs0,d0,ds0,p0,q0,hargs,rfl,rfl,h0,r0⟩ := trodAll_cons hA
  obtain ⟨rfl,rfl,rfl⟩ := trodAll_nil r0
  obtain rfl : args = #[v0] := by cases args; simp_all
  obtain ⟨rfl,rfl⟩ := trodVars_none hV
  have hk : Rows.uptoBulk d0 ≤ 1048576 := by
    have h1 : Rows.uptoSmall H ([d0] ++ []) = true := hcond _ rfl
    have h2 : Rows.uptoBulkAll ([d0] ++ []) ≤ 1048576 := of_decide_eq_true h1
    simp only [List.append_nil,Rows.uptoBulkAll] at h2
    omega
  obtain ⟨hpb,hwalk⟩ := claim_walkC hb (by omega) hcs (hval 0 29 v0 rfl rfl) h0 hk
  refine hwalk.mono fun e W' ⟨he,hkept,hsame⟩ => ?_
  subst he
  refine ⟨_,rfl,_,[],_,[],p0,[],hW',?_,?_,rfl,hkept _,fun h => by cases h⟩
  · exact trodAll_mk1 (shut_bool Tryz.underlying4 _)
  · rw [Tryz.params4]
    have stays : DataW.Trod enc Tryz.prog W' 0 (fun b => decide (b < W.heap.size)) true 29 v0 d0 p0 := WideElems.Trod_stays (by kernel_rfl) (by kernel_rfl) (of_decide_eq_true (by kernel_rfl)) h0 (fun x hx => by
      have hlt := hpb x hx
      cases x with
      | cell b off =>
        show W'.cell? ⟨b,off,none⟩ = W.cell? ⟨b,off,none⟩
        unfold World.cell?
        rw [hsame b hlt]
      | map b => exact hsame b hlt) (fun x hx => decide_eq_true (hpb x hx))
    exact trodAll_mk1 stays

theorem tellClaimsUpto_holds : Rows.TellClaimsUptoSaid :=
  OpenClaim.holds_of_cond 4 Tryz.f4 rfl rfl rfl rfl rfl rfl rfl ⟨rfl,rfl,rfl,rfl,rfl⟩ rfl rfl rfl rfl rfl (by kernel_rfl) Tryz.func4 (by kernel_rfl)
    (of_decide_eq_true (by kernel_rfl)) (by unfold Func.isWrapper; first | (rw [if_pos (by decide +kernel)]; kernel_rfl) | (rw [if_neg (by decide +kernel)]; exact ⟨rfl,rfl⟩))
    (fun os started H enc _ F => by rw [OpenClaim.pre_eq_preRow]; exact liftedC os started H enc F)

/-- THE STATEMENT: the tied card of TellClaims,second form -/
theorem tellClaimsUpto_card : Rows.TellClaimsUptoCardSaid :=
  Claim7.holds_tied_plain_at .later [] [.data] true (true,"3e036517b1b3998e31826ec3228c434d4005399fcbe3a6d33bfa930043602b64") true
    tellClaimsUpto_holds (fun _ h => by cases h) (by kernel_rfl) (fun _ h => by cases h) tellClaimsUpto_row_tie rfl ⟨rfl,rfl⟩ (by kernel_rfl) rfl
    (fun f fn hf hfn => by
      obtain rfl : f = 4 := Option.some.inj ((show Tryz.prog.funcNamed Rows.tellClaimsUptoRow.func = some 4 by kernel_rfl).symm.trans hf) |>.symm
      obtain rfl : fn = Tryz.f4 := (Option.some.inj (Tryz.func4.symm.trans hfn)).symm
      exact ⟨by kernel_rfl,fun j t ht => by
        rw [Tryz.params4] at ht
        have hm : t ∈ [29] := by simpa using Array.mem_of_getElem? ht
        have hall : ([29].all fun u => !Tryz.prog.wantsStandIn u) = true := by kernel_rfl
        exact (show Tryz.prog.wantsStandIn t = false by simpa using List.all_eq_true.1 hall t hm)⟩)
    (by kernel_rfl)
#print axioms tellClaimsUpto_card
end Go.Proofs.YtaclddcneogolaaGreatDoor

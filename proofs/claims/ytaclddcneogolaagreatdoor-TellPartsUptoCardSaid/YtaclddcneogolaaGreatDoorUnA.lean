/- The check ahead of every body, as an oracle. The table of oracles for the laws of tell. '==' of constraints in the simulator. The simulator on the law TellUnlike. The simulator on the law TellUnlike: the whole. -/
import Derived.Test.YtaclddcneogolaaGreatDoorSnd2
import Derived.Test.YtaclddcneogolaaGreatDoorK7
import Derived.Test.YtaclddcneogolaaGreatDoorClA
set_option linter.unusedVariables false
set_option linter.unusedSimpArgs false
set_option linter.unusedSimpArgs false
set_option linter.unusedVariables false
namespace Go.Proofs.YtaclddcneogolaaGreatDoor
open Go Go.Sim
set_option maxRecDepth 100000

def powM : MObj := .cells pow10L 342 false true
def knownA (h : SHeap) (o : Option SObj) : Ex (Value × SHeap) := match o with
  | some o => bif matches' o powM then .ok (.bool true, h) else .error "known"
  | none => .error "known"
def knownQ (args : List Value) (h : SHeap) : Ex (Value × SHeap) := match args with
  | [] => knownA h (h.t.get 0)
  | _ => .error "known"

theorem h0xat {b : Nat} {o : SObj} (h : h0.t.get b = some o) : b = 0 ∧ o = powM.obj := by
  unfold h0 at h
  simp only [get_put] at h
  split at h
  · rename_i e; exact ⟨e.1, (Option.some.inj h).symm⟩
  · rw [nil_get] at h; simp at h
theorem true_of {r : Ex (Value × SHeap)} (h : isTrue r = true) : ∃ h', r = .ok (.bool true, h') := by
  unfold isTrue at h
  split at h
  · exact ⟨_, rfl⟩
  · simp at h
theorem pow_plain {v : Value} (h : v ∈ pow10L) : plainV 3 v = true := by
  unfold pow10L at h
  obtain ⟨i, _, rfl⟩ := List.mem_map.1 h
  rfl

theorem known_ok {O : OT} : OrcOK (Eo O) 7 knownQ := by
  refine orc_to (O := OL) ?_
  intro ars h v h' hok ρ w hw hg rargs ha c cs
  unfold knownQ at hok
  split at hok
  · rename_i has
    unfold knownA at hok
    split at hok
    · rename_i o ho
      cases hm : matches' o powM with
      | false => rw [hm] at hok; simp at hok
      | true =>
        rw [hm, cond_true] at hok
        simp only [Except.ok.injEq, Prod.mk.injEq] at hok
        obtain ⟨rfl, rfl⟩ := hok
        obtain ⟨hh, hr⟩ := true_of r7
        have hG : (Eo OL).G = 2 := rfl
        have hb : WRel (Eo OL) (fun b => if b < 2 then ρ b else none) h0 w := by
          refine ⟨fun b p hb => ?_, fun b o' hb => ?_, fun b b' o1 o2 r κ κ' hb hb' _ _ => by rw [(h0xat hb).1, (h0xat hb').1]⟩
          · show b < 2
            split at hb
            · assumption
            · simp at hb
          · obtain ⟨rfl, rfl⟩ := h0xat hb
            obtain ⟨r, κ, k1, k2⟩ := hw.live 0 o ho
            have k3 := matches_obj hm k2
            obtain ⟨m, k⟩ := k3
            refine ⟨r, κ, by rw [if_pos (by decide)]; exact k1, m, k.shape, k.le, k.lt, k.shut, k.room, fun i v hi => ?_, k.free, k.calm⟩
            obtain ⟨u, u1, u2⟩ := k.get i v hi
            have hp := pow_plain (List.mem_of_getElem? (ofL_get hi))
            exact ⟨u, u1, by rw [plain_eq 3 v u hp u2]; exact plain_self 3 v hp⟩
        have hg' : GRel (Eo OL) (fun b => if b < 2 then ρ b else none) := fun g hg1 => by
          obtain ⟨κ, hκ⟩ := hg g hg1
          exact ⟨κ, by dsimp only; rw [if_pos (by rw [hG] at hg1; exact hg1)]; exact hκ⟩
        have hra : rargs.toList = [] := by
          have := ha.len
          rw [has] at this
          exact List.eq_nil_of_length_eq_zero this.symm
        have hself : LRel (fun b => if b < 2 then ρ b else none) (#[] : Array Value).toList rargs.toList := by
          rw [hra]; exact LRel.nil _
        obtain ⟨ρ', w', u, g1, g2, g3, g4⟩ := (kok OL okL 60) _ _ _ _ hr _ w hb hg' rargs hself c cs (.inl rfl)
        have hu := plain_eq 3 _ _ (show plainV 3 (.bool true) = true from rfl) g1
        have hno : ∀ r, ¬ Own (fun b => if b < 2 then ρ b else none) h0 r := by
          rintro r ⟨b, o', κ, k1, k2, k3⟩
          have k4 : notRo o' := by first | exact k2 | exact k3
          obtain ⟨rfl, rfl⟩ := h0xat k1
          simp [notRo, powM, MObj.obj] at k4
        have hkeep : ∀ r, r < w.heap.size → w'.heap[r]? = w.heap[r]? := fun r hr => (g3.keep r hr (hno r)).1
        refine ⟨ρ, w', u, by rw [hu]; exact plain_self 3 _ rfl, ⟨hw.dom, fun b o hb => ?_, hw.inj⟩, ⟨Le.refl ρ, g3.size, fun r hr hn => ⟨hkeep r hr, hn⟩, g3.os, g3.output, g3.tape, fun r _ hn => hn, fun _ _ => rfl, Nat.le_refl _⟩, g4⟩
        obtain ⟨r, κ, k1, k2⟩ := hw.live b o hb
        exact ⟨r, κ, k1, k2.move (Le.refl ρ) (hkeep r k2.there)⟩
    · simp at hok
  · simp at hok
end Go.Proofs.YtaclddcneogolaaGreatDoor

set_option linter.unusedSimpArgs false
set_option linter.unusedVariables false
namespace Go.Proofs.YtaclddcneogolaaGreatDoor
open Go Go.Sim
set_option maxRecDepth 100000
def U0 : OT := fun _ => none
def U1 : OT := fun f => bif Nat.beq f 66 then some joinQ else U0 f
def U2 : OT := fun f => bif Nat.beq f 190 then some smallQ else U1 f
def U3 : OT := fun f => bif Nat.beq f 191 then some numDigitsQ else U2 f
def U4 : OT := fun f => bif Nat.beq f 192 then some fmtQ else U3 f
def U5 : OT := fun f => bif Nat.beq f 56 then some itoaQ else U4 f
def U6 : OT := fun f => bif Nat.beq f 32 then some wordsQ else U5 f
def U7 : OT := fun f => bif Nat.beq f 33 then some nameQ else U6 f
def U8 : OT := fun f => bif Nat.beq f 34 then some kindQ else U7 f
def U9 : OT := fun f => bif Nat.beq f 35 then some boundQ else U8 f
def OU : OT := fun f => bif Nat.beq f 7 then some knownQ else U9 f
theorem u0 : AllOK U0 := by intro f g h; cases h
theorem u1 : AllOK U1 := allOK_more u0 (fun _ => rfl) join_ok
theorem u2 : AllOK U2 := allOK_more u1 (fun _ => rfl) small_ok
theorem u3 : AllOK U3 := allOK_more u2 (fun _ => rfl) numDigits_ok
theorem u4 : AllOK U4 := allOK_more u3 (fun _ => rfl) fmt_ok
theorem u5 : AllOK U5 := allOK_more u4 (fun _ => rfl) (itoa_ok u4 rfl rfl rfl rfl rfl rfl)
theorem u6 : AllOK U6 := allOK_more u5 (fun _ => rfl) (words_ok u5 rfl rfl rfl)
theorem u7 : AllOK U7 := allOK_more u6 (fun _ => rfl) (name_ok u6 rfl rfl)
theorem u8 : AllOK U8 := allOK_more u7 (fun _ => rfl) (kind_ok u7 rfl rfl)
theorem u9 : AllOK U9 := allOK_more u8 (fun _ => rfl) (bound_ok u8 rfl rfl rfl)
theorem okU : AllOK OU := allOK_more u9 (fun _ => rfl) known_ok
end Go.Proofs.YtaclddcneogolaaGreatDoor

namespace Go.Proofs.YtaclddcneogolaaGreatDoor
open Go Go.Sim
set_option maxRecDepth 100000
theorem evalPure_bind {α β : Type} {P : Program} (f : α → Sem β) (a : α) (s : Sem α) (h : evalPure P s = some a) : evalPure P (s >>= f) = evalPure P (f a) := by
  induction s with
  | pure b => simp only [evalPure, Option.some.injEq] at h; subst h; rfl
  | program k ih => simp only [evalPure] at h; exact ih P h
  | _ => simp [evalPure] at h
theorem und32 : evalPure Tryz.prog (underlying 32) = some Tab.t32.desc := by kernel_rfl
theorem undi : evalPure Tryz.prog (underlying 3) = some (.int .i64) := by kernel_rfl
theorem eqI {d : Nat} {a b : Int} : evalPure Tryz.prog (Op.equalIn (d + 1) 3 (.int .i64 a) (.int .i64 b)) = some (a == b) := by
  unfold Op.equalIn
  rw [evalPure_bind _ _ _ undi]
  rfl
theorem part0 {a b c : Int} : evalPure Tryz.prog (part 3 #[.int .i64 a, .int .i64 b, .int .i64 c] 0) = some (.int .i64 a) := by kernel_rfl
theorem part1 {a b c : Int} : evalPure Tryz.prog (part 3 #[.int .i64 a, .int .i64 b, .int .i64 c] 1) = some (.int .i64 b) := by kernel_rfl
theorem part2 {a b c : Int} : evalPure Tryz.prog (part 3 #[.int .i64 a, .int .i64 b, .int .i64 c] 2) = some (.int .i64 c) := by kernel_rfl
theorem held32 : Tryz.prog.stoodInHeld 32 = false := by kernel_rfl
theorem prog_eval : evalPure Tryz.prog program = some Tryz.prog := rfl
/-- one field of the comparison -/
theorem eq_step {d o : Nat} {X Y : Array Value} {u v : Int} (h1 : evalPure Tryz.prog (part 3 X o) = some (.int .i64 u)) (h2 : evalPure Tryz.prog (part 3 Y o) = some (.int .i64 v)) :
    evalPure Tryz.prog (do
      let p ← part 3 X o
      let q ← part 3 Y o
      let r ← Op.equalIn (d + 1) 3 p q
      if (!r) = true then pure (ForInStep.done ((some false, ()) : Option Bool × Unit)) else pure (ForInStep.yield ((none, ()) : Option Bool × Unit))) = some (bif u == v then .yield (none, ()) else .done (some false, ())) := by
  rw [evalPure_bind _ _ _ h1, evalPure_bind _ _ _ h2, evalPure_bind _ _ _ eqI]
  cases u == v <;> rfl
theorem eq32 {d : Nat} {a b c x y z : Int} : evalPure Tryz.prog (Op.equalIn (d + 2) 32 (.agg #[.int .i64 a, .int .i64 b, .int .i64 c]) (.agg #[.int .i64 x, .int .i64 y, .int .i64 z])) = some ((a == x) && (b == y) && (c == z)) := by
  unfold Op.equalIn
  rw [evalPure_bind _ _ _ und32]
  simp only [Tab.t32, Tryz.t31]
  rw [evalPure_bind _ _ _ prog_eval, if_neg (by rw [held32]; decide)]
  simp only [List.forIn_toArray, List.forIn_cons, List.forIn_nil]
  rw [if_pos (by decide), if_pos (by decide), if_pos (by decide)]
  have s0 := eq_step (d := d) (part0 (a := a) (b := b) (c := c)) (part0 (a := x) (b := y) (c := z))
  have s1 := eq_step (d := d) (part1 (a := a) (b := b) (c := c)) (part1 (a := x) (b := y) (c := z))
  have s2 := eq_step (d := d) (part2 (a := a) (b := b) (c := c)) (part2 (a := x) (b := y) (c := z))
  cases e0 : a == x with
  | false =>
    rw [e0] at s0
    rw [evalPure_bind (a := (some false, ()))]
    · rfl
    · rw [evalPure_bind _ _ _ s0]; rfl
  | true =>
    rw [e0] at s0
    cases e1 : b == y with
    | false =>
      rw [e1] at s1
      rw [evalPure_bind (a := (some false, ()))]
      · rfl
      · rw [evalPure_bind _ _ _ s0]
        simp only [cond_true]
        rw [evalPure_bind _ _ _ s1]; rfl
    | true =>
      rw [e1] at s1
      cases e2 : c == z with
      | false =>
        rw [e2] at s2
        rw [evalPure_bind (a := (some false, ()))]
        · rfl
        · rw [evalPure_bind _ _ _ s0]
          simp only [cond_true]
          rw [evalPure_bind _ _ _ s1]
          simp only [cond_true]
          rw [evalPure_bind _ _ _ s2]; rfl
      | true =>
        rw [e2] at s2
        rw [evalPure_bind (a := (none, ()))]
        · rfl
        · rw [evalPure_bind _ _ _ s0]
          simp only [cond_true]
          rw [evalPure_bind _ _ _ s1]
          simp only [cond_true]
          rw [evalPure_bind _ _ _ s2]; rfl

theorem guard32 {x y : Operand} {p q : Tg} : evalPure Tryz.prog (Go.eqGuard .eql 32 x y (cnA p) (cnA q)) = some () := by kernel_rfl
def ev32 (x y : Value) : Ev := fun o => match o with | .tmp n => bif Nat.beq n 28 then some x else bif Nat.beq n 29 then some y else none | _ => none
theorem eql32 {O} {G : Nat} {tm : Tr Value} {p q : Tg} {dst : Option Tmp} {ty : TypeId} {pos : String} {after : Array Edge} {g : Option (Nat × Bool)} {h : SHeap} (h1 : tm.get 28 = some (cnA p)) (h2 : tm.get 29 = some (cnA q)) :
    opBin (Eo O) (evT G tm) ⟨dst, .binOp .eql 32 (.tmp 28) (.tmp 29) 32, ty, pos, after, g⟩ .eql 32 (some (cnA p)) (some (cnA q)) h = .ok (.value (.bool ((p.1 == q.1) && (p.2.1 == q.2.1) && (p.2.2 == q.2.2))), h) := by
  show pureOp Tryz.prog (evT G tm) _ h = _
  unfold pureOp
  rw [show (Op.binOp .eql 32 (.tmp 28) (.tmp 29) 32).operands.toList = [.tmp 28, .tmp 29] from rfl]
  simp only [List.all_cons, List.all_nil, evT_tmp, h1, h2]
  rw [if_pos (by rfl)]
  have he : evalPure Tryz.prog (execOp (fun x => (evT G tm x).getD (.tuple #[])) ⟨dst, .binOp .eql 32 (.tmp 28) (.tmp 29) 32, ty, pos, after, g⟩) = some (.value (.bool ((p.1 == q.1) && (p.2.1 == q.2.1) && (p.2.2 == q.2.2)))) := by
    show evalPure Tryz.prog ((do Go.eqGuard .eql 32 (.tmp 28) (.tmp 29) ((evT G tm (.tmp 28)).getD (.tuple #[])) ((evT G tm (.tmp 29)).getD (.tuple #[])); Go.binOp .eql 32 ((evT G tm (.tmp 28)).getD (.tuple #[])) ((evT G tm (.tmp 29)).getD (.tuple #[]))) >>= fun v => pure (Next.value v)) = _
    simp only [evT_tmp, h1, h2, Option.getD_some]
    rw [evalPure_bind (a := .bool ((p.1 == q.1) && (p.2.1 == q.2.1) && (p.2.2 == q.2.2)))]
    · rfl
    · rw [evalPure_bind (a := ()) (h := guard32)]
      show evalPure Tryz.prog (Op.equalIn (9998 + 2) 32 (.agg #[.int .i64 p.1, .int .i64 p.2.1, .int .i64 p.2.2]) (.agg #[.int .i64 q.1, .int .i64 q.2.1, .int .i64 q.2.2]) >>= fun b => pure (Value.bool b)) = _
      rw [evalPure_bind (a := ((p.1 == q.1) && (p.2.1 == q.2.1) && (p.2.2 == q.2.2))) (h := eq32 (d := 9998))]
      rfl
  rw [he]
  rfl
end Go.Proofs.YtaclddcneogolaaGreatDoor

set_option linter.unusedSimpArgs false
set_option linter.unusedVariables false
namespace Go.Proofs.YtaclddcneogolaaGreatDoor
open Go Go.Sim
set_option maxRecDepth 100000
set_option maxHeartbeats 1000000
variable {O : Nat → Option (List Value → SHeap → Except String (Value × SHeap))} {ih : K}

/-- which constraints the law asks of -/
def someT (x : Tg) : Bool := decide (x.1 ≥ 0) && decide (x.1 < 60) && decide (x.2.1 ≥ 0) && decide (x.2.1 < 60) && (x.1 != x.2.1)

theorem body12 : Tryz.f12.body = some (cF Tryz.f12) := rfl
theorem fn12 : (Eo O).F 12 = some Tryz.f12 := by show Tab.funcs.get 12 = _; kernel_rfl
theorem nt12 {a : Value} : max Tryz.f12.ntmps (#[a] : Array Value).size = 28 := rfl
theorem res12 : Tryz.f12.results.toList = [.tmp 2] := rfl
theorem en12 : EntersS (Eo O) 12 := fun _ _ => by kernel_rfl
theorem en7 : EntersS (Eo O) 7 := fun _ _ => by kernel_rfl

theorem bx_len (c : Tg) : (newCells h0 32 [.int .i64 c.1, .int .i64 c.2.1, .int .i64 c.2.2] false).next = 3 := rfl
theorem cn_box {c : Tg} {h : SHeap} : opBox 32 (some (cnA c)) h = .ok (.value (.pointer (some ⟨h.next, 0, none⟩)), newCells h 32 [.int .i64 c.1, .int .i64 c.2.1, .int .i64 c.2.2] false) := (id rfl)
theorem some_run {k : Nat} (o12 : O 12 = none) {h : SHeap} {c : Tg} (hl : h.next + 10 ≤ lim) :
    run (Eo O) (k + 1) (.call 12 #[cnA c] .normal) h = .ok (.bool (someT c), newCells h 32 [.int .i64 c.1, .int .i64 c.2.1, .int .i64 c.2.2] false) := by
  have hc : ∃ tm', codeS (cF Tryz.f12) (Eo O) (run (Eo O) k) ⟨12, 28, .normal, none⟩ ⟨Tr.ofL 33 [cnA c], h, []⟩ = .ok (.ret, ⟨tm', newCells h 32 [.int .i64 c.1, .int .i64 c.2.1, .int .i64 c.2.2] false, []⟩) ∧ tm'.get 2 = some (.bool (someT c)) := by
    generalize hr : codeS (cF Tryz.f12) (Eo O) (run (Eo O) k) ⟨12, 28, .normal, none⟩ ⟨Tr.ofL 33 [cnA c], h, []⟩ = r
    have t0 : (Tr.ofL 33 [cnA c]).get 0 = some (cnA c) := rfl
    generalize Tr.ofL 33 [cnA c] = tm at hr t0
    have hg := box_get (t := 32) (l := [.int .i64 c.1, .int .i64 c.2.1, .int .i64 c.2.2]) (o := false) (h := h) (by omega)
    have hbox := cn_box (c := c) (h := h)
    generalize newCells h 32 [.int .i64 c.1, .int .i64 c.2.1, .int .i64 c.2.2] false = hA at hg hbox hr ⊢
    have lI := load_one (E := Eo O) (h := hA) E3 rfl hg (show (Tr.ofL 33 [Value.int .i64 c.1, .int .i64 c.2.1, .int .i64 c.2.2]).get (0 + 0) = some (.int .i64 c.1) from rfl)
    have lJ := load_one (E := Eo O) (h := hA) E3 rfl hg (show (Tr.ofL 33 [Value.int .i64 c.1, .int .i64 c.2.1, .int .i64 c.2.2]).get (0 + 1) = some (.int .i64 c.2.1) from rfl)
    cases a1 : decide (c.1 ≥ 0) <;> cases a2 : decide (c.1 < 60) <;> cases a3 : decide (c.2.1 ≥ 0) <;> cases a4 : decide (c.2.1 < 60) <;> cases a5 : (c.1 != c.2.1) <;>
    (simp only [Tryz.f12, cF, Option.getD, cA, cB, cI, codeS, cSeq_run, cCond_run, cRegion_run, cRegion_draw, cBlock_run, cSkip_run, cRet_run, cExit_run, opsS_nil, opsS_run, opS_free, thenS_normal, thenS_ret, thenS_exit, exitBlock_normal, exitBlock_ret, exitBlock_exit, normalS_ok, dispatch, dMove, opMove, evT_tmp, evT_int, evT_bool, evT_str, dBin, dUn, dAlloc, lss_i64, add_i64, valR, afterS_value, afterS_round, putT_some, putT_none, get_put, lim, Nat.reduceLT, Nat.reduceEqDiff, and_true, if_true, if_false, reduceIte, false_and, true_and, Nat.beq, cond_true, cond_false,
      dIndexAddr, dFieldAddr, dNilCheck, dLoad, dStore, nilCheck_ptr, Option.bind_some, natOf_int, addrAdd_free, drawS_nil', drawS_cons', dstep_pg, dstep_rg, dstep_eg, dstep_bg, wantedS_none, wantedS_some, readAgain_nil, readAgain_cons, valEq_tg, callOut_enter, callOut_value, simOp_run, outVal_val, List.getElem?_toArray, List.getElem?_cons_succ, List.getElem?_cons_zero, List.drop_succ_cons, List.drop_zero, dPick, pick_true, pick_false, opS_guard, dIndex, dBuild, dBuildSlice, dMakeIface, mi9, dCall, evParts, evList, show (true == true) = true from rfl, show (false == true) = false from rfl, show (true == false) = false from rfl, show (false == false) = true from rfl, Bool.and_self, Bool.not_true, Bool.not_false, not_b, afterS_enter, call_fn en32, call_fn en33, call_fn en34, alloc24, build24, allocOf_bs, ab2, mkAV_slc, dBox, hbox, fa32, fa32x, lI, lJ, geq_i64, neq_i64, t0, a1, a2, a3, a4, a5] at hr
     subst hr
     exact ⟨_, rfl, by simp only [get_put, someT, a1, a2, a3, a4, a5]; rfl⟩)
  obtain ⟨tm', k1, k2⟩ := hc
  exact (run_call (show (Eo O).O 12 = none from o12)).trans (enterS_ret (vs := [_]) fn12 body12 nt12 rfl res12 k1 (by simp only [resultsS, k2, need]))
end Go.Proofs.YtaclddcneogolaaGreatDoor

set_option linter.unusedSimpArgs false
set_option linter.unusedVariables false
namespace Go.Proofs.YtaclddcneogolaaGreatDoor
open Go Go.Sim
set_option maxRecDepth 100000
set_option maxHeartbeats 1000000
variable {O : Nat → Option (List Value → SHeap → Except String (Value × SHeap))} {ih : K}

def rs0 : List Tg := List.replicate 10 (0, 0, 0)
def ss0 : List Tg := List.replicate 32 (0, 0, 0)
theorem rs0xfits : ∀ t ∈ rs0, t.fits := fun t ht => by
  obtain rfl := List.eq_of_mem_replicate ht
  exact ⟨by decide, by decide, by decide⟩
theorem ss0xfits : ∀ t ∈ ss0, t.fits := fun t ht => by
  obtain rfl := List.eq_of_mem_replicate ht
  exact ⟨by decide, by decide, by decide⟩
theorem claim_one (c : Tg) : claimT false rs0 ss0 [c] = conLine c := by
  show tagLines 2 rs0 ++ tagLines 12 ss0 ++ (conLine c ++ []) = _
  rw [show tagLines 2 rs0 = [] by decide, show tagLines 12 ss0 = [] by decide, List.append_nil, List.nil_append, List.append_nil]
def slc1 (b : Nat) : Value := .slice (some ⟨b, 0, none⟩) 1 1
theorem build29 {b : Nat} {h : SHeap} : opBuild (Eo O) ((Eo O).T 29) (some [(3, slc1 b)]) h = .ok (.value (.agg (clV false rs0 ss0 (slc1 b)).toArray), h) := by kernel_rfl
theorem bs27 {c : Tg} {h : SHeap} : opBuildSlice (Eo O) ((Eo O).T 27) 1 (some [(0, cnA c)]) h = .ok (.value (slc1 h.next), newCells h 32 [.int .i64 c.1, .int .i64 c.2.1, .int .i64 c.2.2] false) := by kernel_rfl
theorem eql_str {ev : Ev} {o : Oper} {t : TypeId} {x y : List UInt8} {h : SHeap} : opBin (Eo O) ev o .eql t (some (.string ⟨x.toArray⟩)) (some (.string ⟨y.toArray⟩)) h = .ok (.value (.bool (x == y)), h) := (id rfl)
theorem eql_bool {ev : Ev} {o : Oper} {x y : Bool} {h : SHeap} : opBin (Eo O) ev o .eql 4 (some (.bool x)) (some (.bool y)) h = .ok (.value (.bool (x == y)), h) := by
  show opEql (Eo O) ev o h 4 (.bool x) (.bool y) false = _
  unfold opEql
  simp only [E4a]
  rfl
theorem body6 : Tryz.f6.body = some (cF Tryz.f6) := rfl
theorem fn6 : (Eo O).F 6 = some Tryz.f6 := by show Tab.funcs.get 6 = _; kernel_rfl
theorem nt6 {a b : Value} : max Tryz.f6.ntmps (#[a, b] : Array Value).size = 32 := rfl
theorem res6 : Tryz.f6.results.toList = [.tmp 4] := rfl
abbrev bx (h : SHeap) (c : Tg) : SHeap := newCells h 32 [.int .i64 c.1, .int .i64 c.2.1, .int .i64 c.2.2] false

theorem known_at {k : Nat} {h : SHeap} (ht : h.t.get 0 = some powM.obj) : run (Eo OU) (k + 1) (.call 7 #[] .normal) h = .ok (.bool true, h) := by
  rw [run_orc (E := Eo OU) (show (Eo OU).O 7 = some knownQ from rfl)]
  show knownA h (h.t.get 0) = _
  rw [ht]
  have : matches' powM.obj powM = true := by kernel_rfl
  simp only [knownA, this, cond_true]

theorem tab0 : tabOK (some powM.obj) = true := by kernel_rfl

/-- what the law answers, as far as the walk goes -/
def unlikeT (x y : Tg) : Bool := bif someT x && someT y then ((conLine x == conLine y) == ((x.1 == y.1) && (x.2.1 == y.2.1) && (x.2.2 == y.2.2))) else true

theorem load_bx {c : Tg} {b : Nat} {h : SHeap} (hb : h.t.get b = some (.cells (Tr.ofL 33 [Value.int .i64 c.1, .int .i64 c.2.1, .int .i64 c.2.2]) 3 32 false false)) : opLoad (Eo O) 32 (some (.pointer (some ⟨b, 0, none⟩))) h = .ok (.value (cnA c), h) :=
  load_tri T32l hb list3
theorem someT_fits {c : Tg} (h : someT c = true) (hc : -9223372036854775808 ≤ c.2.2 ∧ c.2.2 ≤ 9223372036854775807) : c.fits := by
  unfold someT at h
  simp only [Bool.and_eq_true, decide_eq_true_eq] at h
  obtain ⟨⟨⟨⟨h1, h2⟩, h3⟩, h4⟩, _⟩ := h
  exact ⟨⟨by omega, by omega⟩, ⟨by omega, by omega⟩, hc⟩

theorem unlike_run {k : Nat} {x y : Tg} (hx : -9223372036854775808 ≤ x.2.2 ∧ x.2.2 ≤ 9223372036854775807) (hy : -9223372036854775808 ≤ y.2.2 ∧ y.2.2 ≤ 9223372036854775807) :
    ∃ h', run (Eo OU) (k + 7) (.call 6 #[cnA x, cnA y] .normal) h0 = .ok (.bool (unlikeT x y), h') := by
  have n0 : h0.next = 2 := rfl
  have hlim : lim = 4294967296 := rfl
  -- the heaps
  obtain ⟨h1, e1⟩ : ∃ h1, h1 = bx h0 x := ⟨_, rfl⟩
  obtain ⟨h2, e2⟩ : ∃ h2, h2 = bx h1 y := ⟨_, rfl⟩
  obtain ⟨h3, e3⟩ : ∃ h3, h3 = bx h2 x := ⟨_, rfl⟩
  obtain ⟨h4, e4⟩ : ∃ h4, h4 = bx h3 y := ⟨_, rfl⟩
  obtain ⟨h5, e5⟩ : ∃ h5, h5 = bx h4 x := ⟨_, rfl⟩
  have n1 : h1.next = 3 := by rw [e1]; rfl
  have n2 : h2.next = 4 := by rw [e2]; show h1.next + 1 = _; omega
  have n3 : h3.next = 5 := by rw [e3]; show h2.next + 1 = _; omega
  have n4 : h4.next = 6 := by rw [e4]; show h3.next + 1 = _; omega
  have n5 : h5.next = 7 := by rw [e5]; show h4.next + 1 = _; omega
  have low1 : ∀ b, b < 2 → h1.t.get b = h0.t.get b := fun b hb => by rw [e1]; exact new_low (by omega)
  have low2 : ∀ b, b < 3 → h2.t.get b = h1.t.get b := fun b hb => by rw [e2]; exact new_low (by omega)
  have low3 : ∀ b, b < 4 → h3.t.get b = h2.t.get b := fun b hb => by rw [e3]; exact new_low (by omega)
  have low4 : ∀ b, b < 5 → h4.t.get b = h3.t.get b := fun b hb => by rw [e4]; exact new_low (by omega)
  have low5 : ∀ b, b < 6 → h5.t.get b = h4.t.get b := fun b hb => by rw [e5]; exact new_low (by omega)
  have g0 : h0.t.get 0 = some powM.obj := by kernel_rfl
  have g2 : h1.t.get 2 = some (.cells (Tr.ofL 33 [Value.int .i64 x.1, .int .i64 x.2.1, .int .i64 x.2.2]) 3 32 false false) := by
    rw [e1]; exact box_get (t := 32) (l := [.int .i64 x.1, .int .i64 x.2.1, .int .i64 x.2.2]) (o := false) (h := h0) (by omega)
  have g3 : h2.t.get 3 = some (.cells (Tr.ofL 33 [Value.int .i64 y.1, .int .i64 y.2.1, .int .i64 y.2.2]) 3 32 false false) := by
    rw [e2]
    have := box_get (t := 32) (l := [.int .i64 y.1, .int .i64 y.2.1, .int .i64 y.2.2]) (o := false) (h := h1) (by omega)
    rw [n1] at this
    exact this
  have g6 : h5.t.get 6 = some (.cells (Tr.ofL 33 [Value.int .i64 x.1, .int .i64 x.2.1, .int .i64 x.2.2]) 3 32 false false) := by
    rw [e5]
    have := box_get (t := 32) (l := [.int .i64 x.1, .int .i64 x.2.1, .int .i64 x.2.2]) (o := false) (h := h4) (by omega)
    rw [n4] at this
    exact this
  have hk := known_at (k := k + 5) (h := h2) (by rw [low2 0 (by omega), low1 0 (by omega)]; exact g0)
  have s1 := some_run (O := OU) (k := k + 5) rfl (h := h2) (c := x) (by omega)
  have s2 := some_run (O := OU) (k := k + 5) rfl (h := h3) (c := y) (by omega)
  have lx2 := load_bx (O := OU) (c := x) (b := 2) (h := h2) (by rw [low2 2 (by omega)]; exact g2)
  have lx4 := load_bx (O := OU) (c := x) (b := 2) (h := h4) (by rw [low4 2 (by omega), low3 2 (by omega), low2 2 (by omega)]; exact g2)
  have ly3 := load_bx (O := OU) (c := y) (b := 3) (h := h3) (by rw [low3 3 (by omega)]; exact g3)
  have b1 := cn_box (c := x) (h := h0)
  have b2 := cn_box (c := y) (h := h1)
  have b3 := bs27 (O := OU) (c := x) (h := h4)
  replace s1 : run (Eo OU) (k + 6) (.call 12 #[cnA x] .normal) h2 = .ok (.bool (someT x), h3) := by rw [e3]; exact s1
  replace s2 : run (Eo OU) (k + 6) (.call 12 #[cnA y] .normal) h3 = .ok (.bool (someT y), h4) := by rw [e4]; exact s2
  replace hk : run (Eo OU) (k + 6) (.call 7 #[] .normal) h2 = .ok (.bool true, h2) := hk
  replace b1 : opBox 32 (some (cnA x)) h0 = .ok (.value (.pointer (some ⟨2, 0, none⟩)), h1) := by rw [e1]; exact b1
  replace b2 : opBox 32 (some (cnA y)) h1 = .ok (.value (.pointer (some ⟨3, 0, none⟩)), h2) := by rw [e2, ← n1]; exact b2
  replace b3 : opBuildSlice (Eo OU) ((Eo OU).T 27) 1 (some [(0, cnA x)]) h4 = .ok (.value (slc1 6), h5) := by rw [e5, ← n4]; exact b3
  have t0 : (Tr.ofL 33 [cnA x, cnA y]).get 0 = some (cnA x) := rfl
  have t1 : (Tr.ofL 33 [cnA x, cnA y]).get 1 = some (cnA y) := rfl
  suffices hc : ∃ tm' h', codeS (cF Tryz.f6) (Eo OU) (run (Eo OU) (k + 6)) ⟨6, 32, .normal, none⟩ ⟨Tr.ofL 33 [cnA x, cnA y], h0, []⟩ = .ok (.ret, ⟨tm', h', []⟩) ∧ tm'.get 4 = some (.bool (unlikeT x y)) by
    obtain ⟨tm', h', k1, k2⟩ := hc
    exact ⟨h', (run_call (show (Eo OU).O 6 = none from rfl)).trans (enterS_ret (vs := [_]) fn6 body6 nt6 rfl res6 k1 (by simp only [resultsS, k2, need]))⟩
  generalize hr : codeS (cF Tryz.f6) (Eo OU) (run (Eo OU) (k + 6)) ⟨6, 32, .normal, none⟩ ⟨Tr.ofL 33 [cnA x, cnA y], h0, []⟩ = r
  generalize Tr.ofL 33 [cnA x, cnA y] = tm at hr t0 t1
  cases hsx : someT x with
  | false =>
    rw [hsx] at s1
    simp only [Tryz.f6, cF, Option.getD, cA, cB, cI, codeS, cSeq_run, cCond_run, cRegion_run, cRegion_draw, cBlock_run, cSkip_run, cRet_run, cExit_run, opsS_nil, opsS_run, opS_free, thenS_normal, thenS_ret, thenS_exit, exitBlock_normal, exitBlock_ret, exitBlock_exit, normalS_ok, dispatch, dMove, opMove, evT_tmp, evT_int, evT_bool, evT_str, dBin, dUn, dAlloc, lss_i64, add_i64, valR, afterS_value, afterS_round, putT_some, putT_none, get_put, lim, Nat.reduceLT, Nat.reduceEqDiff, and_true, if_true, if_false, reduceIte, false_and, true_and, Nat.beq, cond_true, cond_false,
      dIndexAddr, dFieldAddr, dNilCheck, dLoad, dStore, nilCheck_ptr, Option.bind_some, natOf_int, addrAdd_free, drawS_nil', drawS_cons', dstep_pg, dstep_rg, dstep_eg, dstep_bg, wantedS_none, wantedS_some, readAgain_nil, readAgain_cons, valEq_tg, callOut_enter, callOut_value, simOp_run, outVal_val, List.getElem?_toArray, List.getElem?_cons_succ, List.getElem?_cons_zero, List.drop_succ_cons, List.drop_zero, dPick, pick_true, pick_false, opS_guard, dIndex, dBuild, dBuildSlice, dMakeIface, mi9, dCall, evParts, evList, show (true == true) = true from rfl, show (false == true) = false from rfl, show (true == false) = false from rfl, show (false == false) = true from rfl, Bool.and_self, Bool.not_true, Bool.not_false, not_b, afterS_enter, call_fn en32, call_fn en33, call_fn en34, alloc24, build24, allocOf_bs, ab2, mkAV_slc, dBox, call_fn en7, call_fn en12, b1, b2, hk, lx2, s1, t0, t1] at hr
    subst hr
    exact ⟨_, _, rfl, by unfold unlikeT; rw [hsx]; simp [get_put, lim]⟩
  | true =>
    rw [hsx] at s1
    cases hsy : someT y with
    | false =>
      rw [hsy] at s2
      simp only [Tryz.f6, cF, Option.getD, cA, cB, cI, codeS, cSeq_run, cCond_run, cRegion_run, cRegion_draw, cBlock_run, cSkip_run, cRet_run, cExit_run, opsS_nil, opsS_run, opS_free, thenS_normal, thenS_ret, thenS_exit, exitBlock_normal, exitBlock_ret, exitBlock_exit, normalS_ok, dispatch, dMove, opMove, evT_tmp, evT_int, evT_bool, evT_str, dBin, dUn, dAlloc, lss_i64, add_i64, valR, afterS_value, afterS_round, putT_some, putT_none, get_put, lim, Nat.reduceLT, Nat.reduceEqDiff, and_true, if_true, if_false, reduceIte, false_and, true_and, Nat.beq, cond_true, cond_false,
      dIndexAddr, dFieldAddr, dNilCheck, dLoad, dStore, nilCheck_ptr, Option.bind_some, natOf_int, addrAdd_free, drawS_nil', drawS_cons', dstep_pg, dstep_rg, dstep_eg, dstep_bg, wantedS_none, wantedS_some, readAgain_nil, readAgain_cons, valEq_tg, callOut_enter, callOut_value, simOp_run, outVal_val, List.getElem?_toArray, List.getElem?_cons_succ, List.getElem?_cons_zero, List.drop_succ_cons, List.drop_zero, dPick, pick_true, pick_false, opS_guard, dIndex, dBuild, dBuildSlice, dMakeIface, mi9, dCall, evParts, evList, show (true == true) = true from rfl, show (false == true) = false from rfl, show (true == false) = false from rfl, show (false == false) = true from rfl, Bool.and_self, Bool.not_true, Bool.not_false, not_b, afterS_enter, call_fn en32, call_fn en33, call_fn en34, alloc24, build24, allocOf_bs, ab2, mkAV_slc, dBox, call_fn en7, call_fn en12, b1, b2, hk, lx2, s1, ly3, s2, t0, t1] at hr
      subst hr
      exact ⟨_, _, rfl, by unfold unlikeT; rw [hsx, hsy]; simp [get_put, lim]⟩
    | true =>
      rw [hsy] at s2
      have fx := someT_fits hsx hx
      have fy := someT_fits hsy hy
      have tabb : ∀ b, b < 2 → h5.t.get b = h0.t.get b := fun b hb => by rw [low5 b (by omega), low4 b (by omega), low3 b (by omega), low2 b (by omega), low1 b (by omega)]
      obtain ⟨h6, c1, c2, c3, c4⟩ := claim_run (O := OU) (k := k) rfl rfl rfl rfl rfl rfl rfl rfl rfl rfl rfl rfl (h := h5) (d := false) (rs := rs0) (ss := ss0) (cs := [x]) (cv := slc1 6) rfl rfl rs0xfits ss0xfits (fun t ht => by rw [List.mem_singleton.1 ht]; exact fx) (show 1 ≤ 300000 by decide) (by simp only [List.length_cons, List.length_nil]; omega)
        (.inr ⟨6, 0, 1, _, rfl, by omega, g6, fun j c hj => by
          cases j with
          | zero => obtain rfl := Option.some.inj hj; exact list3
          | succ j => simp at hj⟩) (by rw [tabb 0 (by omega), g0]; exact tab0) (by omega)
      rw [claim_one] at c1
      simp only [List.length_cons, List.length_nil] at c3
      obtain ⟨h7, e7⟩ : ∃ h7, h7 = bx h6 y := ⟨_, rfl⟩
      have n7 : h7.next = h6.next + 1 := by rw [e7]; rfl
      have low7 : ∀ b, b < h6.next → h7.t.get b = h6.t.get b := fun b hb => by rw [e7]; exact new_low (by omega)
      have g7 : h7.t.get h6.next = some (.cells (Tr.ofL 33 [Value.int .i64 y.1, .int .i64 y.2.1, .int .i64 y.2.2]) 3 32 false false) := by
        rw [e7]; exact box_get (t := 32) (l := [.int .i64 y.1, .int .i64 y.2.1, .int .i64 y.2.2]) (o := false) (h := h6) (by omega)
      obtain ⟨h8, d1, d2, d3, d4⟩ := claim_run (O := OU) (k := k) rfl rfl rfl rfl rfl rfl rfl rfl rfl rfl rfl rfl (h := h7) (d := false) (rs := rs0) (ss := ss0) (cs := [y]) (cv := slc1 h6.next) rfl rfl rs0xfits ss0xfits (fun t ht => by rw [List.mem_singleton.1 ht]; exact fy) (show 1 ≤ 300000 by decide) (by simp only [List.length_cons, List.length_nil]; omega)
        (.inr ⟨h6.next, 0, 1, _, rfl, by omega, g7, fun j c hj => by
          cases j with
          | zero => obtain rfl := Option.some.inj hj; exact list3
          | succ j => simp at hj⟩) (by rw [low7 0 (by omega), c4 0 (by omega), tabb 0 (by omega), g0]; exact tab0) (by omega)
      rw [claim_one] at d1
      have ly6 := load_bx (O := OU) (c := y) (b := 3) (h := h6) (by rw [c4 3 (by omega), low5 3 (by omega), low4 3 (by omega), low3 3 (by omega)]; exact g3)
      have ly8 := load_bx (O := OU) (c := y) (b := 3) (h := h8) (by rw [d4 3 (by omega), low7 3 (by omega), c4 3 (by omega), low5 3 (by omega), low4 3 (by omega), low3 3 (by omega)]; exact g3)
      have lx8 := load_bx (O := OU) (c := x) (b := 2) (h := h8) (by rw [d4 2 (by omega), low7 2 (by omega), c4 2 (by omega), low5 2 (by omega), low4 2 (by omega), low3 2 (by omega), low2 2 (by omega)]; exact g2)
      have b4 := bs27 (O := OU) (c := y) (h := h6)
      replace b4 : opBuildSlice (Eo OU) ((Eo OU).T 27) 1 (some [(0, cnA y)]) h6 = .ok (.value (slc1 h6.next), h7) := by rw [e7]; exact b4
      simp only [Tryz.f6, cF, Option.getD, cA, cB, cI, codeS, cSeq_run, cCond_run, cRegion_run, cRegion_draw, cBlock_run, cSkip_run, cRet_run, cExit_run, opsS_nil, opsS_run, opS_free, thenS_normal, thenS_ret, thenS_exit, exitBlock_normal, exitBlock_ret, exitBlock_exit, normalS_ok, dispatch, dMove, opMove, evT_tmp, evT_int, evT_bool, evT_str, dBin, dUn, dAlloc, lss_i64, add_i64, valR, afterS_value, afterS_round, putT_some, putT_none, get_put, lim, Nat.reduceLT, Nat.reduceEqDiff, and_true, if_true, if_false, reduceIte, false_and, true_and, Nat.beq, cond_true, cond_false,
      dIndexAddr, dFieldAddr, dNilCheck, dLoad, dStore, nilCheck_ptr, Option.bind_some, natOf_int, addrAdd_free, drawS_nil', drawS_cons', dstep_pg, dstep_rg, dstep_eg, dstep_bg, wantedS_none, wantedS_some, readAgain_nil, readAgain_cons, valEq_tg, callOut_enter, callOut_value, simOp_run, outVal_val, List.getElem?_toArray, List.getElem?_cons_succ, List.getElem?_cons_zero, List.drop_succ_cons, List.drop_zero, dPick, pick_true, pick_false, opS_guard, dIndex, dBuild, dBuildSlice, dMakeIface, mi9, dCall, evParts, evList, show (true == true) = true from rfl, show (false == true) = false from rfl, show (true == false) = false from rfl, show (false == false) = true from rfl, Bool.and_self, Bool.not_true, Bool.not_false, not_b, afterS_enter, call_fn en32, call_fn en33, call_fn en34, alloc24, build24, allocOf_bs, ab2, mkAV_slc, dBox, call_fn en7, call_fn en12, call_fn en9, b1, b2, hk, lx2, s1, ly3, s2, lx4, b3, build29, c1, ly6, b4, d1, lx8, ly8, eql_str, eql32, eql_bool, t0, t1] at hr
      subst hr
      exact ⟨_, _, rfl, by unfold unlikeT; rw [hsx, hsy]; simp [get_put, lim]⟩
end Go.Proofs.YtaclddcneogolaaGreatDoor

/- The check ahead of every body, as an oracle. The table of oracles for the laws of tell. The pieces that the laws of tell share: claims of one constraint, known(). -/
import Derived.Test.YtaclddcneogolaaGreatDoorSnd2
import Derived.Test.YtaclddcneogolaaGreatDoorK7
import Derived.Test.YtaclddcneogolaaGreatDoorClA
set_option linter.unusedVariables false
set_option linter.unusedSimpArgs false
set_option linter.unusedSimpArgs false
set_option linter.unusedVariables false
namespace Go.Proofs.YtaclddcneogolaaGreatDoor
open Go Go.Sim
set_option maxRecDepth 100000

def powM : MObj := .cells pow10L 342 false true
def knownA (h : SHeap) (o : Option SObj) : Ex (Value × SHeap) := match o with
  | some o => bif matches' o powM then .ok (.bool true,h) else .error "known"
  | none => .error "known"
def knownQ (args : List Value) (h : SHeap) : Ex (Value × SHeap) := match args with
  | [] => knownA h (h.t.get 0)
  | _ => .error "known"

theorem h0xat {b : Nat} {o : SObj} (h : h0.t.get b = some o) : b = 0 ∧ o = powM.obj := by
  unfold h0 at h
  simp only [get_put] at h
  split at h
  · rename_i e; exact ⟨e.1,(Option.some.inj h).symm⟩
  · rw [nil_get] at h; simp at h
theorem true_of {r : Ex (Value × SHeap)} (h : isTrue r = true) : ∃ h',r = .ok (.bool true,h') := by
  unfold isTrue at h
  split at h
  · exact ⟨_,rfl⟩
  · simp at h
theorem pow_plain {v : Value} (h : v ∈ pow10L) : plainV 3 v = true := by
  unfold pow10L at h
  obtain ⟨i,_,rfl⟩ := List.mem_map.1 h
  rfl

theorem known_ok {O : OT} : OrcOK (Eo O) 7 knownQ := by
  refine orc_to (O := OL) ?_
  intro ars h v h' hok ρ w hw hg rargs ha c cs
  unfold knownQ at hok
  split at hok
  · rename_i has
    unfold knownA at hok
    split at hok
    · rename_i o ho
      cases hm : matches' o powM with
      | false => rw [hm] at hok; simp at hok
      | true =>
        rw [hm,cond_true] at hok
        simp only [Except.ok.injEq,Prod.mk.injEq] at hok
        obtain ⟨rfl,rfl⟩ := hok
        obtain ⟨hh,hr⟩ := true_of r7
        have hG : (Eo OL).G = 2 := rfl
        have hb : WRel (Eo OL) (fun b => if b < 2 then ρ b else none) h0 w := by
          refine ⟨fun b p hb => ?_,fun b o' hb => ?_,fun b b' o1 o2 r κ κ' hb hb' _ _ => by rw [(h0xat hb).1,(h0xat hb').1]⟩
          · show b < 2
            split at hb
            · assumption
            · simp at hb
          · obtain ⟨rfl,rfl⟩ := h0xat hb
            obtain ⟨r,κ,k1,k2⟩ := hw.live 0 o ho
            have k3 := matches_obj hm k2
            obtain ⟨m,k⟩ := k3
            refine ⟨r,κ,by rw [if_pos (by decide)]; exact k1,m,k.shape,k.le,k.lt,k.shut,k.room,fun i v hi => ?_,k.free,k.calm⟩
            obtain ⟨u,u1,u2⟩ := k.get i v hi
            have hp := pow_plain (List.mem_of_getElem? (ofL_get hi))
            exact ⟨u,u1,by rw [plain_eq 3 v u hp u2]; exact plain_self 3 v hp⟩
        have hg' : GRel (Eo OL) (fun b => if b < 2 then ρ b else none) := fun g hg1 => by
          obtain ⟨κ,hκ⟩ := hg g hg1
          exact ⟨κ,by dsimp only; rw [if_pos (by rw [hG] at hg1; exact hg1)]; exact hκ⟩
        have hra : rargs.toList = [] := by
          have := ha.len
          rw [has] at this
          exact List.eq_nil_of_length_eq_zero this.symm
        have hself : LRel (fun b => if b < 2 then ρ b else none) (#[] : Array Value).toList rargs.toList := by
          rw [hra]; exact LRel.nil _
        obtain ⟨ρ',w',u,g1,g2,g3,g4⟩ := (kok OL okL 60) _ _ _ _ hr _ w hb hg' rargs hself c cs (.inl rfl)
        have hu := plain_eq 3 _ _ (show plainV 3 (.bool true) = true from rfl) g1
        have hno : ∀ r,¬ Own (fun b => if b < 2 then ρ b else none) h0 r := by
          rintro r ⟨b,o',κ,k1,k2,k3⟩
          have k4 : notRo o' := by first | exact k2 | exact k3
          obtain ⟨rfl,rfl⟩ := h0xat k1
          simp [notRo,powM,MObj.obj] at k4
        have hkeep : ∀ r,r < w.heap.size → w'.heap[r]? = w.heap[r]? := fun r hr => (g3.keep r hr (hno r)).1
        refine ⟨ρ,w',u,by rw [hu]; exact plain_self 3 _ rfl,⟨hw.dom,fun b o hb => ?_,hw.inj⟩,⟨Le.refl ρ,g3.size,fun r hr hn => ⟨hkeep r hr,hn⟩,g3.os,g3.output,g3.tape,fun r _ hn => hn,fun _ _ => rfl,Nat.le_refl _⟩,g4⟩
        obtain ⟨r,κ,k1,k2⟩ := hw.live b o hb
        exact ⟨r,κ,k1,k2.move (Le.refl ρ) (hkeep r k2.there)⟩
    · simp at hok
  · simp at hok
end Go.Proofs.YtaclddcneogolaaGreatDoor

set_option linter.unusedSimpArgs false
set_option linter.unusedVariables false
namespace Go.Proofs.YtaclddcneogolaaGreatDoor
open Go Go.Sim
set_option maxRecDepth 100000
def U0 : OT := fun _ => none
def U1 : OT := fun f => bif Nat.beq f 66 then some joinQ else U0 f
def U2 : OT := fun f => bif Nat.beq f 190 then some smallQ else U1 f
def U3 : OT := fun f => bif Nat.beq f 191 then some numDigitsQ else U2 f
def U4 : OT := fun f => bif Nat.beq f 192 then some fmtQ else U3 f
def U5 : OT := fun f => bif Nat.beq f 56 then some itoaQ else U4 f
def U6 : OT := fun f => bif Nat.beq f 32 then some wordsQ else U5 f
def U7 : OT := fun f => bif Nat.beq f 33 then some nameQ else U6 f
def U8 : OT := fun f => bif Nat.beq f 34 then some kindQ else U7 f
def U9 : OT := fun f => bif Nat.beq f 35 then some boundQ else U8 f
def OU : OT := fun f => bif Nat.beq f 7 then some knownQ else U9 f
theorem u0 : AllOK U0 := by intro f g h; cases h
theorem u1 : AllOK U1 := allOK_more u0 (fun _ => rfl) join_ok
theorem u2 : AllOK U2 := allOK_more u1 (fun _ => rfl) small_ok
theorem u3 : AllOK U3 := allOK_more u2 (fun _ => rfl) numDigits_ok
theorem u4 : AllOK U4 := allOK_more u3 (fun _ => rfl) fmt_ok
theorem u5 : AllOK U5 := allOK_more u4 (fun _ => rfl) (itoa_ok u4 rfl rfl rfl rfl rfl rfl)
theorem u6 : AllOK U6 := allOK_more u5 (fun _ => rfl) (words_ok u5 rfl rfl rfl)
theorem u7 : AllOK U7 := allOK_more u6 (fun _ => rfl) (name_ok u6 rfl rfl)
theorem u8 : AllOK U8 := allOK_more u7 (fun _ => rfl) (kind_ok u7 rfl rfl)
theorem u9 : AllOK U9 := allOK_more u8 (fun _ => rfl) (bound_ok u8 rfl rfl rfl)
theorem okU : AllOK OU := allOK_more u9 (fun _ => rfl) known_ok
end Go.Proofs.YtaclddcneogolaaGreatDoor

set_option linter.unusedSimpArgs false
set_option linter.unusedVariables false
namespace Go.Proofs.YtaclddcneogolaaGreatDoor
open Go Go.Sim
set_option maxRecDepth 100000
set_option maxHeartbeats 1000000
variable {O : Nat → Option (List Value → SHeap → Except String (Value × SHeap))} {ih : K}

theorem en7 : EntersS (Eo O) 7 := fun _ _ => by kernel_rfl
def rs0 : List Tg := List.replicate 10 (0,0,0)
def ss0 : List Tg := List.replicate 32 (0,0,0)
theorem rs0xfits : ∀ t ∈ rs0,t.fits := fun t ht => by
  obtain rfl := List.eq_of_mem_replicate ht
  exact ⟨by decide,by decide,by decide⟩
theorem ss0xfits : ∀ t ∈ ss0,t.fits := fun t ht => by
  obtain rfl := List.eq_of_mem_replicate ht
  exact ⟨by decide,by decide,by decide⟩
theorem claim_one (c : Tg) : claimT false rs0 ss0 [c] = conLine c := by
  show tagLines 2 rs0 ++ tagLines 12 ss0 ++ (conLine c ++ []) = _
  rw [show tagLines 2 rs0 = [] by decide,show tagLines 12 ss0 = [] by decide,List.append_nil,List.nil_append,List.append_nil]
def slc1 (b : Nat) : Value := .slice (some ⟨b,0,none⟩) 1 1
theorem build29 {b : Nat} {h : SHeap} : opBuild (Eo O) ((Eo O).T 29) (some [(3,slc1 b)]) h = .ok (.value (.agg (clV false rs0 ss0 (slc1 b)).toArray),h) := by kernel_rfl
theorem bs27 {c : Tg} {h : SHeap} : opBuildSlice (Eo O) ((Eo O).T 27) 1 (some [(0,cnA c)]) h = .ok (.value (slc1 h.next),newCells h 32 [.int .i64 c.1,.int .i64 c.2.1,.int .i64 c.2.2] false) := by kernel_rfl
theorem eql_str {ev : Ev} {o : Oper} {t : TypeId} {x y : List UInt8} {h : SHeap} : opBin (Eo O) ev o .eql t (some (.string ⟨x.toArray⟩)) (some (.string ⟨y.toArray⟩)) h = .ok (.value (.bool (x == y)),h) := (id rfl)
theorem eql_bool {ev : Ev} {o : Oper} {x y : Bool} {h : SHeap} : opBin (Eo O) ev o .eql 4 (some (.bool x)) (some (.bool y)) h = .ok (.value (.bool (x == y)),h) := by
  show opEql (Eo O) ev o h 4 (.bool x) (.bool y) false = _
  unfold opEql
  simp only [E4a]
  rfl
abbrev bx (h : SHeap) (c : Tg) : SHeap := newCells h 32 [.int .i64 c.1,.int .i64 c.2.1,.int .i64 c.2.2] false
theorem known_at {k : Nat} {h : SHeap} (ht : h.t.get 0 = some powM.obj) : run (Eo OU) (k + 1) (.call 7 #[] .normal) h = .ok (.bool true,h) := by
  rw [run_orc (E := Eo OU) (show (Eo OU).O 7 = some knownQ from rfl)]
  show knownA h (h.t.get 0) = _
  rw [ht]
  have : matches' powM.obj powM = true := by kernel_rfl
  simp only [knownA,this,cond_true]

theorem tab0 : tabOK (some powM.obj) = true := by kernel_rfl

end Go.Proofs.YtaclddcneogolaaGreatDoor

/- The simulator where a walk over a map can take its steps in more than one way: the machine comes to one of the outcomes. -/
import Derived.Test.YtgiompikfhhkmaaGreatDoorMemo
import Derived.Test.YtgiompikfhhkmaaGreatDoorManyD
set_option linter.unusedVariables false
set_option linter.unusedSimpArgs false
namespace Go.Sim
variable {E : Env}

theorem mapN_mem {α β : Type} {f : α → Ex (List β)} : ∀ {l : List α} {m : List β},mapN f l = .ok m → ∀ a ∈ l,∃ r,f a = .ok r ∧ ∀ b ∈ r,b ∈ m
  | [],_,_,a,ha => by simp at ha
  | x :: l,m,h,a,ha => by
    simp only [mapN] at h
    split at h
    · simp at h
    · rename_i r hr
      split at h
      · simp at h
      · rename_i q hq
        obtain rfl := Except.ok.inj h
        rcases List.mem_cons.1 ha with rfl | ha
        · exact ⟨r,hr,fun b hb => List.mem_append_left _ hb⟩
        · obtain ⟨r',h1,h2⟩ := mapN_mem hq a ha
          exact ⟨r',h1,fun b hb => List.mem_append_right _ (h2 b hb)⟩

theorem isNext_eq {o : Oper} {x : Operand} (h : isNext o = some x) : o.op = .next x false ∧ o.guard = none := by
  obtain ⟨dst,op,ty,pos,after,g⟩ := o
  unfold isNext at h
  cases op with
  | next y b =>
    cases b with
    | true => simp at h
    | false =>
      cases g with
      | some => simp at h
      | none =>
        simp only [Option.some.injEq] at h
        subst h
        exact ⟨rfl,rfl⟩
  | _ => simp at h

theorem opsN_ok (KE : EnvOK E) {ih : K} (hih : KOK E ih) {fx : Fx} {x : FxR} {ops : Array Oper} (k : List Item) (cs : List Frame) (hcs : kindOK x.kind cs) : ∀ (is : List Nat) (os : List Oper),is.map (ops[·]?) = os.map some →
    ∀ (ρ : Ren) (st : St) (L : List St) (tm : Array Value) (ds : List Deferred) (w : World),FxRel ρ fx x → SRel E ρ fx st tm ds w → opsN E ih fx ops os st = .ok L →
      ∃ st' ∈ L,∃ ρ' tm' ds' w',SRel E ρ' fx st' tm' ds' w' ∧ Stp ρ st.h w ρ' st'.h w' ∧ Steps E.P (lone (fat x tm ds (.inRegion ops is :: k)) cs w) (lone (fat x tm' ds' k) cs w')
  | [],[],_,ρ,st,L,tm,ds,w,hx,hs,hok => by
    simp only [opsN,Except.ok.injEq] at hok
    subst hok
    exact ⟨st,by simp,ρ,tm,ds,w,hs,Stp.refl _ _ _,.one st_region_end⟩
  | [],_ :: _,h,_,_,_,_,_,_,_,_,_ => by simp at h
  | _ :: _,[],h,_,_,_,_,_,_,_,_,_ => by simp at h
  | i :: is,o :: os,h,ρ,st,L,tm,ds,w,hx,hs,hok => by
    simp only [List.map_cons,List.cons.injEq] at h
    obtain ⟨h1,h2⟩ := h
    simp only [opsN] at hok
    split at hok
    · rename_i y hy
      obtain ⟨hop,hg⟩ := isNext_eq hy
      obtain ⟨tmv,hh,dv⟩ := st
      simp only at hok
      split at hok
      · simp at hok
      · rename_i l hl
        have hev := evT_rel hs.tm hs.g
        obtain ⟨p,hp,ρ1,w1,n1,k1,k2,k3,k4⟩ := next_ok (E := E) hop hev hs.w hl
        obtain ⟨r,hr,hrm⟩ := mapN_mem hok p hp
        obtain ⟨v,t,nx⟩ := p
        simp only [stepN,force_eq] at hr
        have hwa : Region.wanted o (yielded ops tm) = true := wantedS_ok (o := o) hs.tm (b := true) (by rw [hg]; rfl)
        have hdef : x.round = none ∨ ∀ c,o.op ≠ .defer c := .inr fun c e => by rw [hop] at e; simp at e
        have hx1 := hx.mono k3.le
        have hg1 := hs.g.mono k3.le
        have go : ∃ tm1,SRel E ρ1 fx ⟨putT tmv fx.nt o.dst v,⟨t,nx⟩,dv⟩ tm1 ds w1 ∧ step E.P (lone (fat x tm ds (.inRegion ops (i :: is) :: k)) cs w) = .next (lone (fat x tm1 ds (.inRegion ops is :: k)) cs w1) := by
          cases k1 with
          | value hv => exact ⟨_,⟨(hs.tm.mono k3.le).put hv o.dst,hs.ds.mono k3.le,k2,hg1⟩,st_value h1 hwa hdef k4⟩
          | skip => exact ⟨_,⟨(hs.tm.mono k3.le).put (undef_rel ρ1) o.dst,hs.ds.mono k3.le,k2,hg1⟩,st_skipped h1 hwa hdef k4⟩
        obtain ⟨tm1,g1,g2⟩ := go
        obtain ⟨st',q1,ρ2,tm2,ds2,w2,l1,l2,l3⟩ := opsN_ok KE hih k cs hcs is os h2 ρ1 _ r tm1 ds w1 hx1 g1 hr
        exact ⟨st',hrm _ q1,ρ2,tm2,ds2,w2,l1,k3.trans l2,.head g2 l3⟩
    · split at hok
      · simp at hok
      · rename_i st1 h3
        obtain ⟨ρ1,tm1,ds1,w1,k1,k2,k3⟩ := opS_ok KE hih hx hs h1 h3 is k cs hcs
        obtain ⟨st',q1,ρ2,tm2,ds2,w2,l1,l2,l3⟩ := opsN_ok KE hih k cs hcs is os h2 ρ1 st1 L tm1 ds1 w1 (hx.mono k2.le) k1 hok
        exact ⟨st',q1,ρ2,tm2,ds2,w2,l1,k2.trans l2,k3.trans l3⟩

/-- where the machine stands -/
def AtOutN (x : FxR) (k : List Item) (cs : List Frame) : OutN → Array Value → List Deferred → World → Machine → Prop
  | .out o,tm,ds,w,m => AtOut x k cs o tm ds w m
  | .goto l,tm,ds,w,m => ∃ k2,gotoIn l k2 = gotoIn l k ∧ m = lone (fat x tm ds (.code (.goto l) :: k2)) cs w

/-- a piece of code that comes out -/
def GoesN (E : Env) (fx : Fx) (x : FxR) (cs : List Frame) (ρ : Ren) (h : SHeap) (w : World) (m : Machine) (k : List Item) (o : OutN) (st' : St) : Prop :=
  ∃ ρ' tm' ds' w' m',SRel E ρ' fx st' tm' ds' w' ∧ Stp ρ h w ρ' st'.h w' ∧ AtOutN x k cs o tm' ds' w' m' ∧ Steps E.P m m'

theorem GoesN.head {fx : Fx} {x : FxR} {cs : List Frame} {ρ : Ren} {h : SHeap} {w : World} {m m1 : Machine} {k : List Item} {o : OutN} {st' : St} (hs : step E.P m = .next m1) (hg : GoesN E fx x cs ρ h w m1 k o st') :
    GoesN E fx x cs ρ h w m k o st' := by
  obtain ⟨ρ',tm',ds',w',m',a,b,c,d⟩ := hg
  exact ⟨ρ',tm',ds',w',m',a,b,c,.head hs d⟩

theorem GoesN.congr {fx : Fx} {x : FxR} {cs : List Frame} {ρ : Ren} {h : SHeap} {w : World} {m : Machine} {k k' : List Item} {o : OutN} {st' : St} (hn : o ≠ .out .normal) (he : ∀ id,exitTo id k = exitTo id k')
    (hl : ∀ l,o = .goto l → gotoIn l k = gotoIn l k') (hg : GoesN E fx x cs ρ h w m k o st') : GoesN E fx x cs ρ h w m k' o st' := by
  obtain ⟨ρ',tm',ds',w',m',a,b,c,d⟩ := hg
  refine ⟨ρ',tm',ds',w',m',a,b,?_,d⟩
  cases o with
  | goto l => obtain ⟨k2,h1,h2⟩ := c; exact ⟨k2,h1.trans (hl l rfl),h2⟩
  | out o =>
    cases o with
    | normal => exact absurd rfl hn
    | exit id => obtain ⟨k2,h1,h2⟩ := c; exact ⟨k2,h1.trans (he id),h2⟩
    | ret => exact c

theorem st_goto {x : FxR} {tm : Array Value} {ds : List Deferred} {cs : List Frame} {w : World} {l : Nat} {k k' : List Item} (h : gotoIn l k = some k') : step E.P (lone (fat x tm ds (.code (.goto l) :: k)) cs w) = .next (lone (fat x tm ds k') cs w) :=
  step_lone_go (by simp only [stepG,stepG.exec,fat,h,Option.elim]; rfl)

/-- what is asked of a piece of code -/
def CodeNOK (E : Env) (ih : K) (n : Nat) (c : Code) : Prop := ∀ (fx : Fx) (x : FxR) (ρ : Ren) (st : St) (tm : Array Value) (ds : List Deferred) (w : World) (L : List (OutN × St)),
  FxRel ρ fx x → SRel E ρ fx st tm ds w → codeN E ih fx n c st = .ok L → ∀ (k : List Item) (cs : List Frame),kindOK x.kind cs → ∃ p ∈ L,GoesN E fx x cs ρ st.h w (lone (fat x tm ds (.code c :: k)) cs w) k p.1 p.2

theorem oneN_ok {ih : K} {c : Code} {n : Nat} (h : CodeOK E ih (fun fx st => codeS c E ih fx st) c) (hc : ∀ fx st,codeN E ih fx n c st = oneN (codeS c E ih fx st)) : CodeNOK E ih n c := by
  intro fx x ρ st tm ds w L hx hs hok k cs hcs
  rw [hc] at hok
  unfold oneN at hok
  split at hok
  · simp at hok
  · rename_i o st' hp
    obtain rfl := Except.ok.inj hok
    obtain ⟨ρ',tm',ds',w',m',a,b,c,d⟩ := h fx x ρ st tm ds w o st' hx hs hp k cs hcs
    exact ⟨(.out o,st'),by simp,ρ',tm',ds',w',m',a,b,c,d⟩

theorem GoesN.cont {fx : Fx} {x : FxR} {cs : List Frame} {ρ : Ren} {h : SHeap} {w : World} {m : Machine} {k0 k : List Item} {st1 : St} (hx : FxRel ρ fx x) (hg : GoesN E fx x cs ρ h w m k0 (.out .normal) st1) {L : List (OutN × St)}
    (hn : ∀ ρ1 tm1 ds1 w1,FxRel ρ1 fx x → SRel E ρ1 fx st1 tm1 ds1 w1 → ∃ p ∈ L,GoesN E fx x cs ρ1 st1.h w1 (lone (fat x tm1 ds1 k0) cs w1) k p.1 p.2) : ∃ p ∈ L,GoesN E fx x cs ρ h w m k p.1 p.2 := by
  obtain ⟨ρ1,tm1,ds1,w1,m1,k1,k2,k3,k4⟩ := hg
  simp only [AtOutN,AtOut] at k3
  subst k3
  obtain ⟨p,hp,ρ2,tm2,ds2,w2,m2,l1,l2,l3,l4⟩ := hn ρ1 tm1 ds1 w1 (hx.mono k2.le) k1
  exact ⟨p,hp,ρ2,tm2,ds2,w2,m2,l1,k2.trans l2,l3,k4.trans l4⟩

/-- what comes behind a piece of code that comes out as it should -/
theorem then_ok {fx : Fx} {x : FxR} {cs : List Frame} {ρ : Ren} {h : SHeap} {w : World} {m : Machine} {k0 k : List Item} {l L : List (OutN × St)} {f : St → NR} (hx : FxRel ρ fx x) (hok : mapN (thenN f) l = .ok L)
    (he : ∀ id,exitTo id k0 = exitTo id k) (hl : ∀ i,gotoIn i k0 = gotoIn i k) (hg : ∃ p ∈ l,GoesN E fx x cs ρ h w m k0 p.1 p.2)
    (hn : ∀ ρ1 st1 tm1 ds1 w1 r,FxRel ρ1 fx x → SRel E ρ1 fx st1 tm1 ds1 w1 → f st1 = .ok r → ∃ p ∈ r,GoesN E fx x cs ρ1 st1.h w1 (lone (fat x tm1 ds1 k0) cs w1) k p.1 p.2) : ∃ p ∈ L,GoesN E fx x cs ρ h w m k p.1 p.2 := by
  obtain ⟨p,hp,g⟩ := hg
  obtain ⟨r,hr,hrm⟩ := mapN_mem hok p hp
  obtain ⟨o,st1⟩ := p
  cases o with
  | goto i =>
    obtain rfl := Except.ok.inj hr
    exact ⟨_,hrm _ (by simp),g.congr (by simp) he (fun i _ => hl i)⟩
  | out o =>
    cases o with
    | normal =>
      have hr : f st1 = .ok r := hr
      obtain ⟨q,hq,g2⟩ := g.cont hx (k := k) (L := r) fun ρ1 tm1 ds1 w1 hx1 hs1 => hn ρ1 st1 tm1 ds1 w1 r hx1 hs1 hr
      exact ⟨q,hrm _ hq,g2⟩
    | exit i =>
      obtain rfl := Except.ok.inj hr
      exact ⟨_,hrm _ (by simp),g.congr (by simp) he (fun i _ => hl i)⟩
    | ret =>
      obtain rfl := Except.ok.inj hr
      exact ⟨_,hrm _ (by simp),g.congr (by simp) he (fun i _ => hl i)⟩

theorem bindN_inv {k : OutN × St → NR} {r : NR} {L : List (OutN × St)} (h : bindN k r = .ok L) : ∃ l,r = .ok l ∧ mapN k l = .ok L := by
  unfold bindN at h
  split at h
  · simp at h
  · exact ⟨_,rfl,h⟩

theorem loopN_ok {ih : K} {b : Code} {n0 : Nat} (hb : CodeNOK E ih n0 b) (fx : Fx) (x : FxR) (k : List Item) (cs : List Frame) (hcs : kindOK x.kind cs) : ∀ (n : Nat) (ρ : Ren) (st : St) (tm : Array Value) (ds : List Deferred) (w : World) (L : List (OutN × St)),
    FxRel ρ fx x → SRel E ρ fx st tm ds w → loopN (codeN E ih fx n0 b) n st = .ok L → ∃ p ∈ L,GoesN E fx x cs ρ st.h w (lone (fat x tm ds (.code b :: .inLoop b :: k)) cs w) k p.1 p.2
  | 0,ρ,st,tm,ds,w,L,hx,hs,hok => by simp [loopN] at hok
  | n + 1,ρ,st,tm,ds,w,L,hx,hs,hok => by
    simp only [loopN] at hok
    obtain ⟨l,hl,hok⟩ := bindN_inv hok
    refine then_ok (k0 := .inLoop b :: k) (k := k) hx hok (fun _ => rfl) (fun _ => rfl) (hb fx x ρ st tm ds w l hx hs hl (.inLoop b :: k) cs hcs) fun ρ1 st1 tm1 ds1 w1 r hx1 hs1 hr => ?_
    obtain ⟨q,hq,g2⟩ := loopN_ok hb fx x k cs hcs n ρ1 st1 tm1 ds1 w1 r hx1 hs1 hr
    exact ⟨q,hq,g2.head st_inLoop⟩

theorem scopeN_ok {ih : K} {n0 : Nat} (hall : ∀ c,CodeNOK E ih n0 c) {body : Code} (fx : Fx) (x : FxR) (k : List Item) (cs : List Frame) (hcs : kindOK x.kind cs) : ∀ (n : Nat) (ρ : Ren) (h : SHeap) (w : World) (m : Machine) (p : OutN × St) (L : List (OutN × St)),
    FxRel ρ fx x → GoesN E fx x cs ρ h w m (.inScope body :: k) p.1 p.2 → scopeN (codeN E ih fx n0) body n p = .ok L → ∃ p ∈ L,GoesN E fx x cs ρ h w m k p.1 p.2
  | 0,ρ,h,w,m,p,L,hx,g,hok => by simp [scopeN] at hok
  | n + 1,ρ,h,w,m,(o,st),L,hx,g,hok => by
    cases o with
    | out o =>
      simp only [scopeN,Except.ok.injEq] at hok
      subst hok
      refine ⟨_,List.mem_singleton.2 rfl,?_⟩
      cases o with
      | normal =>
        obtain ⟨ρ1,tm1,ds1,w1,m1,k1,k2,k3,k4⟩ := g
        simp only [AtOutN,AtOut] at k3
        subst k3
        exact ⟨ρ1,tm1,ds1,w1,_,k1,k2,rfl,k4.trans (.one st_inScope)⟩
      | exit i => exact GoesN.congr (k := .inScope body :: k) (by simp) (fun _ => rfl) (fun _ e => by cases e) g
      | ret => exact GoesN.congr (k := .inScope body :: k) (by simp) (fun _ => rfl) (fun _ e => by cases e) g
    | goto l =>
      simp only [scopeN] at hok
      split at hok
      · rename_i rest hf
        obtain ⟨L1,hL1,hok⟩ := bindN_inv hok
        obtain ⟨ρ1,tm1,ds1,w1,m1,k1,k2,⟨k5,e1,rfl⟩,k4⟩ := g
        have hin : gotoIn l k5 = some (.code rest :: .inScope body :: k) := by rw [e1]; simp only [gotoIn,hf]
        obtain ⟨q,hq,ρ2,tm2,ds2,w2,m2,l1,l2,l3,l4⟩ := hall rest fx x ρ1 st tm1 ds1 w1 L1 (hx.mono k2.le) k1 hL1 (.inScope body :: k) cs hcs
        obtain ⟨r,hr,hrm⟩ := mapN_mem hok q hq
        obtain ⟨p,hp,g2⟩ := scopeN_ok hall fx x k cs hcs n ρ h w m q r hx ⟨ρ2,tm2,ds2,w2,m2,l1,k2.trans l2,l3,k4.trans (.head (st_goto hin) l4)⟩ hr
        exact ⟨p,hrm _ hp,g2⟩
      · rename_i hf
        simp only [Except.ok.injEq] at hok
        subst hok
        exact ⟨_,List.mem_singleton.2 rfl,GoesN.congr (k := .inScope body :: k) (by simp) (fun _ => rfl) (fun l' e => by cases e; simp only [gotoIn,hf]) g⟩

theorem codeN_ok (KE : EnvOK E) (hdraw : DrawOK E) {ih : K} (hih : KOK E ih) : ∀ (n : Nat) (c : Code),CodeNOK E ih n c
  | 0,c => by intro fx x ρ st tm ds w L hx hs hok; simp [codeN] at hok
  | n + 1,.skip => oneN_ok (codeS_ok KE hdraw hih .skip) fun _ _ => rfl
  | n + 1,.rangeFunc f ps a b => oneN_ok (codeS_ok KE hdraw hih (.rangeFunc f ps a b)) fun _ _ => rfl
  | n + 1,.exit i => oneN_ok (codeS_ok KE hdraw hih (.exit i)) fun _ _ => rfl
  | n + 1,.label i => oneN_ok (codeS_ok KE hdraw hih (.label i)) fun _ _ => rfl
  | n + 1,.ret => oneN_ok (codeS_ok KE hdraw hih .ret) fun _ _ => rfl
  | n + 1,.refuse s => oneN_ok (codeS_ok KE hdraw hih (.refuse s)) fun _ _ => rfl
  | n + 1,.region id ops true => oneN_ok (codeS_ok KE hdraw hih (.region id ops true)) fun _ _ => rfl
  | n + 1,.goto l => by
    intro fx x ρ st tm ds w L hx hs hok k cs hcs
    simp only [codeN,Except.ok.injEq] at hok
    subst hok
    exact ⟨_,List.mem_singleton.2 rfl,ρ,tm,ds,w,_,hs,Stp.refl _ _ _,⟨k,rfl,rfl⟩,Steps.refl _ _⟩
  | n + 1,.region id ops false => by
    intro fx x ρ st tm ds w L hx hs hok k cs hcs
    simp only [codeN,normalN] at hok
    split at hok
    · simp at hok
    · rename_i l hl
      obtain rfl := Except.ok.inj hok
      obtain ⟨st',q,ρ',tm',ds',w',a,b,c⟩ := opsN_ok KE hih k cs hcs _ _ (range_ops ops) ρ st l tm ds w hx hs hl
      exact ⟨(.out .normal,st'),List.mem_map.2 ⟨st',q,rfl⟩,ρ',tm',ds',w',_,a,b,rfl,.head st_region c⟩
  | n + 1,.seq a b => by
    intro fx x ρ st tm ds w L hx hs hok k cs hcs
    simp only [codeN] at hok
    obtain ⟨l,hl,hok⟩ := bindN_inv hok
    obtain ⟨p,hp,g⟩ := codeN_ok KE hdraw hih n a fx x ρ st tm ds w l hx hs hl (.code b :: k) cs hcs
    exact then_ok (k0 := .code b :: k) (k := k) hx hok (fun _ => rfl) (fun _ => rfl) ⟨p,hp,g.head st_seq⟩ fun ρ1 st1 tm1 ds1 w1 r hx1 hs1 hr => codeN_ok KE hdraw hih n b fx x ρ1 st1 tm1 ds1 w1 r hx1 hs1 hr k cs hcs
  | n + 1,.cond c a b => by
    intro fx x ρ st tm ds w L hx hs hok k cs hcs
    simp only [codeN] at hok
    split at hok
    · rename_i t ht
      have hr := evT_rel hs.tm hs.g c _ ht
      have he : fatEval tm c = .bool t := by
        revert hr; generalize fatEval tm c = e; intro hr; cases hr; rfl
      cases t with
      | true =>
        obtain ⟨p,hp,g⟩ := codeN_ok KE hdraw hih n a fx x ρ st tm ds w L hx hs hok k cs hcs
        exact ⟨p,hp,g.head (st_cond he)⟩
      | false =>
        obtain ⟨p,hp,g⟩ := codeN_ok KE hdraw hih n b fx x ρ st tm ds w L hx hs hok k cs hcs
        exact ⟨p,hp,g.head (st_cond he)⟩
    · simp at hok
  | n + 1,.block i b => by
    intro fx x ρ st tm ds w L hx hs hok k cs hcs
    simp only [codeN,blockN] at hok
    split at hok
    · simp at hok
    · rename_i l hl
      obtain rfl := Except.ok.inj hok
      obtain ⟨p,hp,ρ1,tm1,ds1,w1,m1,k1,k2,k3,k4⟩ := codeN_ok KE hdraw hih n b fx x ρ st tm ds w l hx hs hl (.inBlock i :: k) cs hcs
      refine ⟨outN i p,List.mem_map.2 ⟨p,hp,rfl⟩,?_⟩
      refine GoesN.head st_block ?_
      obtain ⟨o,st1⟩ := p
      cases o with
      | goto l => obtain ⟨k5,e1,rfl⟩ := k3; exact ⟨ρ1,tm1,ds1,w1,_,k1,k2,⟨k5,e1,rfl⟩,k4⟩
      | out o =>
        cases o with
        | normal =>
          simp only [AtOutN,AtOut] at k3
          subst k3
          exact ⟨ρ1,tm1,ds1,w1,_,k1,k2,rfl,k4.trans (.one st_inBlock)⟩
        | exit j =>
          obtain ⟨k5,e1,rfl⟩ := k3
          cases hi : Nat.beq j i with
          | true =>
            have e2 : outN i (.out (.exit j),st1) = (.out .normal,st1) := by simp only [outN,hi,cond_true]
            rw [e2]
            rw [beq_decide,decide_eq_true_eq] at hi
            subst hi
            exact ⟨ρ1,tm1,ds1,w1,_,k1,k2,rfl,k4.trans (.one (st_exit (by rw [e1]; simp [exitTo])))⟩
          | false =>
            have e2 : outN i (.out (.exit j),st1) = (.out (.exit j),st1) := by simp only [outN,hi,cond_false]
            rw [e2]
            rw [beq_decide,decide_eq_false_iff_not] at hi
            refine ⟨ρ1,tm1,ds1,w1,_,k1,k2,⟨k5,?_,rfl⟩,k4⟩
            rw [e1]
            simp [exitTo,Ne.symm hi]
        | ret =>
          obtain ⟨k5,rfl⟩ := k3
          exact ⟨ρ1,tm1,ds1,w1,_,k1,k2,⟨k5,rfl⟩,k4⟩
  | n + 1,.loop b => by
    intro fx x ρ st tm ds w L hx hs hok k cs hcs
    simp only [codeN] at hok
    obtain ⟨p,hp,g⟩ := loopN_ok (codeN_ok KE hdraw hih n b) fx x k cs hcs _ ρ st tm ds w L hx hs hok
    exact ⟨p,hp,g.head st_loop⟩
  | n + 1,.scope b => by
    intro fx x ρ st tm ds w L hx hs hok k cs hcs
    simp only [codeN] at hok
    obtain ⟨l,hl,hok⟩ := bindN_inv hok
    obtain ⟨p,hp,g⟩ := codeN_ok KE hdraw hih n b fx x ρ st tm ds w l hx hs hl (.inScope b :: k) cs hcs
    obtain ⟨r,hr,hrm⟩ := mapN_mem hok p hp
    obtain ⟨q,hq,g2⟩ := scopeN_ok (codeN_ok KE hdraw hih n) fx x k cs hcs _ ρ st.h w _ p r hx (g.head st_scope) hr
    exact ⟨q,hrm _ hq,g2⟩

theorem enterN_ok (KE : EnvOK E) (hdraw : DrawOK E) {ih : K} (hih : KOK E ih) {f : FuncId} {args : Array Value} {h : SHeap} {L : List (Value × SHeap)}
    (hok : enterN E ih f args h = .ok L) {ρ : Ren} {w : World} (hw : WRel E ρ h w) (hg : GRel E ρ) {rargs : Array Value} (ha : LRel ρ args.toList rargs.toList) (c0 : Frame) (cs : List Frame) :
    ∃ p ∈ L,∃ ρ' w' u,VRel ρ' p.1 u ∧ WRel E ρ' p.2 w' ∧ Stp ρ h w ρ' p.2 w' ∧ Steps E.P (lone (Frame.enter E.P f rargs .normal) (c0 :: cs) w) (lone (c0.finish u) cs w') := by
  unfold enterN at hok
  split at hok
  · rename_i fd hf
    split at hok
    · rename_i c hb
      split at hok
      · simp at hok
      · rename_i l hl
        have hfn := KE.func f fd hf
        have henter : Frame.enter E.P f rargs .normal = fat ⟨f,.normal,none⟩ (rargs ++ Array.replicate (fd.ntmps - rargs.size) undef) [] [.code c] := by
          simp [Frame.enter,fat,hfn,hb]
        have hx : FxRel ρ ⟨f,max fd.ntmps args.size,.normal,none⟩ ⟨f,.normal,none⟩ := ⟨rfl,rfl,trivial⟩
        have hs : SRel E ρ ⟨f,max fd.ntmps args.size,.normal,none⟩ ⟨Tr.ofL 33 args.toList,h,[]⟩ (rargs ++ Array.replicate (fd.ntmps - rargs.size) undef) [] w := ⟨enter_tm ha fd.ntmps,.nil,hw,hg⟩
        obtain ⟨p,hp,ρ1,tm1,ds1,w1,m1,k1,k2,k3,k4⟩ := codeN_ok KE hdraw hih _ c _ _ ρ _ _ [] w _ hx hs hl [] (c0 :: cs) (fun e => by simp at e)
        obtain ⟨r,hr,hrm⟩ := mapN_mem hok p hp
        obtain ⟨o,st⟩ := p
        have fin : (match leaveS E ih fd st with | .error e => .error e | .ok p => .ok [p] : Ex (List (Value × SHeap))) = .ok r → (∃ todo,(todo = [] ∨ ∃ k2,todo = .code .ret :: k2) ∧ m1 = lone (fat ⟨f,.normal,none⟩ tm1 ds1 todo) (c0 :: cs) w1) →
            ∃ p ∈ L,∃ ρ' w' u,VRel ρ' p.1 u ∧ WRel E ρ' p.2 w' ∧ Stp ρ h w ρ' p.2 w' ∧ Steps E.P (lone (Frame.enter E.P f rargs .normal) (c0 :: cs) w) (lone (c0.finish u) cs w') := by
          rintro hok ⟨todo,ht,rfl⟩
          split at hok
          · simp at hok
          · rename_i p hlv
            obtain rfl := Except.ok.inj hok
            obtain ⟨v,h'⟩ := p
            obtain ⟨tmv,h1,dv⟩ := st
            unfold leaveS at hlv
            simp only at hlv
            split at hlv
            · simp at hlv
            · rename_i h2 hd
              split at hlv
              · rename_i vs hvs
                obtain ⟨rfl,rfl⟩ := ok_inj hlv
                obtain ⟨ρ2,w2,l1,l2,l3⟩ := defersS_ok KE hih ⟨f,.normal,none⟩ tm1 todo (c0 :: cs) _ _ _ _ hd ρ1 w1 ds1 k1.w k1.g k1.ds
                obtain ⟨u,r1,r2⟩ := results_ok KE (k1.tm.mono l2.le) l1 (fn := fd) hvs
                refine ⟨(tupled vs,h2),hrm (tupled vs,h2) (List.mem_singleton.2 rfl),ρ2,w2,u,r1,l1,k2.trans l2,?_⟩
                rw [henter]
                exact (k4.trans (.head (st_end_call rfl ht) l3)).trans (.one (st_return hfn r2 rfl c0))
              · simp at hlv
        cases o with
        | goto => simp [leaveN] at hr
        | out o =>
          cases o with
          | exit => simp [leaveN] at hr
          | normal => exact fin hr ⟨[],.inl rfl,k3⟩
          | ret => obtain ⟨k5,e⟩ := k3; exact fin hr ⟨_,.inr ⟨k5,rfl⟩,e⟩
    · simp at hok
  · simp at hok

theorem allChk_mem {m : Memo} : ∀ {l : List (Value × SHeap)},allChk m l = true → ∀ p ∈ l,memoChk m (.ok p) = true
  | [],_,p,hp => by simp at hp
  | a :: l,h,p,hp => by
    simp only [allChk,Bool.and_eq_true] at h
    rcases List.mem_cons.1 hp with rfl | hp
    · exact h.1
    · exact allChk_mem h.2 p hp

theorem memoN_ok (KE : EnvOK E) (hdraw : DrawOK E) {ih : K} (hih : KOK E ih) {m : Memo} (hrun : memoRunN E ih m = true) : OrcOK E m.f (memoO m) := by
  refine memo_core fun ρ w hw hg rargs ha c cs => ?_
  unfold memoRunN at hrun
  split at hrun
  · rename_i l hl
    obtain ⟨p,hp,k⟩ := enterN_ok KE hdraw hih hl hw hg (rargs := rargs) (by rw [List.toList_toArray]; exact ha) c cs
    exact ⟨p.1,p.2,allChk_mem hrun p hp,k⟩
  · simp at hrun

end Go.Sim

/- Oracles out of the library's own contracts: strconv's parts, strings.Join. Oracles out of the library's own contracts: strconv's digits. strconv.Itoa in the simulator. strconv.FormatInt in the simulator, at base 10. The simulator on words. -/
import Derived.Test.YtaclddcneogolaaGreatDoorShelf
import Derived.Test.YtaclddcneogolaaGreatDoorOrc4
import Derived.Below
import Derived.Lib.ItoaLen
set_option linter.unusedVariables false
set_option linter.unusedSimpArgs false
set_option linter.unusedSimpArgs false
set_option linter.unusedVariables false
namespace Go.Sim
open Go Go.RowKit Go.Sort Go.Lib
variable {E : Env}

/-- a contract of the kit's answers for an oracle -/
theorem orc_of_calls {f : FuncId} {g : List Value → SHeap → Except String (Value × SHeap)} (hg : ∀ (args : Array Value) h v h',g args.toList h = .ok (v,h') → ∀ ρ w,WRel E ρ h w → GRel E ρ → ∀ rargs : Array Value,LRel ρ args.toList rargs.toList →
    Calls E.P f rargs w fun e w' => ∃ ρ' u,e = .returned u ∧ VRel ρ' v u ∧ WRel E ρ' h' w' ∧ Stp ρ h w ρ' h' w') : OrcOK E f g := by
  intro args h v h' hok ρ w hw hgr rargs ha c cs
  obtain ⟨e,w',fr,⟨ρ',u,rfl,k1,k2,k3⟩,hc,_,hl⟩ := hg args h v h' hok ρ w hw hgr rargs ha (c :: cs)
  exact ⟨ρ',w',u,k1,k2,k3,Steps.trans hc (.one (step_leave_returned hl))⟩

/-- new blocks alone -/
theorem grown_rel {ρ : Ren} {h : SHeap} {w w' : World} (k : WRel E ρ h w) (hs : w.heap.size ≤ w'.heap.size) (hb : ∀ r,r < w.heap.size → w'.heap[r]? = w.heap[r]?) (h1 : w'.os = w.os) (h2 : w'.output = w.output) (h3 : w'.tape = w.tape) : WRel E ρ h w' ∧ Stp ρ h w ρ h w' := by
  refine ⟨⟨k.dom,fun b o hbo => ?_,k.inj⟩,Le.refl ρ,hs,fun r hr hn => ⟨hb r hr,hn⟩,h1,h2,h3,fun r _ hn => hn,fun _ _ => rfl,Nat.le_refl _⟩
  obtain ⟨r,κ,a,c⟩ := k.live b o hbo
  exact ⟨r,κ,a,c.move (Le.refl ρ) (hb r c.there)⟩
theorem below_rel {ρ : Ren} {h : SHeap} {w w' : World} (k : WRel E ρ h w) (hb : Below w.heap.size w w') : WRel E ρ h w' ∧ Stp ρ h w ρ h w' :=
  grown_rel k hb.size (fun r hr => hb.block r hr) hb.os hb.output hb.tape

theorem args_pair {ρ : Ren} {a b : Value} {r : Array Value} (h : LRel ρ [a,b] r.toList) : ∃ x y,r = #[x,y] ∧ VRel ρ a x ∧ VRel ρ b y := by
  obtain ⟨l⟩ := r
  match l,h with
  | [x,y],h => exact ⟨x,y,rfl,h.get 0 _ _ rfl rfl,h.get 1 _ _ rfl rfl⟩
  | [],h => have := h.len; simp at this
  | [_],h => have := h.len; simp at this
  | _ :: _ :: _ :: _,h => have := h.len; simp at this
theorem args_one' {ρ : Ren} {a : Value} {r : Array Value} (h : LRel ρ [a] r.toList) : ∃ x,r = #[x] ∧ VRel ρ a x := by
  obtain ⟨l⟩ := r
  match l,h with
  | [x],h => exact ⟨x,rfl,h.get 0 _ _ rfl rfl⟩
  | [],h => have := h.len; simp at this
  | _ :: _ :: _,h => have := h.len; simp at this

/-! ## strings.Join -/
def strsOf : List Value → Option (List ByteArray)
  | [] => some []
  | v :: r => match v with
    | .string s => match strsOf r with
      | some l => some (s :: l)
      | none => none
    | _ => none
theorem strsOf_map : ∀ {l : List Value} {xs : List ByteArray},strsOf l = some xs → l = xs.map .string
  | [],xs,h => by simp [strsOf] at h; subst h; rfl
  | v :: r,xs,h => by
    unfold strsOf at h
    split at h
    · rename_i s
      split at h
      · rename_i l hl
        obtain rfl := Option.some.inj h
        rw [strsOf_map hl]; rfl
      · simp at h
    · simp at h

def joinB (h : SHeap) (xs : Option (List ByteArray)) (sep : ByteArray) : Ex (Value × SHeap) := match xs with
  | some xs => bif Nat.ble (Lib.join (xs.map (·.data.toList)) sep.data.toList).length 140737488355328 && Nat.ble xs.length 140737488355328 then .ok (.string ⟨(Lib.join (xs.map (·.data.toList)) sep.data.toList).toArray⟩,h) else .error "join  long"
  | none => .error "join  no strings"
def joinA (h : SHeap) (o n : Nat) (sep : ByteArray) (x : Option SObj) : Ex (Value × SHeap) := match x with
  | some (.cells c _ _ _ _) => joinB h ((c.toListFrom o n).bind strsOf) sep
  | _ => .error "join  block"
def joinQ (args : List Value) (h : SHeap) : Ex (Value × SHeap) := match args with
  | [.slice none 0 c,.string _] => bif Nat.blt c openCap then .ok (.string ⟨#[]⟩,h) else .error "join  nil"
  | [.slice (some ⟨b,o,none⟩) n c,.string sep] => bif Nat.ble n c && Nat.ble c openCap then joinA h o n sep (h.t.get b) else .error "join  loose"
  | _ => .error "join  args"

end Go.Sim
namespace Go.Proofs.YtaclddcneogolaaGreatDoor
open Go Go.Sim Go.RowKit Go.Sort Go.Lib
variable {O : Nat → Option (List Value → SHeap → Except String (Value × SHeap))}

theorem join_ok : OrcOK (Eo O) 66 joinQ := by
  refine orc_of_calls fun args h v h' hok ρ w hw hgr rargs ha => ?_
  unfold joinQ at hok
  split at hok
  · rename_i c sep hargs
    cases hc : Nat.blt c openCap with
    | false => rw [hc] at hok; simp at hok
    | true =>
      rw [hc,cond_true] at hok
      simp only [Except.ok.injEq,Prod.mk.injEq] at hok
      obtain ⟨rfl,rfl⟩ := hok
      rw [hargs] at ha
      obtain ⟨x,y,rfl,hx,hy⟩ := args_pair ha
      cases hy
      have hlt := of_blt hc
      cases hx with
      | slcNil _ => exact (Tryz.strings_Join_none none c sep w).mono fun e w' ⟨he,hw'⟩ => ⟨ρ,_,he,.string _,hw' ▸ hw,hw' ▸ Stp.refl _ _ _⟩
      | slcNone a c' => exact absurd hlt (by decide)
  · rename_i b o n c sep hargs
    cases hc : (Nat.ble n c && Nat.ble c openCap) with
    | false => rw [hc] at hok; simp at hok
    | true =>
      rw [hc,cond_true] at hok
      simp only [Bool.and_eq_true] at hc
      have hnc := Nat.le_of_ble_eq_true hc.1
      have hco := Nat.le_of_ble_eq_true hc.2
      unfold joinA at hok
      split at hok
      · rename_i ct m el op ro hb
        unfold joinB at hok
        split at hok
        · rename_i xs hxs
          obtain ⟨l,hl,hs⟩ := Option.bind_eq_some_iff.1 hxs
          cases hlen : (Nat.ble (Lib.join (xs.map (·.data.toList)) sep.data.toList).length 140737488355328 && Nat.ble xs.length 140737488355328) with
          | false => rw [hlen] at hok; simp at hok
          | true =>
            rw [hlen,cond_true] at hok
            simp only [Except.ok.injEq,Prod.mk.injEq] at hok
            obtain ⟨rfl,rfl⟩ := hok
            simp only [Bool.and_eq_true] at hlen
            have hl1 := Nat.le_of_ble_eq_true hlen.1
            have hl2 := Nat.le_of_ble_eq_true hlen.2
            obtain ⟨t1,t2⟩ := toListFrom_spec _ _ _ _ hl
            have hmap := strsOf_map hs
            have hxl : xs.length = n := by rw [← t1,hmap]; simp
            rw [hargs] at ha
            obtain ⟨x,y,rfl,hx,hy⟩ := args_pair ha
            cases hy
            obtain ⟨r0,κ0,hρ,hobj⟩ := hw.live b _ hb
            have hthere := hobj.there
            obtain ⟨mm,hobj⟩ := hobj
            have cells : ∀ (j : Nat) x,xs[j]? = some x → w.cell? ⟨r0,o + j,none⟩ = some (.string x) := by
              intro j x hj
              have hjl : j < xs.length := by
                rcases Nat.lt_or_ge j xs.length with h | h
                · exact h
                · rw [List.getElem?_eq_none h] at hj; simp at hj
              have h2 := t2 j (by omega)
              rw [hmap,List.getElem?_map,hj] at h2
              obtain ⟨u,hu,hr⟩ := hobj.get (o + j) _ h2.symm
              cases hr
              exact hu
            have fin : ∀ cap,xs.length ≤ cap → Calls (Eo O).P 66 #[.slice (some ⟨r0,o,none⟩) n cap,.string sep] w fun e w' => ∃ ρ' u,e = .returned u ∧ VRel ρ' (.string ⟨(Lib.join (xs.map (·.data.toList)) sep.data.toList).toArray⟩) u ∧ WRel (Eo O) ρ' h w' ∧ Stp ρ h w ρ' h w' := by
              intro cap hcap
              have := Tryz.strings_Join r0 o cap xs sep w cells hthere hl2 hcap hl1
              rw [hxl] at this
              exact this.mono fun e w' ⟨he,hbw⟩ => let ⟨a,b⟩ := below_rel hw hbw; ⟨ρ,_,he,.string _,a,b⟩
            cases hx with
            | slc hclt hb' =>
              rw [hρ] at hb'
              simp only [Option.some.injEq,Prod.mk.injEq] at hb'
              obtain ⟨rfl,rfl⟩ := hb'
              exact fin _ (by omega)
            | slcOpen hb' hle =>
              rw [hρ] at hb'
              simp only [Option.some.injEq,Prod.mk.injEq] at hb'
              obtain ⟨rfl,rfl⟩ := hb'
              exact fin _ (by omega)
            | slcLoose hb' hle => exact absurd hco (by decide)
        · simp at hok
      · simp at hok
  · simp at hok
end Go.Proofs.YtaclddcneogolaaGreatDoor

set_option linter.unusedSimpArgs false
set_option linter.unusedVariables false
namespace Go.Sim
open Go Go.RowKit Go.Sort Go.Lib

def smallQ (args : List Value) (h : SHeap) : Ex (Value × SHeap) := match args with
  | [.int .i64 (.ofNat i)] => bif Nat.blt i 100 then .ok (.string ⟨(Lib.decDigits i).toArray⟩,h) else .error "small"
  | _ => .error "small"

def isPow : Nat → List Value → Bool
  | _,[] => true
  | i,v :: r => match v with
    | .int .u64 (.ofNat m) => Nat.beq m (10 ^ i) && forceN (i + 1) fun i => isPow i r
    | _ => false
def tabOK (x : Option SObj) : Bool := match x with
  | some (.cells c n _ op _) => Nat.beq n 20 && notB op && match c.toListFrom 0 20 with
    | some l => isPow 0 l
    | none => false
  | _ => false
where notB : Bool → Bool
  | true => false
  | false => true
def numDigitsQ (args : List Value) (h : SHeap) : Ex (Value × SHeap) := match args with
  | [.int .u64 (.ofNat u)] => bif tabOK (h.t.get 0) && Nat.ble 1 u && Nat.blt u 18446744073709551616 then .ok (.int .i64 (.ofNat (Lib.nDigits u)),h) else .error "numDigits"
  | _ => .error "numDigits"

/-- bytes in their range -/
def inByte : List Value → Bool
  | [] => true
  | v :: r => match v with
    | .int .u8 (.ofNat m) => Nat.blt m 256 && inByte r
    | _ => false
def bytesV (l : List UInt8) : List Value := l.map fun b => .int .u8 (.ofNat b.toNat)
def fmtC (h : SHeap) (b e : Nat) (n : Nat) (c : Option (Tr Value)) : Ex (Value × SHeap) := match c with
  | some c => .ok (.tuple #[],h.set b (some (.cells c n e false false)))
  | none => .error "fmt  store"
def fmtB (h : SHeap) (b o nd u : Nat) (x : Option SObj) : Ex (Value × SHeap) := match x with
  | some (.cells c n e false false) => match c.toListFrom o nd with
    | some l => bif inByte l then fmtC h b e n (storeList c n o (bytesV (Lib.decDigits u))) else .error "fmt  bytes"
    | none => .error "fmt  bytes"
  | _ => .error "fmt  block"
def fmtQ (args : List Value) (h : SHeap) : Ex (Value × SHeap) := match args with
  | [.slice (some ⟨b,o,none⟩) nd c,.int .u64 (.ofNat u)] => bif Nat.beq nd (Lib.nDigits u) && Nat.blt u 18446744073709551616 && Nat.blt c openCap then fmtB h b o nd u (h.t.get b) else .error "fmt"
  | _ => .error "fmt  args"

theorem isPow_get : ∀ {l : List Value} {i k : Nat},isPow i l = true → k < l.length → l[k]? = some (.int .u64 (.ofNat (10 ^ (i + k))))
  | [],_,k,_,hk => by simp at hk
  | v :: r,i,k,h,hk => by
    unfold isPow at h
    split at h
    · rename_i m
      simp only [Bool.and_eq_true,forceN_eq] at h
      obtain rfl := Nat.eq_of_beq_eq_true h.1
      cases k with
      | zero => rfl
      | succ k =>
        have := isPow_get (k := k) h.2 (by simpa using hk)
        rw [List.getElem?_cons_succ,this,show i + 1 + k = i + (k + 1) by omega]
    · simp at h

end Go.Sim
namespace Go.Proofs.YtaclddcneogolaaGreatDoor
open Go Go.Sim Go.RowKit Go.Sort Go.Lib
variable {O : Nat → Option (List Value → SHeap → Except String (Value × SHeap))}

theorem small_ok : OrcOK (Eo O) 190 smallQ := by
  refine orc_of_calls fun args h v h' hok ρ w hw hgr rargs ha => ?_
  unfold smallQ at hok
  split at hok
  · rename_i i hargs
    cases hc : Nat.blt i 100 with
    | false => rw [hc] at hok; simp at hok
    | true =>
      rw [hc,cond_true] at hok
      simp only [Except.ok.injEq,Prod.mk.injEq] at hok
      obtain ⟨rfl,rfl⟩ := hok
      rw [hargs] at ha
      obtain ⟨x,rfl,hx⟩ := args_one' ha
      cases hx
      exact (Tryz.internal_strconv_small i (of_blt hc) w).mono fun e w' ⟨he,hw'⟩ => ⟨ρ,_,he,.string _,hw' ▸ hw,hw' ▸ Stp.refl _ _ _⟩
  · simp at hok

theorem tab_is {ρ : Ren} {h : SHeap} {w : World} (hw : WRel (Eo O) ρ h w) (hg : GRel (Eo O) ρ) (ht : tabOK (h.t.get 0) = true) : Lib.TabIs Tryz.prog w "internal/strconv.uint64pow10" .u64 Lib.pow10Tab := by
  unfold tabOK at ht
  split at ht
  · rename_i c n e op ro hb
    simp only [Bool.and_eq_true] at ht
    obtain ⟨⟨h1,h2⟩,h3⟩ := ht
    obtain rfl := Nat.eq_of_beq_eq_true h1
    have hop : op = false := by cases op <;> simp_all [tabOK.notB]
    subst hop
    split at h3
    · rename_i l hl
      obtain ⟨t1,t2⟩ := toListFrom_spec _ _ _ _ hl
      obtain ⟨r,κ,hρ,m,hobj⟩ := hw.live 0 _ hb
      obtain ⟨κ',hρ'⟩ := hg 0 (by show 0 < 2; omega)
      rw [hρ'] at hρ
      simp only [Option.some.injEq,Prod.mk.injEq] at hρ
      obtain ⟨rfl,rfl⟩ := hρ
      have hm := hobj.shut rfl
      subst hm
      have hsh := hobj.shape
      unfold World.shape? at hsh
      split at hsh
      · rename_i cs t fr hheap
        simp only [Option.some.injEq,Prod.mk.injEq] at hsh
        obtain ⟨rfl,hsz⟩ := hsh
        unfold Lib.TabIs World.var?
        rw [show Tryz.prog.globalNamed "internal/strconv.uint64pow10" = some 0 by kernel_rfl]
        simp only [Option.bind_some,hheap,Option.some.injEq]
        apply Array.ext_getElem?
        intro i
        conv => rhs; rw [List.getElem?_toArray,List.getElem?_map]
        by_cases hi : i < 20
        · have hv : c.get (0 + i) = some (.int .u64 (.ofNat (10 ^ (0 + i)))) := by rw [← t2 i hi]; exact isPow_get h3 (by omega)
          obtain ⟨u,hu,hr⟩ := hobj.get _ _ hv
          cases hr
          simp only [World.cell?,hheap,Nat.zero_add] at hu
          rw [if_neg (by simp)] at hu
          rw [hu]
          have hlen : i < Lib.pow10Tab.length := by rw [Lib.pow10Tab_length]; exact hi
          rw [List.getElem?_eq_getElem hlen]
          have := Lib.pow10Tab_at i hi
          rw [List.getD,List.getElem?_eq_getElem hlen] at this
          simp only [Option.getD_some] at this
          rw [Option.map_some,this]
          rfl
        · rw [Array.getElem?_eq_none (by omega),List.getElem?_eq_none (by rw [Lib.pow10Tab_length]; omega)]
          rfl
      · simp at hsh
    · simp at h3
  · simp at ht

theorem numDigits_ok : OrcOK (Eo O) 191 numDigitsQ := by
  refine orc_of_calls fun args h v h' hok ρ w hw hgr rargs ha => ?_
  unfold numDigitsQ at hok
  split at hok
  · rename_i u hargs
    cases hc : (tabOK (h.t.get 0) && Nat.ble 1 u && Nat.blt u 18446744073709551616) with
    | false => rw [hc] at hok; simp at hok
    | true =>
      rw [hc,cond_true] at hok
      simp only [Except.ok.injEq,Prod.mk.injEq] at hok
      obtain ⟨rfl,rfl⟩ := hok
      simp only [Bool.and_eq_true] at hc
      rw [hargs] at ha
      obtain ⟨x,rfl,hx⟩ := args_one' ha
      cases hx
      exact (Tryz.internal_strconv_numDigits u (Nat.le_of_ble_eq_true hc.1.2) (of_blt hc.2) w (tab_is hw hgr hc.1.1)).mono fun e w' ⟨he,hw'⟩ => ⟨ρ,_,he,.int _ _,hw' ▸ hw,hw' ▸ Stp.refl _ _ _⟩
  · simp at hok

theorem inByte_get : ∀ {l : List Value} {k : Nat},inByte l = true → k < l.length → ∃ m,m < 256 ∧ l[k]? = some (.int .u8 (.ofNat m))
  | [],k,_,hk => by simp at hk
  | v :: r,k,h,hk => by
    unfold inByte at h
    split at h
    · rename_i m
      simp only [Bool.and_eq_true] at h
      cases k with
      | zero => exact ⟨m,of_blt h.1,rfl⟩
      | succ k => simpa using inByte_get h.2 (by simpa using hk)
    · simp at h

def encB : UInt8 → Value := fun b => .int .u8 (b.toNat : Int)
def toB (v : Value) : UInt8 := match v with
  | .int _ (.ofNat m) => UInt8.ofNat m
  | _ => 0

theorem fmt_ok : OrcOK (Eo O) 192 fmtQ := by
  refine orc_of_calls fun args h v h' hok ρ w hw hgr rargs ha => ?_
  unfold fmtQ at hok
  split at hok
  · rename_i b o nd c u hargs
    cases hc : (Nat.beq nd (Lib.nDigits u) && Nat.blt u 18446744073709551616 && Nat.blt c openCap) with
    | false => rw [hc] at hok; simp at hok
    | true =>
      rw [hc,cond_true] at hok
      simp only [Bool.and_eq_true] at hc
      obtain rfl := Nat.eq_of_beq_eq_true hc.1.1
      have hu := of_blt hc.1.2
      have hcc := of_blt hc.2
      unfold fmtB at hok
      split at hok
      · rename_i ct n e hb
        split at hok
        · rename_i l hl
          cases hin : inByte l with
          | false => rw [hin] at hok; simp at hok
          | true =>
            rw [hin,cond_true] at hok
            unfold fmtC at hok
            split at hok
            · rename_i c' hst
              simp only [Except.ok.injEq,Prod.mk.injEq] at hok
              obtain ⟨rfl,rfl⟩ := hok
              obtain ⟨t1,t2⟩ := toListFrom_spec _ _ _ _ hl
              obtain ⟨s1,s2,s3⟩ := storeList_spec _ _ _ _ _ hst
              have hbl : (bytesV (Lib.decDigits u)).length = Lib.nDigits u := by simp [bytesV,Lib.decDigits_length]
              rw [hbl] at s1 s3
              rw [hargs] at ha
              obtain ⟨x,y,rfl,hx,hy⟩ := args_pair ha
              cases hy
              obtain ⟨r,κ,hρ,m,hobj⟩ := hw.live b _ hb
              have hm := hobj.shut rfl
              subst hm
              cases hx with
              | slcOpen _ _ => exact absurd hcc (by decide)
              | slcLoose _ _ => exact absurd hcc (by decide)
              | slc hclt hb' =>
                rw [hρ] at hb'
                simp only [Option.some.injEq,Prod.mk.injEq] at hb'
                obtain ⟨rfl,rfl⟩ := hb'
                have hsh := hobj.shape
                unfold World.shape? at hsh
                split at hsh
                · rename_i cs t fr hheap
                  simp only [Option.some.injEq,Prod.mk.injEq] at hsh
                  obtain ⟨rfl,hsz⟩ := hsh
                  have hrs : r < w.heap.size := by
                    rcases Nat.lt_or_ge r w.heap.size with h | h
                    · exact h
                    · rw [Array.getElem?_eq_none h] at hheap; simp at hheap
                  let d : Array UInt8 := (l.map toB).toArray
                  have hd : d.size = Lib.nDigits u := by simp [d,t1]
                  have hH : Holds encB w r o d := by
                    intro j hj
                    obtain ⟨mm,m1,m2⟩ := inByte_get hin (show j < l.length by omega)
                    have hg := t2 j (by omega)
                    rw [m2] at hg
                    obtain ⟨uu,hu1,hr⟩ := hobj.get _ _ hg.symm
                    cases hr
                    refine ⟨?_,hobj.free rfl _ (by have := s1 j (by omega); omega)⟩
                    rw [hu1]
                    have : d[j]! = UInt8.ofNat mm := by
                      rw [getElem!_pos d j (by omega)]
                      have hj' : j < l.length := by omega
                      rw [List.getElem?_eq_getElem hj'] at m2
                      simp [d,Option.some.inj m2,toB]
                    rw [this]
                    simp [encB,UInt8.toNat_ofNat',Nat.mod_eq_of_lt m1]
                  have hcall := Tryz.internal_strconv_formatBase10 r o c u d w hH (by rw [hd]; exact Lib.lt_pow_nDigits u) hu (by rw [hd]; have h20 := Lib.nDigits_le20 u hu; omega)
                  rw [hd] at hcall
                  refine hcall.mono fun ee w' ⟨he,k,v',dk,hw',hF⟩ => ?_
                  have hheap' : w'.heap[r]? = some (.cells (putCells encB o dk cs) t fr) := by
                    rw [hw',World.heap_drewN]
                    simp only [putRow,mapBlock,Array.getElem?_modify,hheap,if_true,Option.map_some]
                    rfl
                  have hoth : ∀ s,s ≠ r → w'.heap[s]? = w.heap[s]? := by
                    intro s hs
                    rw [hw',World.heap_drewN]
                    simp only [putRow,mapBlock,Array.getElem?_modify]
                    rw [if_neg (Ne.symm hs)]
                  have hsize : w'.heap.size = w.heap.size := by
                    rw [hw',World.heap_drewN]; simp [putRow,mapBlock,Array.size_modify]
                  have hcellw : ∀ a : Addr,w'.cell? a = (putRow encB w r o dk).cell? a := fun a => by rw [hw',World.cell?_drewN]; rfl
                  have hfrw : ∀ a : Addr,w'.frozen? a = w.frozen? a := fun a => by rw [hw',World.frozen?_drewN,frozen?_putRow]
                  have hobj' : ObjAt (Eo O) ρ w' r κ (.cells c' m t false false) := by
                    refine ⟨m,?_,Nat.le_refl _,?_,fun _ => rfl,fun h => by simp at h,?_,?_,?_⟩
                    · simp [World.shape?,hheap',putCells,hsz]
                    · intro i v hv
                      rcases s3 i v hv with ⟨j,j1,rfl,_⟩ | ⟨_,hcv⟩
                      · exact s1 j j1
                      · exact hobj.lt i v hcv
                    · intro i v hv
                      rw [hcellw]
                      rcases s3 i v hv with ⟨j,j1,rfl,j3⟩ | ⟨hout,hcv⟩
                      · refine ⟨_,cell?_putRow encB w r o d dk hH (by rw [hF.size,hd]) j (by rw [hF.size]; exact j1),?_⟩
                        have hjl : j < (Lib.decDigits u).length := by rw [Lib.decDigits_length]; exact j1
                        rw [bytesV,List.getElem?_map,List.getElem?_eq_getElem hjl,Lib.row_is_numeral hF j hjl] at j3
                        obtain rfl := Option.some.inj j3
                        exact .int _ _
                      · obtain ⟨uu,u1,u2⟩ := hobj.get i v hcv
                        refine ⟨uu,?_,u2⟩
                        rw [cell?_putRow_other _ _ _ _ _ _ (.inr (by rw [hF.size]; exact hout))]
                        exact u1
                    · intro hr i hi
                      rw [hfrw]
                      exact hobj.free hr i hi
                    · intro hr
                      obtain ⟨c0,e0,lo,hi,q1,q2⟩ := hobj.calm hr
                      rw [hheap] at q1
                      simp only [Option.some.injEq,Obj.cells.injEq] at q1
                      obtain ⟨rfl,rfl,rfl⟩ := q1
                      exact ⟨_,_,lo,hi,hheap',q2⟩
                  obtain ⟨g1,g2⟩ := hw.set (o := .cells ct m t false false) (o' := .cells c' m t false false) (w' := w') hb hρ rfl hsize hoth hobj' (by rw [hw']; rfl) (by rw [hw']; rfl) (by rw [hw']; rfl)
                  exact ⟨ρ,_,he,.tuple' (LRel.nil ρ),g1,g2⟩
                · simp at hsh
            · simp at hok
        · simp at hok
      · simp at hok
  · simp at hok
end Go.Proofs.YtaclddcneogolaaGreatDoor

set_option linter.unusedSimpArgs false
set_option linter.unusedVariables false
namespace Go.Sim
open Go

theorem toListFrom_of {α : Type} {t : Tr α} : ∀ {l : List α} {i : Nat},(∀ k,k < l.length → t.get (i + k) = l[k]?) → t.toListFrom i l.length = some l
  | [],i,_ => rfl
  | x :: r,i,h => by
    have h0 := h 0 (by simp)
    simp only [Nat.add_zero,List.getElem?_cons_zero] at h0
    have hr : t.toListFrom (i + 1) r.length = some r := toListFrom_of fun k hk => by
      have := h (k + 1) (by simpa using hk)
      rw [List.getElem?_cons_succ] at this
      rw [← this,show i + 1 + k = i + (k + 1) by omega]
    simp only [List.length_cons,Tr.toListFrom,h0,forceN_eq,hr]

theorem storeList_some : ∀ {vs : List Value} {c : Tr Value} {n i : Nat},allScalar vs = true → i + vs.length ≤ n → n ≤ lim → ∃ c',storeList c n i vs = some c' ∧ ∀ k,c'.get k = if i ≤ k ∧ k < i + vs.length then vs[k - i]? else c.get k
  | [],c,n,i,_,_,_ => ⟨c,rfl,fun k => by rw [if_neg (by rintro ⟨a,b⟩; simp only [List.length_nil] at b; omega)]⟩
  | v :: r,c,n,i,hs,hl,hn => by
    simp only [allScalar,Bool.and_eq_true] at hs
    simp only [List.length_cons] at hl
    obtain ⟨c',h1,h2⟩ := storeList_some (vs := r) (c := c.put i (some v)) (n := n) (i := i + 1) hs.2 (by omega) hn
    refine ⟨c',?_,fun k => ?_⟩
    · have : storeList c n i (v :: r) = (bif Nat.blt i n then (c.put i (some v)).force fun c => forceN (i + 1) fun i => storeList c n i r else none) := by
        cases v <;> simp [scalarV] at hs <;> rfl
      rw [this,blt_of (by omega),cond_true,force_eq,forceN_eq,h1]
    · rw [h2,get_put]
      simp only [List.length_cons]
      by_cases e : k = i
      · subst e
        rw [if_neg (by omega),if_pos ⟨rfl,by omega⟩,if_pos (by omega),Nat.sub_self]; rfl
      · rw [if_neg (show ¬ (k = i ∧ i < lim) from fun x => e x.1)]
        by_cases q : i + 1 ≤ k ∧ k < i + 1 + r.length
        · rw [if_pos q,if_pos (by omega),show k - i = (k - (i + 1)) + 1 by omega,List.getElem?_cons_succ]
        · rw [if_neg q,if_neg (by omega)]

theorem bytesV_scalar : ∀ (l : List UInt8),allScalar (bytesV l) = true
  | [] => rfl
  | b :: r => by
    have := bytesV_scalar r
    simp only [bytesV] at this
    simp only [bytesV,List.map_cons,allScalar,scalarV,Bool.true_and]
    exact this
theorem bytesV_len (l : List UInt8) : (bytesV l).length = l.length := by simp [bytesV]
theorem bytesOf_bytesV : ∀ (l : List UInt8),bytesOfValues (bytesV l) = some l
  | [] => rfl
  | b :: r => by
    have := bytesOf_bytesV r
    simp only [bytesV] at this
    simp only [bytesV,List.map_cons,bytesOfValues,this]
    simp
theorem inByte_bytesV : ∀ (l : List UInt8),inByte (bytesV l) = true
  | [] => rfl
  | b :: r => by
    have := inByte_bytesV r
    simp only [bytesV] at this
    simp only [bytesV,List.map_cons,inByte,this,Bool.and_true]
    exact blt_of (UInt8.toNat_lt b)

theorem run_orc {E : Env} {n f : Nat} {args : Array Value} {h : SHeap} {g : List Value → SHeap → Except String (Value × SHeap)} (hO : E.O f = some g) : run E (n + 1) (.call f args .normal) h = g args.toList h := by
  show bodyR E (run E n) _ h = _
  unfold bodyR
  simp only [hO]
theorem afterS_enter {ih : K} {fx : Fx} {dst : Option Tmp} {tm : Tr Value} {ds : List Deferred} {g : FuncId} {args : Array Value} {h : SHeap} : afterS ih fx dst tm ds (.enter g args,h) = (match ih (.call g args .normal) h with
    | .error e => .error e
    | .ok (v,h') => .ok ⟨putT tm fx.nt dst v,h',ds⟩) := by
  simp only [afterS]
  cases ih (.call g args .normal) h with
  | error e => rfl
  | ok p =>
    obtain ⟨v,⟨t,n⟩⟩ := p
    simp only [forceV_eq,stOk,force_eq,forceN_eq]
def EntersS (E : Env) (f : FuncId) : Prop := ∀ args h,callF E f args h = .ok (.enter f args,h)
theorem call_fn {E : Env} {G : Nat} {tm : Tr Value} {o : Oper} {f : FuncId} {args : Array Operand} {ats : Array TypeId} {h : SHeap} (he : EntersS E f) : opCall E (evT G tm) o ⟨.value (.func f),args,ats⟩ h = (match evList (evT G tm) args.toList with
    | none => .error "call  args"
    | some l => .ok (.enter f l.toArray,h)) := by
  simp only [opCall,resolveS,evT]
  cases evList (evT G tm) args.toList with
  | none => rfl
  | some l => simp only [invokeS,Array.append_empty,Array.empty_append,he _ _]

end Go.Sim
namespace Go.Proofs.YtaclddcneogolaaGreatDoor
open Go Go.Sim
set_option maxRecDepth 100000
variable {O : Nat → Option (List Value → SHeap → Except String (Value × SHeap))} {ih : K}

theorem E300 : (Eo O).T 300 = some ⟨.array 24 5,24,Tab.t300.bytes,some (.agg (Array.replicate 24 (.int .u8 0)))⟩ := by show Tab.types.get 300 = _; kernel_rfl
theorem E5 : (Eo O).T 5 = some ⟨.int .u8,1,Tab.t5.bytes,Tab.t5.zero⟩ := by show Tab.types.get 5 = _; kernel_rfl
theorem E38 : (Eo O).T 38 = some ⟨.slice 5,1,Tab.t38.bytes,Tab.t38.zero⟩ := by show Tab.types.get 38 = _; kernel_rfl
theorem E9 : (Eo O).T 9 = some ⟨.string,1,Tab.t9.bytes,Tab.t9.zero⟩ := by show Tab.types.get 9 = _; kernel_rfl
theorem E2 : (Eo O).T 2 = some ⟨.int .i64,1,Tab.t2.bytes,Tab.t2.zero⟩ := by show Tab.types.get 2 = _; kernel_rfl
theorem E112 : (Eo O).T 112 = some ⟨.int .u64,1,Tab.t112.bytes,Tab.t112.zero⟩ := by show Tab.types.get 112 = _; kernel_rfl
theorem en190 : EntersS (Eo O) 190 := fun _ _ => by kernel_rfl
theorem en191 : EntersS (Eo O) 191 := fun _ _ => by kernel_rfl
theorem en192 : EntersS (Eo O) 192 := fun _ _ => by kernel_rfl
theorem en144 : EntersS (Eo O) 144 := fun _ _ => by kernel_rfl
theorem en93 : EntersS (Eo O) 93 := fun _ _ => by kernel_rfl
theorem en56 : EntersS (Eo O) 56 := fun _ _ => by kernel_rfl

theorem slice300 {ev : Ev} {op : Oper} {b m : Nat} {h : SHeap} (h1 : 1 ≤ m) (h2 : m ≤ 24) : opSlice (Eo O) ev op 300 (some (.pointer (some ⟨b,0,none⟩))) (some (some (.int .i64 1))) (some (some (.int .i64 (.ofNat m)))) none h = .ok (.value (.slice (some ⟨b,1,none⟩) (m - 1) 23),h) := by
  have e : openCap = 1180591620717411303424 := rfl
  have n1 : natOf (.int .i64 1) = some 1 := rfl
  simp only [opSlice,sliceS,boundOf,natOf_int,n1,E300,blt_of (show 24 < openCap by rw [e]; omega),cond_true,sliceGo,E5,Option.getD]
  rw [if_neg (by rw [e]; omega),if_neg (by simp; omega),if_neg (by omega)]
  simp [addrAdd,valR]
theorem slice300x0 {ev : Ev} {op : Oper} {b m : Nat} {h : SHeap} (h2 : m ≤ 24) : opSlice (Eo O) ev op 300 (some (.pointer (some ⟨b,0,none⟩))) none (some (some (.int .i64 (.ofNat m)))) none h = .ok (.value (.slice (some ⟨b,0,none⟩) m 24),h) := by
  have e : openCap = 1180591620717411303424 := rfl
  simp only [opSlice,sliceS,boundOf,natOf_int,E300,blt_of (show 24 < openCap by rw [e]; omega),cond_true,sliceGo,E5,Option.getD]
  rw [if_neg (by rw [e]; omega),if_neg (by simp; omega),if_neg (by omega)]
  simp [addrAdd,valR]
theorem toStr {ev : Ev} {op : Oper} {b k n cap m e : Nat} {q r : Bool} {c : Tr Value} {l : List UInt8} {h : SHeap} (hb : h.t.get b = some (.cells c m e q r)) (hl : c.toListFrom k n = some (bytesV l)) :
    opConvert (Eo O) ev op 38 9 (some (.slice (some ⟨b,k,none⟩) n cap)) h = .ok (.value (.string ⟨l.toArray⟩),h) := by
  simp only [opConvert,E38,E9,E5,hb,hl,bytesOf_bytesV,valR]
theorem toU64 {ev : Ev} {op : Oper} {n : Int} {h : SHeap} : opConvert (Eo O) ev op 2 112 (some (.int .i64 n)) h = .ok (.value (.int .u64 (wrapN .u64 n)),h) := by
  simp only [opConvert,E2,E112,valR]
theorem ia300 {a : Addr} {i : Nat} {h : SHeap} (hi : i < 24) : opIndexAddr (Eo O) ((Eo O).T 300) (some (.pointer (some a))) (some i) h = .ok (.value (.pointer (some (addrAdd a i))),h) := by
  rw [E300]
  simp only [opIndexAddr,indexTo,E5,blt_of hi,cond_true,Nat.mul_one,valR]

def itoaQ (args : List Value) (h : SHeap) : Ex (Value × SHeap) := match args with
  | [.int .i64 n] => bif tabOK (h.t.get 0) && decide (-9223372036854775808 ≤ n) && decide (n ≤ 9223372036854775807) && Nat.ble (h.next + 10) lim then
      .ok (.string ⟨(Lib.itoa n).toArray⟩,bif decide (0 ≤ n) && decide (n < 100) then h else ⟨h.t,h.next + 1⟩) else .error "itoa"
  | _ => .error "itoa"
end Go.Proofs.YtaclddcneogolaaGreatDoor

set_option linter.unusedSimpArgs false
set_option linter.unusedVariables false
namespace Go.Proofs.YtaclddcneogolaaGreatDoor
open Go Go.Sim
set_option maxRecDepth 100000
variable {O : Nat → Option (List Value → SHeap → Except String (Value × SHeap))} {ih : K}

theorem eql_i64 {E : Env} {ev : Ev} {o : Oper} {t : TypeId} {x y : Int} {h : SHeap} : opBin E ev o .eql t (some (.int .i64 x)) (some (.int .i64 y)) h = .ok (.value (.bool (x == y)),h) := bin_i64 (id rfl)
theorem leq_i64 {E : Env} {ev : Ev} {o : Oper} {t : TypeId} {x y : Int} {h : SHeap} : opBin E ev o .leq t (some (.int .i64 x)) (some (.int .i64 y)) h = .ok (.value (.bool (decide (x ≤ y))),h) := bin_i64 (id rfl)
theorem evT_str {G : Nat} {tm : Tr Value} {s : ByteArray} : evT G tm (.const (.string s)) = some (.string s) := (id rfl)
theorem neg_u64 {E : Env} {ev : Ev} {o : Oper} {n : Int} {h : SHeap} : opUn E ev o .neg (some (.int .u64 n)) h = .ok (.value (.int .u64 (wrapF .u64 (0 - n))),h) := (id rfl)
theorem nd_le {u : Nat} (hu : u < 18446744073709551616) : Lib.nDigits u ≤ 20 := Lib.nDigits_le20 u hu

/-- a small number -/
theorem fi_small {n : Nat} (hn : n < 100) {tm : Tr Value} {h : SHeap} (ho : ∀ h,ih (.call 190 #[.int .i64 (.ofNat n)] .normal) h = .ok (.string ⟨(Lib.decDigits n).toArray⟩,h)) (t0 : tm.get 0 = some (.int .i64 (.ofNat n))) (t1 : tm.get 1 = some (.int .i64 10)) :
    ∃ tm',codeS (cF Tryz.f144) (Eo O) ih ⟨144,54,.normal,none⟩ ⟨tm,h,[]⟩ = .ok (.ret,⟨tm',h,[]⟩) ∧ tm'.get 4 = some (.string ⟨(Lib.decDigits n).toArray⟩) := by
  generalize hr : codeS (cF Tryz.f144) (Eo O) ih ⟨144,54,.normal,none⟩ ⟨tm,h,[]⟩ = r
  have h1 : ((10 : Int) == 10) = true := rfl
  have h2 : decide ((0 : Int) ≤ Int.ofNat n) = true := by simp
  have h3 : decide (Int.ofNat n < 100) = true := by simp; omega
  simp only [Tryz.f144,cF,Option.getD,cA,cB,cI,codeS,cSeq_run,cCond_run,cRegion_run,cRegion_draw,cBlock_run,cSkip_run,cRet_run,cExit_run,opsS_nil,opsS_run,opS_free,thenS_normal,thenS_ret,thenS_exit,exitBlock_normal,exitBlock_ret,exitBlock_exit,normalS_ok,dispatch,dMove,opMove,evT_tmp,evT_int,evT_bool,dBin,lss_i64,gtr_i64,add_i64,valR,afterS_value,putT_some,putT_none,get_put,lim,Nat.reduceLT,Nat.reduceEqDiff,and_true,if_true,if_false,reduceIte,false_and,true_and,cLoop_run,Nat.beq,cond_true,
      dIndexAddr,dFieldAddr,dNilCheck,dLoad,nilCheck_ptr,Option.bind_some,natOf_int,addrAdd_free,drawS_nil',drawS_cons',dstep_pure',dstep_read',simOp_run,outVal_val,List.getElem?_toArray,List.getElem?_cons_succ,List.getElem?_cons_zero,List.drop_succ_cons,List.drop_zero,dPick,pick_true,pick_false,opS_guard,wantedS,Option.bind_some,dIndex,dBuild,dBuildSlice,dCall,evParts,evList,dSlice,eql_i64,leq_i64,evT_str,afterS_enter,call_fn en190,bqa,bqb,bqc,bqd,t0,t1,h1,h2,h3,ho] at hr
  subst hr
  exact ⟨_,rfl,by simp [get_put,lim]⟩

/-- a number that is not small,by its digits -/
theorem fi_big {n : Int} {u : Nat} (hu : u < 18446744073709551616) (hbig : ¬ (0 ≤ n ∧ n < 100)) (hun : n = .ofNat u ∨ (n = -(u : Int) ∧ 0 < u ∧ u ≤ 9223372036854775808)) (hup : n ≤ 9223372036854775807) {tm : Tr Value} {h : SHeap} (hl : h.next + 10 ≤ lim)
    (ho1 : ∀ h',h'.t.get 0 = h.t.get 0 → ih (.call 191 #[.int .u64 (.ofNat u)] .normal) h' = .ok (.int .i64 (.ofNat (Lib.nDigits u)),h'))
    (ho2 : ∀ h' b c e,h'.t.get b = some (.cells c 24 e false false) → c.toListFrom 1 (Lib.nDigits u) = some (List.replicate (Lib.nDigits u) (.int .u8 0)) → ∀ c',storeList c 24 1 (bytesV (Lib.decDigits u)) = some c' →
      ih (.call 192 #[.slice (some ⟨b,1,none⟩) (Lib.nDigits u) 23,.int .u64 (.ofNat u)] .normal) h' = .ok (.tuple #[],h'.set b (some (.cells c' 24 e false false))))
    (h0 : h.t.get h.next = none ∨ True) (hz : h.next ≠ 0) (t0 : tm.get 0 = some (.int .i64 n)) (t1 : tm.get 1 = some (.int .i64 10)) :
    ∃ tm' h',codeS (cF Tryz.f144) (Eo O) ih ⟨144,54,.normal,none⟩ ⟨tm,h,[]⟩ = .ok (.ret,⟨tm',h',[]⟩) ∧ tm'.get 4 = some (.string ⟨(Lib.itoa n).toArray⟩) ∧ h'.next = h.next + 1 ∧ ∀ b,b ≠ h.next → h'.t.get b = h.t.get b := by
  have hnd := nd_le hu
  have h1 : ((10 : Int) == 10) = true := rfl
  have hb17 : ∀ (a b : Bool),a = decide ((0 : Int) ≤ n) → b = decide (n < 100) → (a && b) = false := by
    intro a b ha hb; subst ha hb; simp; omega
  obtain ⟨c1,hc1,hc2⟩ := storeList_some (vs := bytesV (Lib.decDigits u)) (c := Tr.ofL 33 (List.replicate 24 (.int .u8 0))) (n := 24) (i := 1) (bytesV_scalar _) (by rw [bytesV_len,Lib.decDigits_length]; omega) (by decide)
  have hzero : (Tr.ofL 33 (List.replicate 24 (Value.int .u8 0))).toListFrom 1 (Lib.nDigits u) = some (List.replicate (Lib.nDigits u) (.int .u8 0)) := by
    have := toListFrom_of (t := Tr.ofL 33 (List.replicate 24 (Value.int .u8 0))) (l := List.replicate (Lib.nDigits u) (Value.int .u8 0)) (i := 1) (fun k hk => by
      simp only [List.length_replicate] at hk
      rw [ofL_get_eq (by unfold lim; omega),List.getElem?_replicate,List.getElem?_replicate,if_pos (by omega),if_pos hk])
    simpa using this
  have hdig : c1.toListFrom 1 (Lib.nDigits u) = some (bytesV (Lib.decDigits u)) := by
    have := toListFrom_of (t := c1) (l := bytesV (Lib.decDigits u)) (i := 1) (fun k hk => by rw [hc2,if_pos ⟨by omega,by omega⟩,Nat.add_sub_cancel_left])
    rw [bytesV_len,Lib.decDigits_length] at this
    exact this
  have hal : ∀ h,opAlloc ((Eo O).T 300) 300 h = .ok (.value (.pointer (some ⟨h.next,0,none⟩)),newCells h 300 (List.replicate 24 (.int .u8 0)) false) := by
    intro h
    rw [E300]
    simp only [opAlloc,opNew,Value.cells,Array.toList_replicate]
  have hlt : h.next < lim := by omega
  have hg1 : (newCells h 300 (List.replicate 24 (Value.int .u8 0)) false).t.get h.next = some (.cells (Tr.ofL 33 (List.replicate 24 (.int .u8 0))) 24 300 false false) := by
    simp only [newCells,SHeap.new,get_put]
    rw [if_pos ⟨trivial,hlt⟩]
    rfl
  have hg0 : (newCells h 300 (List.replicate 24 (Value.int .u8 0)) false).t.get 0 = h.t.get 0 := by
    simp only [newCells,SHeap.new,get_put]
    rw [if_neg (by omega)]
  have hn1 : (newCells h 300 (List.replicate 24 (Value.int .u8 0)) false).next = h.next + 1 := rfl
  have c191 := ho1 _ hg0
  have c192 := ho2 _ _ _ _ hg1 hzero c1 hc1
  have hadd : wrapF .i64 (1 + Int.ofNat (Lib.nDigits u)) = .ofNat (1 + Lib.nDigits u) := Go.Sim.wrap_small (m := 1 + Lib.nDigits u) (by omega)
  have hsl := fun (ev : Ev) (op : Oper) (g : SHeap) => slice300 (O := O) (ev := ev) (op := op) (b := h.next) (m := 1 + Lib.nDigits u) (h := g) (by omega) (by omega)
  generalize hr : codeS (cF Tryz.f144) (Eo O) ih ⟨144,54,.normal,none⟩ ⟨tm,h,[]⟩ = r
  have hset : ∀ x,((newCells h 300 (List.replicate 24 (Value.int .u8 0)) false).set h.next (some x)).t.get h.next = some x := by
    intro x
    simp only [SHeap.set,get_put]
    rw [if_pos ⟨trivial,hlt⟩]
  have hfin : ∀ x b,b ≠ h.next → ((newCells h 300 (List.replicate 24 (Value.int .u8 0)) false).set h.next (some x)).t.get b = h.t.get b := by
    intro x b hb
    simp only [SHeap.set,newCells,SHeap.new,get_put]
    rw [if_neg (fun e => hb e.1),if_neg (fun e => hb e.1)]
  have hsub : 1 + Lib.nDigits u - 1 = Lib.nDigits u := by omega
  rcases hun with rfl | ⟨rfl,hu0,hu1⟩
  · have q1 : decide ((0 : Int) ≤ Int.ofNat u) = true := by simp
    have hu100 : 100 ≤ u := by
      rcases Nat.lt_or_ge u 100 with h | h
      · exact absurd ⟨Int.natCast_nonneg u,by show (u : Int) < 100; omega⟩ hbig
      · exact h
    have q2 : decide (Int.ofNat u < 100) = false := by simp; omega
    have q3 : decide (Int.ofNat u < 0) = false := by simp
    have q4 : wrapN .u64 (Int.ofNat u) = .ofNat u := by simp only [wrapN]; rw [Nat.mod_eq_of_lt hu]
    have ts := fun (ev : Ev) (op : Oper) => toStr (O := O) (ev := ev) (op := op) (cap := 23) (hset (.cells c1 24 300 false false)) hdig
    simp only [Tryz.f144,cF,Option.getD,cA,cB,cI,codeS,cSeq_run,cCond_run,cRegion_run,cRegion_draw,cBlock_run,cSkip_run,cRet_run,cExit_run,opsS_nil,opsS_run,opS_free,thenS_normal,thenS_ret,thenS_exit,exitBlock_normal,exitBlock_ret,exitBlock_exit,normalS_ok,dispatch,dMove,opMove,evT_tmp,evT_int,evT_bool,dBin,lss_i64,gtr_i64,add_i64,valR,afterS_value,putT_some,putT_none,get_put,lim,Nat.reduceLT,Nat.reduceEqDiff,and_true,if_true,if_false,reduceIte,false_and,true_and,cLoop_run,Nat.beq,cond_true,
      dIndexAddr,dFieldAddr,dNilCheck,dLoad,nilCheck_ptr,Option.bind_some,natOf_int,addrAdd_free,drawS_nil',drawS_cons',dstep_pure',dstep_read',simOp_run,outVal_val,List.getElem?_toArray,List.getElem?_cons_succ,List.getElem?_cons_zero,List.drop_succ_cons,List.drop_zero,dPick,pick_true,pick_false,opS_guard,wantedS,Option.bind_some,dIndex,dBuild,dBuildSlice,dCall,evParts,evList,dSlice,bqa,bqb,bqc,bqd,eql_i64,leq_i64,evT_str,afterS_enter,call_fn en191,call_fn en192,t0,t1,h1,q1,q2,q3,q4,dAlloc,hal,dConvert,dStore,toU64,Option.map_some,Option.map_none,c191,c192,hn1,hadd,hsl,hsub,ts] at hr
    subst hr
    refine ⟨_,_,rfl,?_,?_,fun b hb => hfin _ b hb⟩
    · rw [show Lib.itoa (Int.ofNat u) = Lib.decDigits u from Lib.itoa_nonneg u]
      simp [get_put,lim]
    · simp only [SHeap.set]; exact hn1
  · have q1 : decide ((0 : Int) ≤ -(u : Int)) = false := by simp; omega
    have q3 : decide (-(u : Int) < 0) = true := by simp; omega
    have q4 : wrapN .u64 (-(u : Int)) = .ofNat (18446744073709551616 - u) := by
      obtain ⟨k,rfl⟩ : ∃ k,u = k + 1 := ⟨u - 1,by omega⟩
      show IntKind.wrap .u64 _ = _
      rw [IntKind.wrap_u64]
      show _ = ((18446744073709551616 - (k + 1) : Nat) : Int)
      omega
    have q5 : wrapF .u64 (0 - Int.ofNat (18446744073709551616 - u)) = .ofNat u := by
      have : (0 - Int.ofNat (18446744073709551616 - u) : Int) = -((18446744073709551616 - u : Nat) : Int) := by show (0 : Int) - ((18446744073709551616 - u : Nat) : Int) = _; omega
      rw [this]
      obtain ⟨k,hk⟩ : ∃ k,18446744073709551616 - u = k + 1 := ⟨18446744073709551616 - u - 1,by omega⟩
      rw [hk]
      show IntKind.wrap .u64 _ = _
      rw [IntKind.wrap_u64]
      show _ = (u : Int)
      omega
    have hneg : (c1.put (0 + 0) (some (.int .u8 45))).toListFrom 0 (1 + Lib.nDigits u) = some (bytesV (45 :: Lib.decDigits u)) := by
      have := toListFrom_of (t := c1.put (0 + 0) (some (Value.int .u8 45))) (l := bytesV (45 :: Lib.decDigits u)) (i := 0) (fun k hk => by
        rw [get_put]
        cases k with
        | zero => rw [if_pos ⟨rfl,by decide⟩]; rfl
        | succ k =>
          simp only [bytesV_len,List.length_cons] at hk
          rw [if_neg (by omega),hc2,if_pos ⟨by omega,by rw [bytesV_len]; omega⟩,show 0 + (k + 1) - 1 = k by omega]
          rfl)
      rw [bytesV_len,List.length_cons,Lib.decDigits_length] at this
      rw [show 1 + Lib.nDigits u = Lib.nDigits u + 1 from Nat.add_comm _ _]
      exact this
    have hst5 := fun (x : Int) => store_int (E := Eo O) (kd := .u8) (x := x) E5 rfl (hset (.cells c1 24 300 false false)) (show 0 + 0 < 24 by decide)
    have hset2 : ∀ x y,(((newCells h 300 (List.replicate 24 (Value.int .u8 0)) false).set h.next (some x)).set h.next (some y)).t.get h.next = some y := by
      intro x y
      simp only [SHeap.set,get_put]
      rw [if_pos ⟨trivial,hlt⟩]
    have ts := fun (ev : Ev) (op : Oper) => toStr (O := O) (ev := ev) (op := op) (cap := 24) (hset2 (.cells c1 24 300 false false) (.cells (c1.put (0 + 0) (some (.int .u8 45))) 24 300 false false)) hneg
    have hsl0 := fun (ev : Ev) (op : Oper) (g : SHeap) => slice300x0 (O := O) (ev := ev) (op := op) (b := h.next) (m := 1 + Lib.nDigits u) (h := g) (by omega)
    have hia := fun (g : SHeap) => ia300 (O := O) (a := ⟨h.next,0,none⟩) (i := 0) (h := g) (by omega)
    have n0 : natOf (.int .i64 0) = some 0 := rfl
    simp only [Tryz.f144,cF,Option.getD,cA,cB,cI,codeS,cSeq_run,cCond_run,cRegion_run,cRegion_draw,cBlock_run,cSkip_run,cRet_run,cExit_run,opsS_nil,opsS_run,opS_free,thenS_normal,thenS_ret,thenS_exit,exitBlock_normal,exitBlock_ret,exitBlock_exit,normalS_ok,dispatch,dMove,opMove,evT_tmp,evT_int,evT_bool,dBin,lss_i64,gtr_i64,add_i64,valR,afterS_value,putT_some,putT_none,get_put,lim,Nat.reduceLT,Nat.reduceEqDiff,and_true,if_true,if_false,reduceIte,false_and,true_and,cLoop_run,Nat.beq,cond_true,
      dIndexAddr,dFieldAddr,dNilCheck,dLoad,nilCheck_ptr,Option.bind_some,natOf_int,addrAdd_free,drawS_nil',drawS_cons',dstep_pure',dstep_read',simOp_run,outVal_val,List.getElem?_toArray,List.getElem?_cons_succ,List.getElem?_cons_zero,List.drop_succ_cons,List.drop_zero,dPick,pick_true,pick_false,opS_guard,wantedS,Option.bind_some,dIndex,dBuild,dBuildSlice,dCall,evParts,evList,dSlice,bqa,bqb,bqc,bqd,eql_i64,leq_i64,evT_str,afterS_enter,call_fn en191,call_fn en192,t0,t1,h1,q1,q3,q4,q5,dAlloc,hal,dConvert,dStore,toU64,Option.map_some,Option.map_none,dUn,neg_u64,c191,c192,hn1,hadd,hsl,hsub,n0,hia,hst5,hsl0,ts] at hr
    subst hr
    refine ⟨_,_,rfl,?_,?_,fun b hb => ?_⟩
    · rw [show Lib.itoa (-(u : Int)) = 45 :: Lib.decDigits u from Lib.itoa_neg u hu0]
      simp [get_put,lim]
    · simp only [SHeap.set]; exact hn1
    · simp only [SHeap.set,newCells,SHeap.new,get_put]
      rw [if_neg (fun e => hb e.1),if_neg (fun e => hb e.1),if_neg (fun e => hb e.1)]

theorem body144 : Tryz.f144.body = some (cF Tryz.f144) := rfl
theorem fn144 : (Eo O).F 144 = some Tryz.f144 := by show Tab.funcs.get 144 = _; kernel_rfl
theorem nt144 {a b : Value} : max Tryz.f144.ntmps (#[a,b] : Array Value).size = 54 := rfl
theorem res144 : Tryz.f144.results.toList = [.tmp 4] := rfl
theorem body93 : Tryz.f93.body = some (cF Tryz.f93) := rfl
theorem fn93 : (Eo O).F 93 = some Tryz.f93 := by show Tab.funcs.get 93 = _; kernel_rfl
theorem nt93 {a : Value} : max Tryz.f93.ntmps (#[a] : Array Value).size = 5 := rfl
theorem res93 : Tryz.f93.results.toList = [.tmp 2] := rfl
theorem body56 : Tryz.f56.body = some (cF Tryz.f56) := rfl
theorem fn56 : (Eo O).F 56 = some Tryz.f56 := by show Tab.funcs.get 56 = _; kernel_rfl
theorem nt56 {a : Value} : max Tryz.f56.ntmps (#[a] : Array Value).size = 5 := rfl
theorem res56 : Tryz.f56.results.toList = [.tmp 2] := rfl

theorem wrap93 {n : Int} {tm : Tr Value} {h h' : SHeap} {v : Value} (hc : ih (.call 144 #[.int .i64 n,.int .i64 10] .normal) h = .ok (v,h')) (t0 : tm.get 0 = some (.int .i64 n)) :
    ∃ tm',codeS (cF Tryz.f93) (Eo O) ih ⟨93,5,.normal,none⟩ ⟨tm,h,[]⟩ = .ok (.ret,⟨tm',h',[]⟩) ∧ tm'.get 2 = some v := by
  generalize hr : codeS (cF Tryz.f93) (Eo O) ih ⟨93,5,.normal,none⟩ ⟨tm,h,[]⟩ = r
  simp only [Tryz.f93,cF,Option.getD,cA,cB,cI,codeS,cSeq_run,cCond_run,cRegion_run,cRegion_draw,cBlock_run,cSkip_run,cRet_run,cExit_run,opsS_nil,opsS_run,opS_free,thenS_normal,thenS_ret,thenS_exit,exitBlock_normal,exitBlock_ret,exitBlock_exit,normalS_ok,dispatch,dMove,opMove,evT_tmp,evT_int,evT_bool,dBin,lss_i64,gtr_i64,add_i64,valR,afterS_value,putT_some,putT_none,get_put,lim,Nat.reduceLT,Nat.reduceEqDiff,and_true,if_true,if_false,reduceIte,false_and,true_and,cLoop_run,Nat.beq,cond_true,
      dIndexAddr,dFieldAddr,dNilCheck,dLoad,nilCheck_ptr,Option.bind_some,natOf_int,addrAdd_free,drawS_nil',drawS_cons',dstep_pure',dstep_read',simOp_run,outVal_val,List.getElem?_toArray,List.getElem?_cons_succ,List.getElem?_cons_zero,List.drop_succ_cons,List.drop_zero,dPick,pick_true,pick_false,opS_guard,wantedS,Option.bind_some,dIndex,dBuild,dBuildSlice,dCall,evParts,evList,dSlice,evT_str,afterS_enter,call_fn en144,t0,hc] at hr
  subst hr
  exact ⟨_,rfl,by simp [get_put,lim]⟩
theorem wrap56 {n : Int} {tm : Tr Value} {h h' : SHeap} {v : Value} (hc : ih (.call 93 #[.int .i64 n] .normal) h = .ok (v,h')) (t0 : tm.get 0 = some (.int .i64 n)) :
    ∃ tm',codeS (cF Tryz.f56) (Eo O) ih ⟨56,5,.normal,none⟩ ⟨tm,h,[]⟩ = .ok (.ret,⟨tm',h',[]⟩) ∧ tm'.get 2 = some v := by
  generalize hr : codeS (cF Tryz.f56) (Eo O) ih ⟨56,5,.normal,none⟩ ⟨tm,h,[]⟩ = r
  simp only [Tryz.f56,cF,Option.getD,cA,cB,cI,codeS,cSeq_run,cCond_run,cRegion_run,cRegion_draw,cBlock_run,cSkip_run,cRet_run,cExit_run,opsS_nil,opsS_run,opS_free,thenS_normal,thenS_ret,thenS_exit,exitBlock_normal,exitBlock_ret,exitBlock_exit,normalS_ok,dispatch,dMove,opMove,evT_tmp,evT_int,evT_bool,dBin,lss_i64,gtr_i64,add_i64,valR,afterS_value,putT_some,putT_none,get_put,lim,Nat.reduceLT,Nat.reduceEqDiff,and_true,if_true,if_false,reduceIte,false_and,true_and,cLoop_run,Nat.beq,cond_true,
      dIndexAddr,dFieldAddr,dNilCheck,dLoad,nilCheck_ptr,Option.bind_some,natOf_int,addrAdd_free,drawS_nil',drawS_cons',dstep_pure',dstep_read',simOp_run,outVal_val,List.getElem?_toArray,List.getElem?_cons_succ,List.getElem?_cons_zero,List.drop_succ_cons,List.drop_zero,dPick,pick_true,pick_false,opS_guard,wantedS,Option.bind_some,dIndex,dBuild,dBuildSlice,dCall,evParts,evList,dSlice,evT_str,afterS_enter,call_fn en93,t0,hc] at hr
  subst hr
  exact ⟨_,rfl,by simp [get_put,lim]⟩

/-- STRCONV.ITOA: what the simulator leaves -/
theorem itoa_run {k : Nat} (o190 : O 190 = some smallQ) (o191 : O 191 = some numDigitsQ) (o192 : O 192 = some fmtQ) (o144 : O 144 = none) (o93 : O 93 = none) (o56 : O 56 = none) {n : Int} {h : SHeap} (ht : tabOK (h.t.get 0) = true) (hlo : -9223372036854775808 ≤ n) (hhi : n ≤ 9223372036854775807) (hl : h.next + 10 ≤ lim) (hz : h.next ≠ 0) :
    ∃ h',run (Eo O) (k + 4) (.call 56 #[.int .i64 n] .normal) h = .ok (.string ⟨(Lib.itoa n).toArray⟩,h') ∧ h'.next = (bif decide (0 ≤ n) && decide (n < 100) then h.next else h.next + 1) ∧ ∀ b,b < h.next → h'.t.get b = h.t.get b := by
  have key : ∃ h',run (Eo O) (k + 2) (.call 144 #[.int .i64 n,.int .i64 10] .normal) h = .ok (.string ⟨(Lib.itoa n).toArray⟩,h') ∧ h'.next = (bif decide (0 ≤ n) && decide (n < 100) then h.next else h.next + 1) ∧ ∀ b,b < h.next → h'.t.get b = h.t.get b := by
    by_cases hs : 0 ≤ n ∧ n < 100
    · obtain ⟨m,rfl⟩ : ∃ m : Nat,n = .ofNat m := ⟨n.toNat,by show n = (n.toNat : Int); omega⟩
      have hm : m < 100 := by have := hs.2; show m < 100; have h2 : (m : Int) < 100 := this; omega
      have ho : ∀ h,run (Eo O) (k + 1) (.call 190 #[.int .i64 (.ofNat m)] .normal) h = .ok (.string ⟨(Lib.decDigits m).toArray⟩,h) := by
        intro h
        rw [run_orc (E := Eo O) (show (Eo O).O 190 = some smallQ from o190)]
        simp only [smallQ,blt_of hm,cond_true]
      obtain ⟨tm',k1,k2⟩ := fi_small (O := O) (ih := run (Eo O) (k + 1)) hm (h := h) ho (tm := Tr.ofL 33 [.int .i64 (.ofNat m),.int .i64 10]) rfl rfl
      refine ⟨h,?_,?_,fun _ _ => rfl⟩
      · rw [show Lib.itoa (Int.ofNat m) = Lib.decDigits m from Lib.itoa_nonneg m]
        exact (run_call (show (Eo O).O 144 = none from o144)).trans (enterS_ret (vs := [_]) fn144 body144 nt144 rfl res144 k1 (by simp only [resultsS,k2,need]))
      · rw [decide_eq_true hs.1,decide_eq_true hs.2]; rfl
    · have hu : ∃ u : Nat,u < 18446744073709551616 ∧ (n = .ofNat u ∨ (n = -(u : Int) ∧ 0 < u ∧ u ≤ 9223372036854775808)) ∧ 1 ≤ u := by
        by_cases hneg : n < 0
        · exact ⟨n.natAbs,by omega,.inr ⟨by omega,by omega,by omega⟩,by omega⟩
        · refine ⟨n.toNat,by omega,.inl (by show n = (n.toNat : Int); omega),by omega⟩
      obtain ⟨u,hu1,hu2,hu3⟩ := hu
      have ho1 : ∀ h',h'.t.get 0 = h.t.get 0 → run (Eo O) (k + 1) (.call 191 #[.int .u64 (.ofNat u)] .normal) h' = .ok (.int .i64 (.ofNat (Lib.nDigits u)),h') := by
        intro h' e
        rw [run_orc (E := Eo O) (show (Eo O).O 191 = some numDigitsQ from o191)]
        have : Nat.ble 1 u = true := by rw [Nat.ble_eq]; exact hu3
        simp only [numDigitsQ,e,ht,this,blt_of hu1,Bool.and_true,cond_true]
      have ho2 : ∀ h' b c e,h'.t.get b = some (.cells c 24 e false false) → c.toListFrom 1 (Lib.nDigits u) = some (List.replicate (Lib.nDigits u) (.int .u8 0)) → ∀ c',storeList c 24 1 (bytesV (Lib.decDigits u)) = some c' →
          run (Eo O) (k + 1) (.call 192 #[.slice (some ⟨b,1,none⟩) (Lib.nDigits u) 23,.int .u64 (.ofNat u)] .normal) h' = .ok (.tuple #[],h'.set b (some (.cells c' 24 e false false))) := by
        intro h' b c e hb hl c' hst
        rw [run_orc (E := Eo O) (show (Eo O).O 192 = some fmtQ from o192)]
        have hin : inByte (List.replicate (Lib.nDigits u) (Value.int .u8 0)) = true := by
          have : ∀ m,inByte (List.replicate m (Value.int .u8 0)) = true := by
            intro m
            induction m with
            | zero => rfl
            | succ m ihm => rw [List.replicate_succ]; exact ihm
          exact this _
        have hbq : Nat.beq (Lib.nDigits u) (Lib.nDigits u) = true := Nat.beq_refl _
        simp only [fmtQ,hbq,blt_of hu1,blt_of (show 23 < openCap by decide),Bool.and_true,cond_true,fmtB,hb,hl,hin,fmtC,hst]
      obtain ⟨tm',h',k1,k2,k3,k4⟩ := fi_big (O := O) (ih := run (Eo O) (k + 1)) hu1 hs hu2 hhi (h := h) hl ho1 ho2 (.inr trivial) hz (tm := Tr.ofL 33 [.int .i64 n,.int .i64 10]) rfl rfl
      refine ⟨h',(run_call (show (Eo O).O 144 = none from o144)).trans (enterS_ret (vs := [_]) fn144 body144 nt144 rfl res144 k1 (by simp only [resultsS,k2,need])),?_,fun b hb => k4 b (by omega)⟩
      rw [k3]
      have : (decide (0 ≤ n) && decide (n < 100)) = false := by simp; omega
      rw [this]; rfl
  obtain ⟨h',e1,e2,e3⟩ := key
  obtain ⟨tm1,k1,k2⟩ := wrap93 (O := O) e1 (tm := Tr.ofL 33 [.int .i64 n]) rfl
  have e4 : run (Eo O) (k + 3) (.call 93 #[.int .i64 n] .normal) h = .ok (.string ⟨(Lib.itoa n).toArray⟩,h') :=
    (run_call (show (Eo O).O 93 = none from o93)).trans (enterS_ret (vs := [_]) fn93 body93 nt93 rfl res93 k1 (by simp only [resultsS,k2,need]))
  obtain ⟨tm2,k3,k4⟩ := wrap56 (O := O) e4 (tm := Tr.ofL 33 [.int .i64 n]) rfl
  exact ⟨h',(run_call (show (Eo O).O 56 = none from o56)).trans (enterS_ret (vs := [_]) fn56 body56 nt56 rfl res56 k3 (by simp only [resultsS,k4,need])),e2,e3⟩

/-- STRCONV.ITOA,as an oracle -/
theorem itoa_ok (hOK : ∀ f g,(Eo O).O f = some g → OrcOK (Eo O) f g) (o190 : O 190 = some smallQ) (o191 : O 191 = some numDigitsQ) (o192 : O 192 = some fmtQ) (o144 : O 144 = none) (o93 : O 93 = none) (o56 : O 56 = none) : OrcOK (Eo O) 56 itoaQ := by
  refine orc_of_run (run_ok (envOK O) (bDraw_ok (envOK O) (show Tryz.prog.follows .mixedOrders = true from mixed)) hOK 4) fun args h v h' hlow hok => ?_
  unfold itoaQ at hok
  split at hok
  · rename_i n hargs
    cases hc : (tabOK (h.t.get 0) && decide (-9223372036854775808 ≤ n) && decide (n ≤ 9223372036854775807) && Nat.ble (h.next + 10) lim) with
    | false => rw [hc] at hok; simp at hok
    | true =>
      rw [hc,cond_true] at hok
      simp only [Except.ok.injEq,Prod.mk.injEq] at hok
      obtain ⟨rfl,rfl⟩ := hok
      simp only [Bool.and_eq_true,decide_eq_true_eq] at hc
      obtain ⟨⟨⟨c1,c2⟩,c3⟩,c4⟩ := hc
      have harr : args = #[.int .i64 n] := Array.toList_inj.1 hargs
      subst harr
      have hz : h.next ≠ 0 := by
        have : ∃ o,h.t.get 0 = some o := by
          cases hx : h.t.get 0 with
          | none => rw [hx] at c1; simp [tabOK] at c1
          | some o => exact ⟨o,rfl⟩
        obtain ⟨o,ho⟩ := this
        have := hlow 0 o ho
        omega
      obtain ⟨h'',e1,e2,e3⟩ := itoa_run (k := 0) o190 o191 o192 o144 o93 o56 c1 c2 c3 (Nat.le_of_ble_eq_true c4) hz
      refine ⟨h'',e1,?_,fun b o hb => ?_⟩
      · rw [e2]; cases (decide (0 ≤ n) && decide (n < 100)) <;> rfl
      · have hb : h.t.get b = some o := by
          cases hq : (decide (0 ≤ n) && decide (n < 100)) with
          | true => rw [hq] at hb; exact hb
          | false => rw [hq] at hb; exact hb
        exact ⟨o,by rw [e3 b (hlow b o hb)]; exact hb,ObjLe.refl o⟩
  · simp at hok
end Go.Proofs.YtaclddcneogolaaGreatDoor

set_option linter.unusedSimpArgs false
set_option linter.unusedVariables false
namespace Go.Proofs.YtaclddcneogolaaGreatDoor
open Go Go.Sim
set_option maxRecDepth 100000
variable {O : Nat → Option (List Value → SHeap → Except String (Value × SHeap))} {ih : K}

inductive Part where
  | num (n : Int)
  | str (s : ByteArray)
def Part.val : Part → Value
  | .num n => .iface 3 (.int .i64 n)
  | .str s => .iface 9 (.string s)
def Part.txt : Part → ByteArray
  | .num n => ⟨(Lib.itoa n).toArray⟩
  | .str s => s
def smallI (n : Int) : Bool := decide (0 ≤ n) && decide (n < 100)
def Part.nm : Part → Nat
  | .num n => bif smallI n then 2 else 3
  | .str _ => 2
def Part.fits : Part → Prop
  | .num n => -9223372036854775808 ≤ n ∧ n ≤ 9223372036854775807
  | .str _ => True
def nms : List Part → Nat
  | [] => 0
  | p :: r => p.nm + nms r
theorem nms_snoc : ∀ (l : List Part) (p : Part),nms (l ++ [p]) = nms l + p.nm
  | [],p => by simp [nms]
  | q :: r,p => by simp only [List.cons_append,nms,nms_snoc r p]; omega
theorem nm_le (p : Part) : p.nm ≤ 3 := by
  cases p with
  | num n => simp only [Part.nm]; cases smallI n <;> simp
  | str s => simp [Part.nm]
theorem nms_le : ∀ (l : List Part),nms l ≤ 3 * l.length
  | [] => by simp [nms]
  | p :: r => by have := nms_le r; have := nm_le p; simp only [nms,List.length_cons]; omega

theorem E62 : (Eo O).T 62 = some ⟨.slice 9,1,Tab.t62.bytes,Tab.t62.zero⟩ := by show Tab.types.get 62 = _; kernel_rfl
theorem E9z : (Eo O).T 9 = some ⟨.string,1,16,some (.string ⟨#[]⟩)⟩ := by show Tab.types.get 9 = _; kernel_rfl
theorem E20 : (Eo O).T 20 = some ⟨Tab.t20.desc,1,Tab.t20.bytes,Tab.t20.zero⟩ := by show Tab.types.get 20 = _; kernel_rfl
theorem agg20 : TI.agg ⟨Tab.t20.desc,1,Tab.t20.bytes,Tab.t20.zero⟩ = false := by kernel_rfl
theorem E147 : (Eo O).T 147 = some ⟨.slice 20,1,Tab.t147.bytes,Tab.t147.zero⟩ := by show Tab.types.get 147 = _; kernel_rfl
theorem buildSlice62 {x : ByteArray} {h : SHeap} : opBuildSlice (Eo O) ((Eo O).T 62) 1 (some [(0,.string x)]) h = .ok (.value (.slice (some ⟨h.next,0,none⟩) 1 1),newCells h 9 [.string x] false) := by kernel_rfl
theorem plain62 : plainArg (Eo O) [62] = true := by kernel_rfl
theorem list1 {x : Value} : (Tr.ofL 33 [x]).toListFrom 0 1 = some [x] := by kernel_rfl
theorem ta3xint {ev : Ev} {o : Oper} {v : Value} {h : SHeap} : opTypeAssert (Eo O) ev o ((Eo O).T 3) (some (.iface 3 v)) 3 true h = .ok (.value (.tuple #[v,.bool true]),h) := by kernel_rfl
theorem ta3xstr {ev : Ev} {o : Oper} {v : Value} {h : SHeap} : opTypeAssert (Eo O) ev o ((Eo O).T 3) (some (.iface 9 v)) 3 true h = .ok (.value (.tuple #[.int .i64 0,.bool false]),h) := by kernel_rfl
theorem ta9xstr {ev : Ev} {o : Oper} {v : Value} {h : SHeap} : opTypeAssert (Eo O) ev o ((Eo O).T 9) (some (.iface 9 v)) 9 true h = .ok (.value (.tuple #[v,.bool true]),h) := by kernel_rfl
theorem ex0 {a b : Value} {h : SHeap} : opExtract (some (.tuple #[a,b])) 0 h = .ok (.value a,h) := (id rfl)
theorem ex1 {a b : Value} {h : SHeap} : opExtract (some (.tuple #[a,b])) 1 h = .ok (.value b,h) := (id rfl)
theorem ia147 {a : Addr} {n c i : Nat} {h : SHeap} (hi : i < n) : opIndexAddr (Eo O) ((Eo O).T 147) (some (.slice (some a) n c)) (some i) h = .ok (.value (.pointer (some (addrAdd a i))),h) := by
  rw [E147]
  simp only [opIndexAddr,indexTo,E20,blt_of hi,cond_true,Nat.mul_one,valR]
theorem len147 {ev : Ev} {op : Oper} {a : Option Addr} {n c : Nat} {h : SHeap} : opLen (Eo O) ev op ((Eo O).T 147) (.slice a n c) h = .ok (.value (.int .i64 (.ofNat n)),h) := by
  rw [E147]; rfl

theorem app1xnil {c : Call} (hc : c.argTypes.toList = [62,62]) {b : Nat} {x : Value} {h : SHeap} (hb : h.t.get b = some (.cells (Tr.ofL 33 [x]) 1 9 false false)) :
    appendS (Eo O) c [.slice none 0 0,.slice (some ⟨b,0,none⟩) 1 1] h = .ok (.slice (some ⟨h.next,0,none⟩) 1 openCap,newCells h 9 [x] true) := by
  unfold appendS
  simp only [hc,plain62,cond_true,E62,E9z,lenV,firstC,hb,Nat.one_mul,list1,need]
  rfl
theorem app1xopen {c : Call} (hc : c.argTypes.toList = [62,62]) {b r n : Nat} {x : ByteArray} {h : SHeap} {ct : Tr Value} (hb : h.t.get b = some (.cells (Tr.ofL 33 [.string x]) 1 9 false false))
    (hr : h.t.get r = some (.cells ct n 9 true false)) (hn : n ≤ 10000000) :
    appendS (Eo O) c [.slice (some ⟨r,0,none⟩) n openCap,.slice (some ⟨b,0,none⟩) 1 1] h =
      .ok (.slice (some ⟨h.next,0,none⟩) (n + 1) openCap,(h.set r none).new (.cells (ct.put n (some (.string x))) (n + 1) 9 true false)) := by
  unfold appendS
  simp only [hc,plain62,cond_true,E62,E9z,lenV,firstC,hb,Nat.one_mul,list1,need]
  unfold appendTo
  have h1 : Nat.ble ((n + 1) * (16 + 1)) 70368744177664 = true := by rw [Nat.ble_eq]; omega
  rw [h1,show (Nat.beq [Value.string x].length 1 && true) = true from rfl,cond_true,show Nat.beq openCap openCap = true from rfl,cond_true]
  unfold appendOpen
  simp only [hr,Nat.mul_one]
  have h2 : Nat.beq n n = true := Nat.beq_refl _
  rw [h2,show (Nat.beq 0 0 && Nat.beq 9 9 && true) = true from rfl,cond_true]
  have h3 : storeList ct (n + [Value.string x].length) n [Value.string x] = some (ct.put n (some (.string x))) := by
    simp only [storeList,force_eq,forceN_eq,List.length_cons,List.length_nil]
    rw [blt_of (by omega),cond_true]
  rw [h3]
  rfl

noncomputable def woOut : Code := cI (cI (cB (cA (cB (cB (cF Tryz.f32))))))

structure WoI (h0 : SHeap) (b : Nat) (ps : List Part) (n i : Nat) (st : St) : Prop where
  ds : st.defers = []
  t11 : st.tm.get 11 = some (.slice (some ⟨b,0,none⟩) n n)
  t12 : st.tm.get 12 = some (.int .i64 (.ofNat n))
  t13 : st.tm.get 13 = some (.int .i64 (.ofNat i))
  next : st.h.next = h0.next + nms (ps.take i)
  low : ∀ x,x < h0.next → st.h.t.get x = h0.t.get x
  sl : (i = 0 ∧ st.tm.get 3 = some (.slice none 0 0)) ∨ (0 < i ∧ st.tm.get 3 = some (.slice (some ⟨st.h.next - 1,0,none⟩) i openCap) ∧ h0.next < st.h.next ∧
    ∃ ct,st.h.t.get (st.h.next - 1) = some (.cells ct i 9 true false) ∧ ∀ k p,k < i → ps[k]? = some p → ct.get k = some (.string p.txt))


theorem opCall_app {E : Env} {ev : Ev} {o : Oper} {a : Array Operand} {ats : Array TypeId} {h : SHeap} : opCall E ev o ⟨.builtin .append,a,ats⟩ h = opBuiltin E ev o ⟨.builtin .append,a,ats⟩ .append (evList ev a.toList) h := (id rfl)

theorem wo_in {h0 : SHeap} {b : Nat} {ps : List Part} {n : Nat} {cb : Tr Value} {mb eb : Nat} {ob rb : Bool} (hb0 : b < h0.next) (hbk : h0.t.get b = some (.cells cb mb eb ob rb)) (hcb : ∀ (k : Nat) (p : Part),ps[k]? = some p → cb.get k = some p.val) (hn : n ≤ 1000) (hps : ps.length = n) (hlim : h0.next + 4000 ≤ lim)
    (hfit : ∀ p ∈ ps,p.fits) (hI : ∀ (x : Int) (g : SHeap),-9223372036854775808 ≤ x → x ≤ 9223372036854775807 → (∀ y,y < h0.next → g.t.get y = h0.t.get y) → h0.next ≤ g.next → g.next + 10 ≤ lim → ∃ h1,ih (.call 56 #[.int .i64 x] .normal) g = .ok (.string ⟨(Lib.itoa x).toArray⟩,h1) ∧ h1.t = g.t ∧ h1.next = (bif smallI x then g.next else g.next + 1))
    (i : Nat) (hi : i < n) (st : St) (hS : WoI h0 b ps n i st) :
    ∃ st',codeS woOut (Eo O) ih ⟨32,51,.normal,none⟩ st = .ok (.normal,st') ∧ WoI h0 b ps n (i + 1) st' := by
  obtain ⟨tm,h,dd⟩ := st
  obtain ⟨hd,t11,t12,t13,hnx,low,sl⟩ := hS
  simp only at hd t11 t12 t13 hnx low sl
  subst hd
  obtain ⟨p,hp0⟩ : ∃ p,ps[i]? = some p := ⟨ps[i],List.getElem?_eq_getElem (by omega)⟩
  have hmem : p ∈ ps := List.mem_of_getElem? hp0
  have hnms : nms (ps.take (i + 1)) = nms (ps.take i) + p.nm := by
    rw [List.take_add_one,hp0]; exact nms_snoc _ _
  have hle : nms (ps.take i) ≤ 3 * i := by
    have := nms_le (ps.take i); rw [List.length_take] at this; omega
  have hcell := hcb i p hp0
  have hj' : decide (Int.ofNat i < Int.ofNat n) = true := by simp; omega
  have hj2 : wrapF .i64 (Int.ofNat i + 1) = .ofNat (i + 1) := Go.Sim.wrap_small (m := i + 1) (by omega)
  have ld0 := load_one (E := Eo O) (h := h) E20 agg20 (by rw [low b hb0]; exact hbk) hcell
  have ld : opLoad (Eo O) 20 (some (.pointer (some ⟨b,0 + i,none⟩))) h = .ok (.value p.val,h) := by rw [Nat.zero_add]; exact ld0
  have hn1 : ∀ (h : SHeap) (cs : List Value) (o : Bool),(newCells h 9 cs o).next = h.next + 1 := fun _ _ _ => rfl
  generalize hr : codeS woOut (Eo O) ih ⟨32,51,.normal,none⟩ ⟨tm,h,[]⟩ = r
  unfold woOut at hr
  cases p with
  | num x =>
    obtain ⟨hx1,hx2⟩ := hfit _ hmem
    obtain ⟨h1,hI,hIt,hIn⟩ := hI x h hx1 hx2 low (by omega) (by omega)
    simp only [Part.val] at ld
    have hnm : h1.next + 2 = h.next + (Part.num x).nm := by rw [hIn,Part.nm]; cases smallI x <;> rfl
    have hb1 : (newCells h1 9 [.string ⟨(Lib.itoa x).toArray⟩] false).t.get h1.next = some (.cells (Tr.ofL 33 [.string ⟨(Lib.itoa x).toArray⟩]) 1 9 false false) := by
      simp only [newCells,SHeap.new,get_put]
      rw [if_pos ⟨trivial,by have := nm_le (.num x); omega⟩]
      rfl
    have hbig : h.next ≤ h1.next := by rw [hIn]; cases smallI x <;> simp
    have hl1 : h1.next + 10 ≤ lim := by have := nm_le (.num x); omega
    rcases sl with ⟨rfl,c3⟩ | ⟨hpos,c3,hgt,ct,c4,c5⟩
    · have : True := trivial
      have ap : ∀ (cal : Callee) (a : Array Operand),appendS (Eo O) ⟨cal,a,#[62,62]⟩ [.slice none 0 0,.slice (some ⟨h1.next,0,none⟩) 1 1] (newCells h1 9 [.string ⟨(Lib.itoa x).toArray⟩] false) = _ := fun _ _ => app1xnil rfl hb1
      simp only [Tryz.f32,cF,Option.getD,cA,cB,cI,codeS,cSeq_run,cCond_run,cRegion_run,cRegion_draw,cBlock_run,cSkip_run,cRet_run,cExit_run,opsS_nil,opsS_run,opS_free,thenS_normal,thenS_ret,thenS_exit,exitBlock_normal,exitBlock_ret,exitBlock_exit,normalS_ok,dispatch,dMove,opMove,evT_tmp,evT_int,evT_bool,dBin,lss_i64,gtr_i64,add_i64,valR,afterS_value,putT_some,putT_none,get_put,lim,Nat.reduceLT,Nat.reduceEqDiff,and_true,if_true,if_false,reduceIte,false_and,true_and,cLoop_run,Nat.beq,cond_true,
      dIndexAddr,dFieldAddr,dNilCheck,dLoad,nilCheck_ptr,Option.bind_some,natOf_int,addrAdd_free,drawS_nil',drawS_cons',dstep_pure',dstep_read',simOp_run,outVal_val,List.getElem?_toArray,List.getElem?_cons_succ,List.getElem?_cons_zero,List.drop_succ_cons,List.drop_zero,dPick,pick_true,pick_false,opS_guard,wantedS,Option.bind_some,dIndex,dBuild,dBuildSlice,dCall,evParts,evList,dSlice,bqa,bqb,bqc,bqd,dTypeAssert,dExtract,opBuiltin,opCall_app,t11,t12,t13,c3,hj',hj2,ia147 hi,ld,ta3xint,ex0,ex1,afterS_enter,call_fn en56,hI,buildSlice62,ap] at hr
      subst hr
      refine ⟨_,rfl,?_⟩
      refine ⟨rfl,?_,?_,?_,?_,?_,.inr ⟨by omega,?_,?_,?_⟩⟩
      · simp [get_put,lim,t11]
      · simp [get_put,lim,t12]
      · simp [get_put,lim]
      · simp only [hn1]; rw [hnms]; omega
      · intro y hy
        simp only [newCells,SHeap.new,get_put]
        rw [if_neg (by omega),if_neg (by omega)]
        rw [hIt,low y hy]
      · simp only [get_put,hn1,lim,Nat.reduceLT,Nat.reduceEqDiff,and_true,if_true,if_false]
        rfl
      · simp only [hn1]; omega
      · refine ⟨Tr.ofL 33 [.string ⟨(Lib.itoa x).toArray⟩],?_,fun k p hk hp => ?_⟩
        · simp only [hn1]
          rw [show h1.next + 1 + 1 - 1 = h1.next + 1 by omega]
          show ((newCells h1 9 _ false).t.put (h1.next + 1) _).get (h1.next + 1) = _
          rw [get_put,if_pos ⟨rfl,by omega⟩]
          rfl
        · obtain rfl : k = 0 := by omega
          rw [hp0] at hp
          obtain rfl := Option.some.inj hp
          rw [ofL_get_eq (by decide)]
          rfl
    · have hr1 : (newCells h1 9 [.string ⟨(Lib.itoa x).toArray⟩] false).t.get (h.next - 1) = some (.cells ct i 9 true false) := by
        simp only [newCells,SHeap.new,get_put]
        rw [if_neg (by omega),hIt]
        exact c4
      have ap : ∀ (cal : Callee) (a : Array Operand),appendS (Eo O) ⟨cal,a,#[62,62]⟩ [.slice (some ⟨h.next - 1,0,none⟩) i openCap,.slice (some ⟨h1.next,0,none⟩) 1 1] (newCells h1 9 [.string ⟨(Lib.itoa x).toArray⟩] false) = _ := fun _ _ => app1xopen rfl hb1 hr1 (by omega)
      simp only [Tryz.f32,cF,Option.getD,cA,cB,cI,codeS,cSeq_run,cCond_run,cRegion_run,cRegion_draw,cBlock_run,cSkip_run,cRet_run,cExit_run,opsS_nil,opsS_run,opS_free,thenS_normal,thenS_ret,thenS_exit,exitBlock_normal,exitBlock_ret,exitBlock_exit,normalS_ok,dispatch,dMove,opMove,evT_tmp,evT_int,evT_bool,dBin,lss_i64,gtr_i64,add_i64,valR,afterS_value,putT_some,putT_none,get_put,lim,Nat.reduceLT,Nat.reduceEqDiff,and_true,if_true,if_false,reduceIte,false_and,true_and,cLoop_run,Nat.beq,cond_true,
      dIndexAddr,dFieldAddr,dNilCheck,dLoad,nilCheck_ptr,Option.bind_some,natOf_int,addrAdd_free,drawS_nil',drawS_cons',dstep_pure',dstep_read',simOp_run,outVal_val,List.getElem?_toArray,List.getElem?_cons_succ,List.getElem?_cons_zero,List.drop_succ_cons,List.drop_zero,dPick,pick_true,pick_false,opS_guard,wantedS,Option.bind_some,dIndex,dBuild,dBuildSlice,dCall,evParts,evList,dSlice,bqa,bqb,bqc,bqd,dTypeAssert,dExtract,opBuiltin,opCall_app,t11,t12,t13,c3,hj',hj2,ia147 hi,ld,ta3xint,ex0,ex1,afterS_enter,call_fn en56,hI,buildSlice62,ap] at hr
      subst hr
      refine ⟨_,rfl,?_⟩
      refine ⟨rfl,?_,?_,?_,?_,?_,.inr ⟨by omega,?_,?_,?_⟩⟩
      · simp [get_put,lim,t11]
      · simp [get_put,lim,t12]
      · simp [get_put,lim]
      · simp only [SHeap.new,SHeap.set,hn1]; rw [hnms]; omega
      · intro y hy
        simp only [newCells,SHeap.new,SHeap.set,get_put]
        rw [if_neg (by omega),if_neg (by omega),if_neg (by omega)]
        rw [hIt,low y hy]
      · simp only [SHeap.new,SHeap.set,get_put,hn1,lim,Nat.reduceLT,Nat.reduceEqDiff,and_true,if_true,if_false]
        rfl
      · simp only [SHeap.new,SHeap.set,hn1]; omega
      · refine ⟨ct.put i (some (.string ⟨(Lib.itoa x).toArray⟩)),?_,fun k p hk hp => ?_⟩
        · simp only [SHeap.new,SHeap.set,hn1]
          rw [show h1.next + 1 + 1 - 1 = h1.next + 1 by omega,get_put,if_pos ⟨rfl,by omega⟩]
        · rw [get_put]
          by_cases e : k = i
          · subst e
            rw [hp0] at hp
            obtain rfl := Option.some.inj hp
            rw [if_pos ⟨rfl,by omega⟩]
            rfl
          · rw [if_neg (fun q => e q.1)]
            exact c5 k p (by omega) hp
  | str x =>
    simp only [Part.val] at ld
    have hb1 : (newCells h 9 [.string x] false).t.get h.next = some (.cells (Tr.ofL 33 [.string x]) 1 9 false false) := by
      simp only [newCells,SHeap.new,get_put]
      rw [if_pos ⟨trivial,by omega⟩]
      rfl
    have hnm : (Part.str x).nm = 2 := rfl
    rcases sl with ⟨rfl,c3⟩ | ⟨hpos,c3,hgt,ct,c4,c5⟩
    · have : True := trivial
      have ap : ∀ (cal : Callee) (a : Array Operand),appendS (Eo O) ⟨cal,a,#[62,62]⟩ [.slice none 0 0,.slice (some ⟨h.next,0,none⟩) 1 1] (newCells h 9 [.string x] false) = _ := fun _ _ => app1xnil rfl hb1
      simp only [Tryz.f32,cF,Option.getD,cA,cB,cI,codeS,cSeq_run,cCond_run,cRegion_run,cRegion_draw,cBlock_run,cSkip_run,cRet_run,cExit_run,opsS_nil,opsS_run,opS_free,thenS_normal,thenS_ret,thenS_exit,exitBlock_normal,exitBlock_ret,exitBlock_exit,normalS_ok,dispatch,dMove,opMove,evT_tmp,evT_int,evT_bool,dBin,lss_i64,gtr_i64,add_i64,valR,afterS_value,putT_some,putT_none,get_put,lim,Nat.reduceLT,Nat.reduceEqDiff,and_true,if_true,if_false,reduceIte,false_and,true_and,cLoop_run,Nat.beq,cond_true,
      dIndexAddr,dFieldAddr,dNilCheck,dLoad,nilCheck_ptr,Option.bind_some,natOf_int,addrAdd_free,drawS_nil',drawS_cons',dstep_pure',dstep_read',simOp_run,outVal_val,List.getElem?_toArray,List.getElem?_cons_succ,List.getElem?_cons_zero,List.drop_succ_cons,List.drop_zero,dPick,pick_true,pick_false,opS_guard,wantedS,Option.bind_some,dIndex,dBuild,dBuildSlice,dCall,evParts,evList,dSlice,bqa,bqb,bqc,bqd,dTypeAssert,dExtract,opBuiltin,opCall_app,t11,t12,t13,c3,hj',hj2,ia147 hi,ld,ta3xstr,ta9xstr,ex0,ex1,buildSlice62,ap] at hr
      subst hr
      refine ⟨_,rfl,?_⟩
      refine ⟨rfl,?_,?_,?_,?_,?_,.inr ⟨by omega,?_,?_,?_⟩⟩
      · simp [get_put,lim,t11]
      · simp [get_put,lim,t12]
      · simp [get_put,lim]
      · simp only [hn1]; rw [hnms]; omega
      · intro y hy
        simp only [newCells,SHeap.new,get_put]
        rw [if_neg (by omega),if_neg (by omega)]
        rw [low y hy]
      · simp only [get_put,hn1,lim,Nat.reduceLT,Nat.reduceEqDiff,and_true,if_true,if_false]
        rfl
      · simp only [hn1]; omega
      · refine ⟨Tr.ofL 33 [.string x],?_,fun k p hk hp => ?_⟩
        · simp only [hn1]
          rw [show h.next + 1 + 1 - 1 = h.next + 1 by omega]
          show ((newCells h 9 _ false).t.put (h.next + 1) _).get (h.next + 1) = _
          rw [get_put,if_pos ⟨rfl,by omega⟩]
          rfl
        · obtain rfl : k = 0 := by omega
          rw [hp0] at hp
          obtain rfl := Option.some.inj hp
          rw [ofL_get_eq (by decide)]
          rfl
    · have hr1 : (newCells h 9 [.string x] false).t.get (h.next - 1) = some (.cells ct i 9 true false) := by
        simp only [newCells,SHeap.new,get_put]
        rw [if_neg (by omega)]
        exact c4
      have ap : ∀ (cal : Callee) (a : Array Operand),appendS (Eo O) ⟨cal,a,#[62,62]⟩ [.slice (some ⟨h.next - 1,0,none⟩) i openCap,.slice (some ⟨h.next,0,none⟩) 1 1] (newCells h 9 [.string x] false) = _ := fun _ _ => app1xopen rfl hb1 hr1 (by omega)
      simp only [Tryz.f32,cF,Option.getD,cA,cB,cI,codeS,cSeq_run,cCond_run,cRegion_run,cRegion_draw,cBlock_run,cSkip_run,cRet_run,cExit_run,opsS_nil,opsS_run,opS_free,thenS_normal,thenS_ret,thenS_exit,exitBlock_normal,exitBlock_ret,exitBlock_exit,normalS_ok,dispatch,dMove,opMove,evT_tmp,evT_int,evT_bool,dBin,lss_i64,gtr_i64,add_i64,valR,afterS_value,putT_some,putT_none,get_put,lim,Nat.reduceLT,Nat.reduceEqDiff,and_true,if_true,if_false,reduceIte,false_and,true_and,cLoop_run,Nat.beq,cond_true,
      dIndexAddr,dFieldAddr,dNilCheck,dLoad,nilCheck_ptr,Option.bind_some,natOf_int,addrAdd_free,drawS_nil',drawS_cons',dstep_pure',dstep_read',simOp_run,outVal_val,List.getElem?_toArray,List.getElem?_cons_succ,List.getElem?_cons_zero,List.drop_succ_cons,List.drop_zero,dPick,pick_true,pick_false,opS_guard,wantedS,Option.bind_some,dIndex,dBuild,dBuildSlice,dCall,evParts,evList,dSlice,bqa,bqb,bqc,bqd,dTypeAssert,dExtract,opBuiltin,opCall_app,t11,t12,t13,c3,hj',hj2,ia147 hi,ld,ta3xstr,ta9xstr,ex0,ex1,buildSlice62,ap] at hr
      subst hr
      refine ⟨_,rfl,?_⟩
      refine ⟨rfl,?_,?_,?_,?_,?_,.inr ⟨by omega,?_,?_,?_⟩⟩
      · simp [get_put,lim,t11]
      · simp [get_put,lim,t12]
      · simp [get_put,lim]
      · simp only [SHeap.new,SHeap.set,hn1]; rw [hnms]; omega
      · intro y hy
        simp only [newCells,SHeap.new,SHeap.set,get_put]
        rw [if_neg (by omega),if_neg (by omega),if_neg (by omega)]
        rw [low y hy]
      · simp only [SHeap.new,SHeap.set,get_put,hn1,lim,Nat.reduceLT,Nat.reduceEqDiff,and_true,if_true,if_false]
        rfl
      · simp only [SHeap.new,SHeap.set,hn1]; omega
      · refine ⟨ct.put i (some (.string x)),?_,fun k p hk hp => ?_⟩
        · simp only [SHeap.new,SHeap.set,hn1]
          rw [show h.next + 1 + 1 - 1 = h.next + 1 by omega,get_put,if_pos ⟨rfl,by omega⟩]
        · rw [get_put]
          by_cases e : k = i
          · subst e
            rw [hp0] at hp
            obtain rfl := Option.some.inj hp
            rw [if_pos ⟨rfl,by omega⟩]
            rfl
          · rw [if_neg (fun q => e q.1)]
            exact c5 k p (by omega) hp


theorem opCall_len {E : Env} {ev : Ev} {o : Oper} {a : Array Operand} {ats : Array TypeId} {h : SHeap} : opCall E ev o ⟨.builtin .len,a,ats⟩ h = opBuiltin E ev o ⟨.builtin .len,a,ats⟩ .len (evList ev a.toList) h := (id rfl)
theorem en66 : EntersS (Eo O) 66 := fun _ _ => by kernel_rfl
theorem en32 : EntersS (Eo O) 32 := fun _ _ => by kernel_rfl
theorem evT_nilslice {G : Nat} {tm : Tr Value} : evT G tm (.const (.slice none 0 0)) = some (.slice none 0 0) := (id rfl)

theorem wo_end {h0 : SHeap} {b : Nat} {ps : List Part} {n : Nat} (st : St) (hS : WoI h0 b ps n n st) : ∃ st',codeS woOut (Eo O) ih ⟨32,51,.normal,none⟩ st = .ok (.exit 0,st') ∧ WoI h0 b ps n n st' := by
  obtain ⟨tm,h,dd⟩ := st
  obtain ⟨hd,t11,t12,t13,hnx,low,sl⟩ := hS
  simp only at hd t11 t12 t13 hnx low sl
  subst hd
  have hj' : decide (Int.ofNat n < Int.ofNat n) = false := by simp
  generalize hr : codeS woOut (Eo O) ih ⟨32,51,.normal,none⟩ ⟨tm,h,[]⟩ = r
  unfold woOut at hr
  simp only [Tryz.f32,cF,Option.getD,cA,cB,cI,codeS,cSeq_run,cCond_run,cRegion_run,cRegion_draw,cBlock_run,cSkip_run,cRet_run,cExit_run,opsS_nil,opsS_run,opS_free,thenS_normal,thenS_ret,thenS_exit,exitBlock_normal,exitBlock_ret,exitBlock_exit,normalS_ok,dispatch,dMove,opMove,evT_tmp,evT_int,evT_bool,dBin,lss_i64,gtr_i64,add_i64,valR,afterS_value,putT_some,putT_none,get_put,lim,Nat.reduceLT,Nat.reduceEqDiff,and_true,if_true,if_false,reduceIte,false_and,true_and,cLoop_run,Nat.beq,cond_true,
      dIndexAddr,dFieldAddr,dNilCheck,dLoad,nilCheck_ptr,Option.bind_some,natOf_int,addrAdd_free,drawS_nil',drawS_cons',dstep_pure',dstep_read',simOp_run,outVal_val,List.getElem?_toArray,List.getElem?_cons_succ,List.getElem?_cons_zero,List.drop_succ_cons,List.drop_zero,dPick,pick_true,pick_false,opS_guard,wantedS,Option.bind_some,dIndex,dBuild,dBuildSlice,dCall,evParts,evList,dSlice,t11,t12,t13,hj'] at hr
  subst hr
  refine ⟨_,rfl,rfl,?_,?_,?_,hnx,low,?_⟩
  · simp [get_put,lim,t11]
  · simp [get_put,lim,t12]
  · simp [get_put,lim,t13]
  · rcases sl with ⟨a,c⟩ | ⟨a,c,d⟩
    · exact .inl ⟨a,by simp [get_put,lim,c]⟩
    · exact .inr ⟨a,by simp [get_put,lim,c],d⟩

def wordsT (ps : List Part) : List UInt8 := Lib.join (ps.map (·.txt.data.toList)) [32]

theorem wo_code {h0 : SHeap} {b : Nat} {ps : List Part} {n : Nat} {cb : Tr Value} {mb eb : Nat} {ob rb : Bool} (hb0 : b < h0.next) (hbk : h0.t.get b = some (.cells cb mb eb ob rb)) (hcb : ∀ (k : Nat) (p : Part),ps[k]? = some p → cb.get k = some p.val) (hn : n ≤ 1000) (hn0 : 0 < n) (hps : ps.length = n) (hlim : h0.next + 4000 ≤ lim)
    (hfit : ∀ p ∈ ps,p.fits) (hI : ∀ (x : Int) (g : SHeap),-9223372036854775808 ≤ x → x ≤ 9223372036854775807 → (∀ y,y < h0.next → g.t.get y = h0.t.get y) → h0.next ≤ g.next → g.next + 10 ≤ lim → ∃ h1,ih (.call 56 #[.int .i64 x] .normal) g = .ok (.string ⟨(Lib.itoa x).toArray⟩,h1) ∧ h1.t = g.t ∧ h1.next = (bif smallI x then g.next else g.next + 1))
    (hJ : ∀ (r : Nat) (g : SHeap) (ct : Tr Value),g.t.get r = some (.cells ct n 9 true false) → ct.toListFrom 0 n = some (ps.map fun p => .string p.txt) → ih (.call 66 #[.slice (some ⟨r,0,none⟩) n openCap,.string ⟨#[32]⟩] .normal) g = .ok (.string ⟨(wordsT ps).toArray⟩,g))
    {tm : Tr Value} (t0 : tm.get 0 = some (.slice (some ⟨b,0,none⟩) n n)) :
    ∃ tm' h',codeS (cF Tryz.f32) (Eo O) ih ⟨32,51,.normal,none⟩ ⟨tm,h0,[]⟩ = .ok (.ret,⟨tm',h',[]⟩) ∧ tm'.get 2 = some (.string ⟨(wordsT ps).toArray⟩) ∧ h'.next = h0.next + nms ps ∧ ∀ x,x < h0.next → h'.t.get x = h0.t.get x := by
  obtain ⟨tmk,hk⟩ : ∃ tmk,tmk = (((((tm.put 2 (some (.string ⟨#[]⟩))).put 3 (some (.slice none 0 0))).put 11 (some (.slice (some ⟨b,0,none⟩) n n))).put 12 (some (.int .i64 (.ofNat n)))).put 13 (some (.int .i64 0))) := ⟨_,rfl⟩
  have hin : WoI h0 b ps n 0 ⟨tmk,h0,[]⟩ := by
    subst hk
    refine ⟨rfl,?_,?_,?_,by simp [nms],fun _ _ => rfl,.inl ⟨rfl,?_⟩⟩
    · simp [get_put,lim]
    · simp [get_put,lim]
    · simp [get_put,lim]
    · simp [get_put,lim]
  obtain ⟨⟨tm1,h1,dd1⟩,e1,e2⟩ := loopS_inv (f := codeS woOut (Eo O) ih ⟨32,51,.normal,none⟩) (I := WoI h0 b ps n) (N := n) (id := 0) (Q := WoI h0 b ps n n)
    (fun j st hj hI' => wo_in hb0 hbk hcb hn hps hlim hfit hI j hj st hI') (fun st hI' => wo_end st hI') n 1000000 0 _ (by omega) (by omega) hin
  subst hk
  unfold woOut at e1
  simp only [Tryz.f32,cF,Option.getD,cA,cB,cI,codeS] at e1
  obtain ⟨hd,u11,u12,u13,hnx,low,sl⟩ := e2
  simp only at hd u11 u12 u13 hnx low sl
  subst hd
  rcases sl with ⟨z,_⟩ | ⟨_,c3,_,ct,c4,c5⟩
  · omega
  generalize hr : codeS (cF Tryz.f32) (Eo O) ih ⟨32,51,.normal,none⟩ ⟨tm,h0,[]⟩ = r
  have hl : ct.toListFrom 0 n = some (ps.map fun p => .string p.txt) := by
    have := toListFrom_of (t := ct) (l := ps.map fun p => Value.string p.txt) (i := 0) (fun k hk => by
      simp only [List.length_map] at hk
      rw [Nat.zero_add,c5 k ps[k] (by omega) (List.getElem?_eq_getElem hk),List.getElem?_map,List.getElem?_eq_getElem hk]; rfl)
    simpa [hps] using this
  have hj := hJ _ _ _ c4 hl
  simp only [Tryz.f32,cF,Option.getD,cA,cB,cI,codeS,cSeq_run,cCond_run,cRegion_run,cRegion_draw,cBlock_run,cSkip_run,cRet_run,cExit_run,opsS_nil,opsS_run,opS_free,thenS_normal,thenS_ret,thenS_exit,exitBlock_normal,exitBlock_ret,exitBlock_exit,normalS_ok,dispatch,dMove,opMove,evT_tmp,evT_int,evT_bool,dBin,lss_i64,gtr_i64,add_i64,valR,afterS_value,putT_some,putT_none,get_put,lim,Nat.reduceLT,Nat.reduceEqDiff,and_true,if_true,if_false,reduceIte,false_and,true_and,cLoop_run,Nat.beq,cond_true,
      dIndexAddr,dFieldAddr,dNilCheck,dLoad,nilCheck_ptr,Option.bind_some,natOf_int,addrAdd_free,drawS_nil',drawS_cons',dstep_pure',dstep_read',simOp_run,outVal_val,List.getElem?_toArray,List.getElem?_cons_succ,List.getElem?_cons_zero,List.drop_succ_cons,List.drop_zero,dPick,pick_true,pick_false,opS_guard,wantedS,Option.bind_some,dIndex,dBuild,dBuildSlice,dCall,evParts,evList,dSlice,bqa,bqb,bqc,bqd,evT_str,evT_nilslice,opCall_len,opBuiltin,len147,t0,e1,c3,afterS_enter,call_fn en66,hj] at hr
  subst hr
  refine ⟨_,_,rfl,by simp [get_put,lim],?_,low⟩
  rw [hnx,List.take_of_length_le (by omega)]

/-! ## words,as an oracle -/
def partOf (v : Value) : Option Part := match v with
  | .iface t x => match x with
    | .int k n => match k with
      | .i64 => bif Nat.beq t 3 && decide (-9223372036854775808 ≤ n) && decide (n ≤ 9223372036854775807) then some (.num n) else none
      | _ => none
    | .string s => bif Nat.beq t 9 then some (.str s) else none
    | _ => none
  | _ => none
def partsOf : List Value → Option (List Part)
  | [] => some []
  | v :: r => match partOf v with
    | some p => match partsOf r with
      | some l => some (p :: l)
      | none => none
    | none => none
theorem partOf_val {v : Value} {p : Part} (h : partOf v = some p) : v = p.val ∧ p.fits := by
  unfold partOf at h
  split at h
  · split at h
    · split at h
      · rename_i t xx n kk
        cases hc : (Nat.beq t 3 && decide (-9223372036854775808 ≤ n) && decide (n ≤ 9223372036854775807)) with
        | false => rw [hc] at h; simp at h
        | true =>
          rw [hc,cond_true] at h
          obtain rfl := Option.some.inj h
          simp only [Bool.and_eq_true,decide_eq_true_eq] at hc
          obtain rfl := Nat.eq_of_beq_eq_true hc.1.1
          exact ⟨rfl,hc.1.2,hc.2⟩
      · simp at h
    · rename_i t xx s
      cases hc : Nat.beq t 9 with
      | false => rw [hc] at h; simp at h
      | true =>
        rw [hc,cond_true] at h
        obtain rfl := Option.some.inj h
        obtain rfl := Nat.eq_of_beq_eq_true hc
        exact ⟨rfl,trivial⟩
    · simp at h
  · simp at h
theorem partsOf_val : ∀ {l : List Value} {ps : List Part},partsOf l = some ps → l = ps.map Part.val ∧ ∀ p ∈ ps,p.fits
  | [],ps,h => by simp [partsOf] at h; subst h; simp
  | v :: r,ps,h => by
    unfold partsOf at h
    split at h
    · rename_i p hp
      split at h
      · rename_i l hl
        obtain rfl := Option.some.inj h
        obtain ⟨h1,h2⟩ := partOf_val hp
        obtain ⟨h3,h4⟩ := partsOf_val hl
        refine ⟨by rw [h1,h3]; rfl,fun q hq => ?_⟩
        rcases List.mem_cons.1 hq with rfl | hq
        · exact h2
        · exact h4 q hq
      · simp at h
    · simp at h
def wordsC (h : SHeap) (n : Nat) (ps : Option (List Part)) : Ex (Value × SHeap) := match ps with
  | some ps => bif tabOK (h.t.get 0) && Nat.ble 1 n && Nat.ble n 1000 && Nat.ble (h.next + 4000) lim && Nat.ble (wordsT ps).length 140737488355328 then .ok (.string ⟨(wordsT ps).toArray⟩,⟨h.t,h.next + nms ps⟩) else .error "words"
  | none => .error "words  parts"
def wordsB (h : SHeap) (n : Nat) (x : Option SObj) : Ex (Value × SHeap) := match x with
  | some (.cells c _ _ _ _) => wordsC h n ((c.toListFrom 0 n).bind partsOf)
  | _ => .error "words  block"
def wordsQ (args : List Value) (h : SHeap) : Ex (Value × SHeap) := match args with
  | [.slice (some ⟨b,0,none⟩) n c] => bif Nat.beq n c then wordsB h n (h.t.get b) else .error "words  args"
  | _ => .error "words  args"

theorem body32 : Tryz.f32.body = some (cF Tryz.f32) := rfl
theorem fn32 : (Eo O).F 32 = some Tryz.f32 := by show Tab.funcs.get 32 = _; kernel_rfl
theorem nt32 {a : Value} : max Tryz.f32.ntmps (#[a] : Array Value).size = 51 := rfl
theorem res32 : Tryz.f32.results.toList = [.tmp 2] := rfl
theorem strsOf_of : ∀ (ps : List Part),strsOf (ps.map fun p => .string p.txt) = some (ps.map Part.txt)
  | [] => rfl
  | p :: r => by
    have := strsOf_of r
    simp only [List.map_cons,strsOf,this]

/-- what Itoa's oracle gives -/
theorem itoa_at {k : Nat} (o56 : O 56 = some itoaQ) {h0 : SHeap} (ht : tabOK (h0.t.get 0) = true) (h00 : 0 < h0.next) (x : Int) (g : SHeap) (h1 : -9223372036854775808 ≤ x) (h2 : x ≤ 9223372036854775807) (hlow : ∀ y,y < h0.next → g.t.get y = h0.t.get y) (_ : h0.next ≤ g.next) (hl : g.next + 10 ≤ lim) :
    ∃ h1,run (Eo O) (k + 1) (.call 56 #[.int .i64 x] .normal) g = .ok (.string ⟨(Lib.itoa x).toArray⟩,h1) ∧ h1.t = g.t ∧ h1.next = (bif smallI x then g.next else g.next + 1) := by
  rw [run_orc (E := Eo O) (show (Eo O).O 56 = some itoaQ from o56)]
  have hb : Nat.ble (g.next + 10) lim = true := by rw [Nat.ble_eq]; exact hl
  simp only [itoaQ,hlow 0 h00,ht,decide_eq_true h1,decide_eq_true h2,hb,Bool.and_true,cond_true]
  refine ⟨_,rfl,?_,?_⟩
  · cases (decide (0 ≤ x) && decide (x < 100)) <;> rfl
  · unfold smallI
    cases (decide (0 ≤ x) && decide (x < 100)) <;> rfl

theorem words_run {k : Nat} (o56 : O 56 = some itoaQ) (o66 : O 66 = some joinQ) (o32 : O 32 = none) {h : SHeap} {b n : Nat} {cb : Tr Value} {mb eb : Nat} {ob rb : Bool} {ps : List Part} (hb0 : b < h.next) (hbk : h.t.get b = some (.cells cb mb eb ob rb)) (hcb : ∀ (k : Nat) (p : Part),ps[k]? = some p → cb.get k = some p.val)
    (ht : tabOK (h.t.get 0) = true) (hn1 : 1 ≤ n) (hn : n ≤ 1000) (hps : ps.length = n) (hlim : h.next + 4000 ≤ lim) (hfit : ∀ p ∈ ps,p.fits) (hlen : (wordsT ps).length ≤ 140737488355328) :
    ∃ h',run (Eo O) (k + 2) (.call 32 #[.slice (some ⟨b,0,none⟩) n n] .normal) h = .ok (.string ⟨(wordsT ps).toArray⟩,h') ∧ h'.next = h.next + nms ps ∧ ∀ x,x < h.next → h'.t.get x = h.t.get x := by
  obtain ⟨tm',h',k1,k2,k3,k4⟩ := wo_code (O := O) (ih := run (Eo O) (k + 1)) hb0 hbk hcb hn (by omega) hps hlim hfit (fun x g a b c d e => itoa_at o56 ht (by omega) x g a b c d e)
    (fun r g ct hr hl => by
      rw [run_orc (E := Eo O) (show (Eo O).O 66 = some joinQ from o66)]
      have b1 : Nat.ble n openCap = true := by rw [Nat.ble_eq]; have e : openCap = 1180591620717411303424 := rfl; rw [e]; omega
      have b2 : Nat.ble openCap openCap = true := by rw [Nat.ble_eq]; exact Nat.le_refl _
      have hbt : (some (ps.map fun p => Value.string p.txt)).bind strsOf = some (ps.map Part.txt) := strsOf_of ps
      have hj : Lib.join ((ps.map Part.txt).map (·.data.toList)) ([32] : List UInt8) = wordsT ps := by rw [wordsT,List.map_map]; rfl
      have b3 : Nat.ble (wordsT ps).length 140737488355328 = true := by rw [Nat.ble_eq]; exact hlen
      have b4 : Nat.ble (ps.map Part.txt).length 140737488355328 = true := by rw [Nat.ble_eq,List.length_map]; omega
      simp only [joinQ,b1,b2,Bool.and_self,cond_true,hr,joinA,hl,hbt,joinB]
      rw [hj,b3,b4]
      rfl)
    (tm := Tr.ofL 33 [.slice (some ⟨b,0,none⟩) n n]) rfl
  exact ⟨h',(run_call (show (Eo O).O 32 = none from o32)).trans (enterS_ret (vs := [_]) fn32 body32 nt32 rfl res32 k1 (by simp only [resultsS,k2,need])),k3,k4⟩

theorem words_ok (hOK : ∀ f g,(Eo O).O f = some g → OrcOK (Eo O) f g) (o56 : O 56 = some itoaQ) (o66 : O 66 = some joinQ) (o32 : O 32 = none) : OrcOK (Eo O) 32 wordsQ := by
  refine orc_of_run (run_ok (envOK O) (bDraw_ok (envOK O) (show Tryz.prog.follows .mixedOrders = true from mixed)) hOK 2) fun args h v h' hlow hok => ?_
  unfold wordsQ at hok
  split at hok
  · rename_i b n c hargs
    cases hnc : Nat.beq n c with
    | false => rw [hnc] at hok; simp at hok
    | true =>
      rw [hnc,cond_true] at hok
      obtain rfl := Nat.eq_of_beq_eq_true hnc
      unfold wordsB at hok
      split at hok
      · rename_i cb mb eb ob rb hbk
        unfold wordsC at hok
        split at hok
        · rename_i ps hps
          obtain ⟨l,hl,hp⟩ := Option.bind_eq_some_iff.1 hps
          cases hc : (tabOK (h.t.get 0) && Nat.ble 1 n && Nat.ble n 1000 && Nat.ble (h.next + 4000) lim && Nat.ble (wordsT ps).length 140737488355328) with
          | false => rw [hc] at hok; simp at hok
          | true =>
            rw [hc,cond_true] at hok
            simp only [Except.ok.injEq,Prod.mk.injEq] at hok
            obtain ⟨rfl,rfl⟩ := hok
            simp only [Bool.and_eq_true] at hc
            obtain ⟨⟨⟨⟨c1,c2⟩,c3⟩,c4⟩,c5⟩ := hc
            obtain ⟨t1,t2⟩ := toListFrom_spec _ _ _ _ hl
            obtain ⟨p1,p2⟩ := partsOf_val hp
            have harr : args = #[.slice (some ⟨b,0,none⟩) n n] := Array.toList_inj.1 hargs
            subst harr
            have hlen : ps.length = n := by rw [← t1,p1,List.length_map]
            obtain ⟨h'',e1,e2,e3⟩ := words_run (k := 0) o56 o66 o32 (hlow b _ hbk) hbk (fun k p hk => by
              have hkl : k < ps.length := by
                rcases Nat.lt_or_ge k ps.length with h | h
                · exact h
                · rw [List.getElem?_eq_none h] at hk; simp at hk
              have := t2 k (by omega)
              rw [p1,List.getElem?_map,hk,Nat.zero_add] at this
              exact this.symm) c1 (Nat.le_of_ble_eq_true c2) (Nat.le_of_ble_eq_true c3) hlen (Nat.le_of_ble_eq_true c4) p2 (Nat.le_of_ble_eq_true c5)
            exact ⟨h'',e1,e2,fun x o hx => ⟨o,by rw [e3 x (hlow x o hx)]; exact hx,ObjLe.refl o⟩⟩
        · simp at hok
      · simp at hok
  · simp at hok
end Go.Proofs.YtaclddcneogolaaGreatDoor

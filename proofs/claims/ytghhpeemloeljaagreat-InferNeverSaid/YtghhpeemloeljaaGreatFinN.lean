/- Proved: the law InferNever returns true at every two numbers, from every start that fits the row. Conditions: none beyond the row's own. The seat is cut with walls (the translator's switch -farwalls): the run comes to none of them. -/
import Derived.Test.YtghhpeemloeljaaGreatSnd2
import Derived.Test.YtghhpeemloeljaaGreatFaN
import Derived.ProofKit
import Derived.OpenShut
import Derived.LaidMore
import Derived.Lay
import Derived.MakeChecks
import Derived.SevenTiedAt
import Derived.Stop.Joined
namespace Go.Proofs.YtghhpeemloeljaaGreat
open Go Go.Sim Go.ChangeShapes Go.WideShapes Go.ChangeAt Go.RowKit
set_option maxRecDepth 100000
theorem own:ownKnob Tryz.prog.godebug=none:=by kernel_rfl
/-- name 0 stands for the two unknown numbers -/
def ρ0 (κ:Nat):Ren:=fun b=>if b=0 then some (0,κ) else none
theorem zui {b:Nat}:h0.t.get b=none:=zkq
variable {κ:Nat}
theorem zoC {O:OT} (hb:zbH κ=true):zeu (Eo O) (ρ0 κ):=fun g hg=>by
  have hg:g<1:=hg
  obtain rfl:g=0:=by omega
  exact ⟨κ,rfl,fun _=>hb⟩
theorem zxQ {O:OT} {W:World} (hb:zbH κ=true):WRel (Eo O) (ρ0 κ) h0 W:=by
  refine ⟨fun b p hp => ?_,fun b o ho => ?_,fun b b' o o' r κ κ' ho => ?_,zoC hb⟩
  · unfold ρ0 at hp
    split at hp
    · rename_i e; subst e; exact Nat.one_pos
    · cases hp
  · rw [zui] at ho; simp at ho
  · rw [zui] at ho; simp at ho
theorem ran {r:Ex (Value×SHeap)} (h:zlN r=true):∃ h',r=.ok (.bool true,h'):=by
  unfold zlN at h
  split at h
  · exact ⟨_,rfl⟩
  · simp at h
theorem zEt {ρ':Ren} {h':SHeap} {W W':World} (k:Stp (ρ0 κ) h0 W ρ' h' W') (may:MemPlace→Prop):W.keptBut W' may:=by
  refine ⟨k.os,k.output,fun i hi => ?_⟩
  have:W'.heap[i]? = W.heap[i]? := (k.keep i hi (by
    rintro ⟨b,o,κ,a,_,c⟩
    rw [zui] at a
    simp at a)).1
  rw [this]
  cases W.heap[i]? with
  | none=>rfl
  | some o=>cases o with
    | cells c t fr=>exact ⟨rfl,rfl,rfl,fun _ _=>rfl⟩
    | map es clock=>exact .inr ⟨rfl,rfl⟩
    | _=>rfl
/-- one walk: the first number's rest is x; the other one's is y,or none (t = 2) -/
theorem zCO {W:World} {t:Nat} {a c:Int} (hb:zbH κ=true) (ht:t<10) (hr:zlN (Go.Sim.run (Eo OL) 60 (.call 3 #[.complex .f32 0 0,.complex .f32 t 0] .normal) h0)=true) (ha:zhD a%50=zex κ 0) (hc:zhD c%50=zex κ t) :
    Calls Tryz.prog 3 #[.int .i64 a,.int .i64 c] W fun e W'=>e=.returned (.bool true)∧∀ may,W.keptBut W' may:=by
  obtain ⟨h',hr⟩:=ran hr
  refine Calls.mono (ztB (E:=Eo OL) (zcz OL) (zca OL) okL (f:=3) (args := #[.complex .f32 0 0,.complex .f32 t 0]) (rargs := #[.int .i64 a,.int .i64 c]) (show (Eo OL).O 3=none by kernel_rfl) hr (zxQ hb) (zoC hb)
    (LRel.cons (.arg rfl hb (.inl ⟨by omega,rfl,.inl ⟨rfl,ha⟩⟩)) (LRel.cons (.arg rfl hb (.inl ⟨ht,rfl,.inl ⟨rfl,hc⟩⟩)) (LRel.nil _)))) fun e W' he => ?_
  obtain ⟨ρ',u,rfl,hv,_,hk⟩:=he
  cases hv
  exact ⟨rfl,fun may=>zEt hk may⟩
/-- THE WALK -/
theorem walk {W:World} {a c:Int}:Calls Tryz.prog 3 #[.int .i64 a,.int .i64 c] W fun e W'=>e=.returned (.bool true)∧∀ may,W.keptBut W' may:=by
  obtain ⟨x,hx,lx⟩:∃ x:Nat,zhD a%50=Int.ofNat x∧x≤49:=⟨(zhD a%50).toNat,by simp only [Int.ofNat_eq_natCast]; omega,by omega⟩
  obtain ⟨y,hy,ly⟩:∃ y:Nat,zhD c%50=Int.ofNat y∧y≤49:=⟨(zhD c%50).toNat,by simp only [Int.ofNat_eq_natCast]; omega,by omega⟩
  have box:∀ y,1≤y→y≤49→zbH (x+128*y)=true:=fun y h1 h2=>by
    have e1:(x+128*y)%128=x:=by omega
    have e2:(x+128*y)/128=y:=by omega
    simp only [zbH,e1,e2,Bool.and_eq_true,Nat.ble_eq]
    exact ⟨⟨lx,h1⟩,h2⟩
  have r0:∀ y,zex (x+128*y) 0=Int.ofNat x:=fun y=>by
    show Int.ofNat ((x+128*y)%128)=_
    rw [show (x+128*y)%128=x by omega]
  by_cases h:y=0
  · subst h
    exact zCO (box 1 (by omega) (by omega)) (t:=2) (by omega) zMq (hx.trans (r0 1).symm) hy
  · refine zCO (box y (by omega) ly) (t:=1) (by omega) zME (hx.trans (r0 y).symm) (hy.trans ?_)
    show Int.ofNat y=Int.ofNat ((x+128*y)/128)
    rw [show (x+128*y)/128=y by omega]
set_option maxRecDepth 100000 in
theorem lifted (os:Os) (started:os.Started) (H:Type) (enc:TypeId×Value→H) :
    ReturnsInHanded {} Tryz.checked os 3 .any (Rows.inferNeverSpec.pre6 enc Tryz.prog Tryz.f3 [] false) (Rows.inferNeverSpec.post enc Tryz.prog Tryz.f3 false true false false):=by
  refine returnsInHanded_of_calls (C:=Tryz.checked) own started (by kernel_rfl)
    (ChangeSpec.witness6 (enc:=enc) (C:=Tryz.checked) (os:=os) false ⟨#[],#[.int .i64 0,.int .i64 0],[]⟩ 8 (by kernel_rfl) (by kernel_rfl) (by kernel_rfl) (by kernel_rfl) (by kernel_rfl)) ?_
  intro w tape i _ hsh _ hok hpre _
  obtain ⟨_,_,_,fn',hfn',_,_,_,_,hval⟩:=hok
  obtain rfl:fn'=Tryz.f3:=(Option.some.inj (Tryz.func3.symm.trans hfn')).symm
  obtain ⟨⟨ds,gs,before,hw,hc⟩,hz⟩:=hpre
  have hw':=DataW.Whole.of_heap (w':=w.forCall tape i) (by rfl) hw
  have hW:=hw'
  obtain ⟨p,q,hA0,hV,rfl,hfz,hnd⟩:=hW
  have hA:DataW.TrodAll enc Tryz.prog (w.forCall tape i) 0 (fun _=>true) true Tryz.f3.params.toList i.args.toList ds p:=hA0
  rw [Tryz.params3] at hA hval
  obtain ⟨v0,v1,d0,d1,p0,p1,hargs,rfl,rfl,h0,h1⟩:=trodAll_two hA
  obtain ⟨rfl,rfl⟩:=trodVars_none hV
  rw [hargs] at hval hw' ⊢
  obtain ⟨a,rfl,rfl,rfl,wa⟩:=open_int Tryz.underlying3 (hval 0 3 v0 rfl rfl) h0
  obtain ⟨c,rfl,rfl,rfl,wc⟩:=open_int Tryz.underlying3 (hval 1 3 v1 rfl rfl) h1
  refine walk.mono fun e W' ⟨he,hk⟩ => ?_
  subst he
  refine ChangeSpec.post_blind ⟨_,[],_,[],[],[],hw',?_,?_,?_,hk _,fun h=>by cases h⟩
  · exact trodAll_mk1 (shut_bool Tryz.underlying4 _)
  · rw [Tryz.params3]; exact trodAll_mk2 (p:=[]) (p':=[]) (shut_int Tryz.underlying3 wa) (shut_int Tryz.underlying3 wc)
  · rfl
/-- THE STATEMENT -/
theorem inferNever_holds:Rows.InferNeverSaid:=
  OpenClaim.holds_of_wide 3 Tryz.f3 rfl rfl rfl rfl rfl rfl rfl ⟨rfl,rfl,rfl,rfl,rfl⟩ rfl rfl rfl rfl rfl zIR Tryz.func3 zMD zTK wrapper
    (fun os started H enc _=>by
      rw [zKP]
      exact lifted os started H enc)
#print axioms inferNever_holds
end Go.Proofs.YtghhpeemloeljaaGreat

/- The start of LoadNames: what the listed variables give, the relation of the start, what stays. (Written by gensta.py.) -/
import Derived.Test.YtgiompikfhhkmaaGreatDoorSnd
import Derived.Test.YtgiompikfhhkmaaGreatDoorRows
import Derived.ProofKit
import Derived.OpenShut
import Derived.LaidMore
import Derived.LaidLaws
import Derived.LaidSub
import Derived.FnData
import Derived.Lay
import Derived.MakeChecks
set_option linter.unusedVariables false
set_option linter.unusedSimpArgs false
namespace Go.Proofs.YtgiompikfhhkmaaGreatDoor
open Go Go.Sim Go.ChangeShapes Go.WideShapes Go.ChangeAt Go.RowKit
set_option maxRecDepth 100000

theorem row450 (u : TypeId) (h : Tryz.prog.typeName? 3 u = some "*errors.errorString") : u = 450 :=
  typeName_ptr_named (P := Tryz.prog) (nm := "errors.errorString") (tp := 450) (by kernel_rfl) (by kernel_rfl) (by decide) u h

/-- one listed error -/
theorem sent_of {W : World} {g : Nat} {n : String} {text : List UInt8} {cs : Array Value} {fuel : Nat} {p : List MemPlace} (hg : Tryz.prog.globalNamed n = some g) (hv : W.var? Tryz.prog n = some cs)
    (hd : DataW.trod (fun _ => ()) Tryz.prog W 0 (fun _ => true) false fuel 25 cs.toList = some (.iface "*errors.errorString" (.ptr (.agg [.lit (.string text)])),p))
    (hok : ∀ u v,W.cell? ⟨g,0,none⟩ = some (.iface u v) → Value.okWide Tryz.prog W .any 0 u v) :
    ∃ r o s,cs = #[.iface 450 (.pointer (some ⟨r,o,none⟩))] ∧ W.cell? ⟨r,o,none⟩ = some (.string s) ∧ s.data.toList = text ∧ p = [.cell r o] := by
  obtain ⟨a,s,h1,h2,h3,_,h5⟩ := errorString_of_trod (enc := fun _ => ()) (P := Tryz.prog) Tryz.underlying25 row450 Tryz.underlying450 Tryz.underlying471 rfl rfl Tryz.underlying9 (by kernel_rfl) (by kernel_rfl) hd (fun u v e => hok u v (by
    rw [World.var?_cell hg hv 0,← Array.getElem?_toList,e]; rfl))
  obtain ⟨r,o,sp⟩ := a
  have hsp : sp = none := by
    unfold World.cell? at h2
    split at h2
    · cases sp with
      | none => rfl
      | some k => simp at h2
    · cases h2
  subst hsp
  refine ⟨r,o,s,?_,h2,h3,by rw [h5]; rfl⟩
  obtain ⟨l⟩ := cs
  simp only at h1
  rw [h1]

def laid9 : List (String × DataW Unit) := [("errors.errorType",Rows.laid_errors_errorType),("warrant/load.ErrProgram",Rows.laid_warrant_load_ErrProgram),("warrant/load.ErrCFG",Rows.laid_warrant_load_ErrCFG),("warrant/load.ErrCert",Rows.laid_warrant_load_ErrCert),("warrant/load.ErrNotInductive",Rows.laid_warrant_load_ErrNotInductive),("warrant/load.ErrUnsafe",Rows.laid_warrant_load_ErrUnsafe),("warrant/load.ErrRank",Rows.laid_warrant_load_ErrRank),("warrant/load.ErrBound",Rows.laid_warrant_load_ErrBound),("warrant/load.ErrInput",Rows.laid_warrant_load_ErrInput)]
def laid8 : List (String × DataW Unit) := [("warrant/load.ErrProgram",Rows.laid_warrant_load_ErrProgram),("warrant/load.ErrCFG",Rows.laid_warrant_load_ErrCFG),("warrant/load.ErrCert",Rows.laid_warrant_load_ErrCert),("warrant/load.ErrNotInductive",Rows.laid_warrant_load_ErrNotInductive),("warrant/load.ErrUnsafe",Rows.laid_warrant_load_ErrUnsafe),("warrant/load.ErrRank",Rows.laid_warrant_load_ErrRank),("warrant/load.ErrBound",Rows.laid_warrant_load_ErrBound),("warrant/load.ErrInput",Rows.laid_warrant_load_ErrInput)]
def laid1 : List (String × DataW Unit) := [("errors.errorType",Rows.laid_errors_errorType)]
theorem fil8 : (laid9.filter fun x => x.2.handleName?.isNone) = laid8 := by kernel_rfl
theorem fil1 : (laid9.filter fun x => x.2.handleName?.isSome) = laid1 := by kernel_rfl

/-- what the listed variables are: eight errors of cells of their own,and the handle of the type 'error' -/
structure Sents (W : World) (A : Nat → Nat × Nat) : Prop where
  row : ∀ i,i < 8 → W.heap[i]? = some (.cells #[.iface 450 (.pointer (some ⟨(A i).1,(A i).2,none⟩))] 25 (0,0))
  typ : W.heap[8]? = some (.cells #[.iface 69 (.agg #[.pointer (some ⟨9,25,none⟩)])] 37 (0,0))
  cell : ∀ i,i < 8 → ∃ cs e,W.heap[(A i).1]? = some (.cells cs e (0,0)) ∧ cs[(A i).2]? = some (.string ⟨((txs i).map UInt8.ofNat).toArray⟩)
  apart : ∀ i j,i < 8 → j < 8 → A i = A j → i = j

theorem Sents.off {W : World} {A : Nat → Nat × Nat} (k : Sents W A) {i j : Nat} (hi : i < 8) (hj : j < 9) : (A i).1 ≠ j := by
  intro e
  obtain ⟨cs,t,h1,h2⟩ := k.cell i hi
  rw [e] at h1
  rcases Nat.lt_or_ge j 8 with h | h
  · rw [k.row j h] at h1
    obtain ⟨rfl,_,_⟩ := Obj.cells.inj (Option.some.inj h1)
    rcases Nat.eq_zero_or_pos (A i).2 with h0 | h0
    · rw [h0] at h2; simp at h2
    · rw [Array.getElem?_eq_none (by simp; omega)] at h2; simp at h2
  · obtain rfl : j = 8 := by omega
    rw [k.typ] at h1
    obtain ⟨rfl,_,_⟩ := Obj.cells.inj (Option.some.inj h1)
    rcases Nat.eq_zero_or_pos (A i).2 with h0 | h0
    · rw [h0] at h2; simp at h2
    · rw [Array.getElem?_eq_none (by simp; omega)] at h2; simp at h2

abbrev Rows1 (W : World) : Prop := ∀ g zero t,g < Tryz.prog.globals.size → (((begin Tryz.prog (fun _ _ => 0) default).world.heap[g]?).bind Obj.row?) = some (zero,t) →
    ∃ cs,W.heap[g]? = some (.cells cs t (0,0)) ∧ cs.size = zero.size ∧ (Tryz.prog.buildable t = true → Row.ok Tryz.prog W .any 0 t cs)
theorem nine : Tryz.prog.globals.size = 9 := by kernel_rfl
theorem row_of {W : World} (hW : Rows1 W) {n : String} {g t : Nat} {cs : Array Value} (hg : Tryz.prog.globalNamed n = some g) (h9 : g < 9)
    (hr : ((((begin Tryz.prog (fun _ _ => 0) default).world.heap[g]?).bind Obj.row?).map fun x => x.2) = some t) (hv : W.var? Tryz.prog n = some cs) : W.heap[g]? = some (.cells cs t (0,0)) := by
  obtain ⟨⟨z,t'⟩,h1,rfl⟩ := Option.map_eq_some_iff.1 hr
  obtain ⟨cs',h2,_⟩ := hW g z t' (by rw [nine]; exact h9) h1
  unfold World.var? at hv
  rw [hg] at hv
  simp only [Option.bind_some,h2,Option.some.injEq] at hv
  subst hv
  exact h2
theorem gn0 : Tryz.prog.globalNamed "warrant/load.ErrInput" = some 0 := by kernel_rfl
theorem gt0 : (Tryz.prog.globals[0]?).map (·.type) = some 25 := by kernel_rfl
theorem gr0 : ((((begin Tryz.prog (fun _ _ => 0) default).world.heap[0]?).bind Obj.row?).map fun x => x.2) = some 25 := by kernel_rfl
theorem gn1 : Tryz.prog.globalNamed "warrant/load.ErrProgram" = some 1 := by kernel_rfl
theorem gt1 : (Tryz.prog.globals[1]?).map (·.type) = some 25 := by kernel_rfl
theorem gr1 : ((((begin Tryz.prog (fun _ _ => 0) default).world.heap[1]?).bind Obj.row?).map fun x => x.2) = some 25 := by kernel_rfl
theorem gn2 : Tryz.prog.globalNamed "warrant/load.ErrCFG" = some 2 := by kernel_rfl
theorem gt2 : (Tryz.prog.globals[2]?).map (·.type) = some 25 := by kernel_rfl
theorem gr2 : ((((begin Tryz.prog (fun _ _ => 0) default).world.heap[2]?).bind Obj.row?).map fun x => x.2) = some 25 := by kernel_rfl
theorem gn3 : Tryz.prog.globalNamed "warrant/load.ErrCert" = some 3 := by kernel_rfl
theorem gt3 : (Tryz.prog.globals[3]?).map (·.type) = some 25 := by kernel_rfl
theorem gr3 : ((((begin Tryz.prog (fun _ _ => 0) default).world.heap[3]?).bind Obj.row?).map fun x => x.2) = some 25 := by kernel_rfl
theorem gn4 : Tryz.prog.globalNamed "warrant/load.ErrNotInductive" = some 4 := by kernel_rfl
theorem gt4 : (Tryz.prog.globals[4]?).map (·.type) = some 25 := by kernel_rfl
theorem gr4 : ((((begin Tryz.prog (fun _ _ => 0) default).world.heap[4]?).bind Obj.row?).map fun x => x.2) = some 25 := by kernel_rfl
theorem gn5 : Tryz.prog.globalNamed "warrant/load.ErrUnsafe" = some 5 := by kernel_rfl
theorem gt5 : (Tryz.prog.globals[5]?).map (·.type) = some 25 := by kernel_rfl
theorem gr5 : ((((begin Tryz.prog (fun _ _ => 0) default).world.heap[5]?).bind Obj.row?).map fun x => x.2) = some 25 := by kernel_rfl
theorem gn6 : Tryz.prog.globalNamed "warrant/load.ErrRank" = some 6 := by kernel_rfl
theorem gt6 : (Tryz.prog.globals[6]?).map (·.type) = some 25 := by kernel_rfl
theorem gr6 : ((((begin Tryz.prog (fun _ _ => 0) default).world.heap[6]?).bind Obj.row?).map fun x => x.2) = some 25 := by kernel_rfl
theorem gn7 : Tryz.prog.globalNamed "warrant/load.ErrBound" = some 7 := by kernel_rfl
theorem gt7 : (Tryz.prog.globals[7]?).map (·.type) = some 25 := by kernel_rfl
theorem gr7 : ((((begin Tryz.prog (fun _ _ => 0) default).world.heap[7]?).bind Obj.row?).map fun x => x.2) = some 25 := by kernel_rfl
theorem gn8 : Tryz.prog.globalNamed "errors.errorType" = some 8 := by kernel_rfl
theorem gr8 : ((((begin Tryz.prog (fun _ _ => 0) default).world.heap[8]?).bind Obj.row?).map fun x => x.2) = some 37 := by kernel_rfl
theorem rt69 : (Tryz.prog.cutTypes.find? (·.1 == "internal/reflectlite.rtype")).map (·.2) = some 69 := by kernel_rfl
theorem tsize : Tryz.prog.types.size = 487 := by kernel_rfl
theorem oneRow : ((List.range 487).filter fun t => Tryz.prog.rowNamed t [101,114,114,111,114]) = [25] := by kernel_rfl
theorem hand25 : typeHandle Tryz.prog 25 = .pointer (some ⟨9,25,none⟩) := by kernel_rfl

theorem typ_of {W : World} (hW : Rows1 W) (h : handlesMet Tryz.prog laid1 W) : W.heap[8]? = some (.cells #[.iface 69 (.agg #[.pointer (some ⟨9,25,none⟩)])] 37 (0,0)) := by
  obtain ⟨name,u,ty,e1,e2,e3,e4,e5⟩ := h _ (List.mem_singleton.2 rfl)
  have en : name = [101,114,114,111,114] := (Option.some.inj e1).symm
  subst en
  obtain rfl := Option.some.inj (rt69.symm.trans e2)
  have hm : ty ∈ (List.range 487).filter fun t => Tryz.prog.rowNamed t [101,114,114,111,114] := List.mem_filter.2 ⟨List.mem_range.2 (by rw [← tsize]; exact e3),e4⟩
  rw [oneRow] at hm
  obtain rfl := List.mem_singleton.1 hm
  rw [hand25] at e5
  exact row_of hW gn8 (by omega) gr8 e5

theorem bytes_eq {s : ByteArray} {l : List Nat} (h : s.data.toList = l.map UInt8.ofNat) : s = ⟨(l.map UInt8.ofNat).toArray⟩ := by
  obtain ⟨⟨d⟩⟩ := s
  simp only at h
  rw [h]

theorem nd_step {a q : List MemPlace} {x : MemPlace} (h : (a ++ [x] ++ q).Nodup) : x ∉ q ∧ q.Nodup := by
  rw [List.nodup_append] at h
  exact ⟨fun hx => h.2.2 x (List.mem_append_right _ (List.mem_singleton.2 rfl)) x hx rfl,h.2.1⟩
theorem zero_mem {W : World} {n : String} {g : Nat} {cs : Array Value} {v : Value} (hg : Tryz.prog.globalNamed n = some g) (hv : W.var? Tryz.prog n = some cs) (e : W.cell? ⟨g,0,none⟩ = some v) : MemPlace.cell g 0 ∈ MemPlace.row ⟨g,0,none⟩ cs.size := by
  rw [World.var?_cell hg hv 0] at e
  have hlt : 0 < cs.size := by
    rcases Nat.eq_zero_or_pos cs.size with h | h
    · rw [Array.getElem?_eq_none (by omega)] at e; simp at e
    · exact h
  exact List.mem_map.2 ⟨0,List.mem_range.2 hlt,rfl⟩
def pick8 (a b c d e f g h : Nat × Nat) : Nat → Nat × Nat
  | 0 => a
  | 1 => b
  | 2 => c
  | 3 => d
  | 4 => e
  | 5 => f
  | 6 => g
  | _ => h

/-- WHAT THE CONDITION GIVES -/
theorem sents_of {W : World} (hW : Rows1 W) (h : laidMetH Tryz.prog laid9 W) : ∃ A,Sents W A := by
  rw [laidMetH_iff,fil8,fil1] at h
  obtain ⟨⟨ps,hl,hnd,hrows⟩,hh⟩ := h
  obtain ⟨g1,t1,cs1,fu1,p1,q1,a1,b1,c1,d1,l1,e1⟩ := hl
  obtain rfl := Option.some.inj (gn1.symm.trans a1)
  obtain rfl := Option.some.inj (gt1.symm.trans b1)
  obtain ⟨g2,t2,cs2,fu2,p2,q2,a2,b2,c2,d2,l2,e2⟩ := l1
  obtain rfl := Option.some.inj (gn2.symm.trans a2)
  obtain rfl := Option.some.inj (gt2.symm.trans b2)
  obtain ⟨g3,t3,cs3,fu3,p3,q3,a3,b3,c3,d3,l3,e3⟩ := l2
  obtain rfl := Option.some.inj (gn3.symm.trans a3)
  obtain rfl := Option.some.inj (gt3.symm.trans b3)
  obtain ⟨g4,t4,cs4,fu4,p4,q4,a4,b4,c4,d4,l4,e4⟩ := l3
  obtain rfl := Option.some.inj (gn4.symm.trans a4)
  obtain rfl := Option.some.inj (gt4.symm.trans b4)
  obtain ⟨g5,t5,cs5,fu5,p5,q5,a5,b5,c5,d5,l5,e5⟩ := l4
  obtain rfl := Option.some.inj (gn5.symm.trans a5)
  obtain rfl := Option.some.inj (gt5.symm.trans b5)
  obtain ⟨g6,t6,cs6,fu6,p6,q6,a6,b6,c6,d6,l6,e6⟩ := l5
  obtain rfl := Option.some.inj (gn6.symm.trans a6)
  obtain rfl := Option.some.inj (gt6.symm.trans b6)
  obtain ⟨g7,t7,cs7,fu7,p7,q7,a7,b7,c7,d7,l7,e7⟩ := l6
  obtain rfl := Option.some.inj (gn7.symm.trans a7)
  obtain rfl := Option.some.inj (gt7.symm.trans b7)
  obtain ⟨g0,t0,cs0,fu0,p0,q0,a0,b0,c0,d0,l0,e0⟩ := l7
  obtain rfl := Option.some.inj (gn0.symm.trans a0)
  obtain rfl := Option.some.inj (gt0.symm.trans b0)
  have lz : q0 = [] := l0
  have S0 : ∀ x,x ∈ ps → x ∈ ps := fun x h => h
  have S1 : ∀ x,x ∈ q1 → x ∈ ps := fun x h => S0 x (by rw [e1]; exact List.mem_append_right _ h)
  obtain ⟨r1,o1,s1,x1,y1,z1,v1⟩ := sent_of (text := (txs 1).map UInt8.ofNat) gn1 c1 d1 (fun u v e => (hrows 1 0 (S0 _ (by
    rw [e1]
    exact List.mem_append_left _ (List.mem_append_left _ (zero_mem gn1 c1 e))))).2 u v e)
  have rw1 := row_of hW gn1 (by omega) gr1 c1
  rw [x1] at rw1
  obtain ⟨u1,f1,h1⟩ := (hrows r1 o1 (S0 _ (by rw [e1,v1]; exact List.mem_append_left _ (List.mem_append_right _ (List.mem_singleton.2 rfl))))).1
  have k1 : u1[o1]? = some (.string ⟨((txs 1).map UInt8.ofNat).toArray⟩) := by
    rw [← bytes_eq z1]
    simpa [World.cell?,h1] using y1
  have S2 : ∀ x,x ∈ q2 → x ∈ ps := fun x h => S1 x (by rw [e2]; exact List.mem_append_right _ h)
  obtain ⟨r2,o2,s2,x2,y2,z2,v2⟩ := sent_of (text := (txs 2).map UInt8.ofNat) gn2 c2 d2 (fun u v e => (hrows 2 0 (S1 _ (by
    rw [e2]
    exact List.mem_append_left _ (List.mem_append_left _ (zero_mem gn2 c2 e))))).2 u v e)
  have rw2 := row_of hW gn2 (by omega) gr2 c2
  rw [x2] at rw2
  obtain ⟨u2,f2,h2⟩ := (hrows r2 o2 (S1 _ (by rw [e2,v2]; exact List.mem_append_left _ (List.mem_append_right _ (List.mem_singleton.2 rfl))))).1
  have k2 : u2[o2]? = some (.string ⟨((txs 2).map UInt8.ofNat).toArray⟩) := by
    rw [← bytes_eq z2]
    simpa [World.cell?,h2] using y2
  have S3 : ∀ x,x ∈ q3 → x ∈ ps := fun x h => S2 x (by rw [e3]; exact List.mem_append_right _ h)
  obtain ⟨r3,o3,s3,x3,y3,z3,v3⟩ := sent_of (text := (txs 3).map UInt8.ofNat) gn3 c3 d3 (fun u v e => (hrows 3 0 (S2 _ (by
    rw [e3]
    exact List.mem_append_left _ (List.mem_append_left _ (zero_mem gn3 c3 e))))).2 u v e)
  have rw3 := row_of hW gn3 (by omega) gr3 c3
  rw [x3] at rw3
  obtain ⟨u3,f3,h3⟩ := (hrows r3 o3 (S2 _ (by rw [e3,v3]; exact List.mem_append_left _ (List.mem_append_right _ (List.mem_singleton.2 rfl))))).1
  have k3 : u3[o3]? = some (.string ⟨((txs 3).map UInt8.ofNat).toArray⟩) := by
    rw [← bytes_eq z3]
    simpa [World.cell?,h3] using y3
  have S4 : ∀ x,x ∈ q4 → x ∈ ps := fun x h => S3 x (by rw [e4]; exact List.mem_append_right _ h)
  obtain ⟨r4,o4,s4,x4,y4,z4,v4⟩ := sent_of (text := (txs 4).map UInt8.ofNat) gn4 c4 d4 (fun u v e => (hrows 4 0 (S3 _ (by
    rw [e4]
    exact List.mem_append_left _ (List.mem_append_left _ (zero_mem gn4 c4 e))))).2 u v e)
  have rw4 := row_of hW gn4 (by omega) gr4 c4
  rw [x4] at rw4
  obtain ⟨u4,f4,h4⟩ := (hrows r4 o4 (S3 _ (by rw [e4,v4]; exact List.mem_append_left _ (List.mem_append_right _ (List.mem_singleton.2 rfl))))).1
  have k4 : u4[o4]? = some (.string ⟨((txs 4).map UInt8.ofNat).toArray⟩) := by
    rw [← bytes_eq z4]
    simpa [World.cell?,h4] using y4
  have S5 : ∀ x,x ∈ q5 → x ∈ ps := fun x h => S4 x (by rw [e5]; exact List.mem_append_right _ h)
  obtain ⟨r5,o5,s5,x5,y5,z5,v5⟩ := sent_of (text := (txs 5).map UInt8.ofNat) gn5 c5 d5 (fun u v e => (hrows 5 0 (S4 _ (by
    rw [e5]
    exact List.mem_append_left _ (List.mem_append_left _ (zero_mem gn5 c5 e))))).2 u v e)
  have rw5 := row_of hW gn5 (by omega) gr5 c5
  rw [x5] at rw5
  obtain ⟨u5,f5,h5⟩ := (hrows r5 o5 (S4 _ (by rw [e5,v5]; exact List.mem_append_left _ (List.mem_append_right _ (List.mem_singleton.2 rfl))))).1
  have k5 : u5[o5]? = some (.string ⟨((txs 5).map UInt8.ofNat).toArray⟩) := by
    rw [← bytes_eq z5]
    simpa [World.cell?,h5] using y5
  have S6 : ∀ x,x ∈ q6 → x ∈ ps := fun x h => S5 x (by rw [e6]; exact List.mem_append_right _ h)
  obtain ⟨r6,o6,s6,x6,y6,z6,v6⟩ := sent_of (text := (txs 6).map UInt8.ofNat) gn6 c6 d6 (fun u v e => (hrows 6 0 (S5 _ (by
    rw [e6]
    exact List.mem_append_left _ (List.mem_append_left _ (zero_mem gn6 c6 e))))).2 u v e)
  have rw6 := row_of hW gn6 (by omega) gr6 c6
  rw [x6] at rw6
  obtain ⟨u6,f6,h6⟩ := (hrows r6 o6 (S5 _ (by rw [e6,v6]; exact List.mem_append_left _ (List.mem_append_right _ (List.mem_singleton.2 rfl))))).1
  have k6 : u6[o6]? = some (.string ⟨((txs 6).map UInt8.ofNat).toArray⟩) := by
    rw [← bytes_eq z6]
    simpa [World.cell?,h6] using y6
  have S7 : ∀ x,x ∈ q7 → x ∈ ps := fun x h => S6 x (by rw [e7]; exact List.mem_append_right _ h)
  obtain ⟨r7,o7,s7,x7,y7,z7,v7⟩ := sent_of (text := (txs 7).map UInt8.ofNat) gn7 c7 d7 (fun u v e => (hrows 7 0 (S6 _ (by
    rw [e7]
    exact List.mem_append_left _ (List.mem_append_left _ (zero_mem gn7 c7 e))))).2 u v e)
  have rw7 := row_of hW gn7 (by omega) gr7 c7
  rw [x7] at rw7
  obtain ⟨u7,f7,h7⟩ := (hrows r7 o7 (S6 _ (by rw [e7,v7]; exact List.mem_append_left _ (List.mem_append_right _ (List.mem_singleton.2 rfl))))).1
  have k7 : u7[o7]? = some (.string ⟨((txs 7).map UInt8.ofNat).toArray⟩) := by
    rw [← bytes_eq z7]
    simpa [World.cell?,h7] using y7
  have S8 : ∀ x,x ∈ q0 → x ∈ ps := fun x h => S7 x (by rw [e0]; exact List.mem_append_right _ h)
  obtain ⟨r0,o0,s0,x0,y0,z0,v0⟩ := sent_of (text := (txs 0).map UInt8.ofNat) gn0 c0 d0 (fun u v e => (hrows 0 0 (S7 _ (by
    rw [e0]
    exact List.mem_append_left _ (List.mem_append_left _ (zero_mem gn0 c0 e))))).2 u v e)
  have rw0 := row_of hW gn0 (by omega) gr0 c0
  rw [x0] at rw0
  obtain ⟨u0,f0,h0⟩ := (hrows r0 o0 (S7 _ (by rw [e0,v0]; exact List.mem_append_left _ (List.mem_append_right _ (List.mem_singleton.2 rfl))))).1
  have k0 : u0[o0]? = some (.string ⟨((txs 0).map UInt8.ofNat).toArray⟩) := by
    rw [← bytes_eq z0]
    simpa [World.cell?,h0] using y0
  have n0 := hnd
  rw [e1,v1] at n0
  obtain ⟨m1,n1⟩ := nd_step n0
  rw [e2,v2] at n1
  obtain ⟨m2,n2⟩ := nd_step n1
  rw [e3,v3] at n2
  obtain ⟨m3,n3⟩ := nd_step n2
  rw [e4,v4] at n3
  obtain ⟨m4,n4⟩ := nd_step n3
  rw [e5,v5] at n4
  obtain ⟨m5,n5⟩ := nd_step n4
  rw [e6,v6] at n5
  obtain ⟨m6,n6⟩ := nd_step n5
  rw [e7,v7] at n6
  obtain ⟨m7,n7⟩ := nd_step n6
  rw [e0,v0] at n7
  obtain ⟨m0,n8⟩ := nd_step n7
  have i2x1 : MemPlace.cell r2 o2 ∈ q1 := by rw [e2,v2]; exact List.mem_append_left _ (List.mem_append_right _ (List.mem_singleton.2 rfl))
  have j2x1 : (r2,o2) ≠ (r1,o1) := fun e => m1 (by rw [← (Prod.mk.inj e).1,← (Prod.mk.inj e).2]; exact i2x1)
  have i3x2 : MemPlace.cell r3 o3 ∈ q2 := by rw [e3,v3]; exact List.mem_append_left _ (List.mem_append_right _ (List.mem_singleton.2 rfl))
  have j3x2 : (r3,o3) ≠ (r2,o2) := fun e => m2 (by rw [← (Prod.mk.inj e).1,← (Prod.mk.inj e).2]; exact i3x2)
  have i3x1 : MemPlace.cell r3 o3 ∈ q1 := by rw [e2]; exact List.mem_append_right _ i3x2
  have j3x1 : (r3,o3) ≠ (r1,o1) := fun e => m1 (by rw [← (Prod.mk.inj e).1,← (Prod.mk.inj e).2]; exact i3x1)
  have i4x3 : MemPlace.cell r4 o4 ∈ q3 := by rw [e4,v4]; exact List.mem_append_left _ (List.mem_append_right _ (List.mem_singleton.2 rfl))
  have j4x3 : (r4,o4) ≠ (r3,o3) := fun e => m3 (by rw [← (Prod.mk.inj e).1,← (Prod.mk.inj e).2]; exact i4x3)
  have i4x2 : MemPlace.cell r4 o4 ∈ q2 := by rw [e3]; exact List.mem_append_right _ i4x3
  have j4x2 : (r4,o4) ≠ (r2,o2) := fun e => m2 (by rw [← (Prod.mk.inj e).1,← (Prod.mk.inj e).2]; exact i4x2)
  have i4x1 : MemPlace.cell r4 o4 ∈ q1 := by rw [e2]; exact List.mem_append_right _ i4x2
  have j4x1 : (r4,o4) ≠ (r1,o1) := fun e => m1 (by rw [← (Prod.mk.inj e).1,← (Prod.mk.inj e).2]; exact i4x1)
  have i5x4 : MemPlace.cell r5 o5 ∈ q4 := by rw [e5,v5]; exact List.mem_append_left _ (List.mem_append_right _ (List.mem_singleton.2 rfl))
  have j5x4 : (r5,o5) ≠ (r4,o4) := fun e => m4 (by rw [← (Prod.mk.inj e).1,← (Prod.mk.inj e).2]; exact i5x4)
  have i5x3 : MemPlace.cell r5 o5 ∈ q3 := by rw [e4]; exact List.mem_append_right _ i5x4
  have j5x3 : (r5,o5) ≠ (r3,o3) := fun e => m3 (by rw [← (Prod.mk.inj e).1,← (Prod.mk.inj e).2]; exact i5x3)
  have i5x2 : MemPlace.cell r5 o5 ∈ q2 := by rw [e3]; exact List.mem_append_right _ i5x3
  have j5x2 : (r5,o5) ≠ (r2,o2) := fun e => m2 (by rw [← (Prod.mk.inj e).1,← (Prod.mk.inj e).2]; exact i5x2)
  have i5x1 : MemPlace.cell r5 o5 ∈ q1 := by rw [e2]; exact List.mem_append_right _ i5x2
  have j5x1 : (r5,o5) ≠ (r1,o1) := fun e => m1 (by rw [← (Prod.mk.inj e).1,← (Prod.mk.inj e).2]; exact i5x1)
  have i6x5 : MemPlace.cell r6 o6 ∈ q5 := by rw [e6,v6]; exact List.mem_append_left _ (List.mem_append_right _ (List.mem_singleton.2 rfl))
  have j6x5 : (r6,o6) ≠ (r5,o5) := fun e => m5 (by rw [← (Prod.mk.inj e).1,← (Prod.mk.inj e).2]; exact i6x5)
  have i6x4 : MemPlace.cell r6 o6 ∈ q4 := by rw [e5]; exact List.mem_append_right _ i6x5
  have j6x4 : (r6,o6) ≠ (r4,o4) := fun e => m4 (by rw [← (Prod.mk.inj e).1,← (Prod.mk.inj e).2]; exact i6x4)
  have i6x3 : MemPlace.cell r6 o6 ∈ q3 := by rw [e4]; exact List.mem_append_right _ i6x4
  have j6x3 : (r6,o6) ≠ (r3,o3) := fun e => m3 (by rw [← (Prod.mk.inj e).1,← (Prod.mk.inj e).2]; exact i6x3)
  have i6x2 : MemPlace.cell r6 o6 ∈ q2 := by rw [e3]; exact List.mem_append_right _ i6x3
  have j6x2 : (r6,o6) ≠ (r2,o2) := fun e => m2 (by rw [← (Prod.mk.inj e).1,← (Prod.mk.inj e).2]; exact i6x2)
  have i6x1 : MemPlace.cell r6 o6 ∈ q1 := by rw [e2]; exact List.mem_append_right _ i6x2
  have j6x1 : (r6,o6) ≠ (r1,o1) := fun e => m1 (by rw [← (Prod.mk.inj e).1,← (Prod.mk.inj e).2]; exact i6x1)
  have i7x6 : MemPlace.cell r7 o7 ∈ q6 := by rw [e7,v7]; exact List.mem_append_left _ (List.mem_append_right _ (List.mem_singleton.2 rfl))
  have j7x6 : (r7,o7) ≠ (r6,o6) := fun e => m6 (by rw [← (Prod.mk.inj e).1,← (Prod.mk.inj e).2]; exact i7x6)
  have i7x5 : MemPlace.cell r7 o7 ∈ q5 := by rw [e6]; exact List.mem_append_right _ i7x6
  have j7x5 : (r7,o7) ≠ (r5,o5) := fun e => m5 (by rw [← (Prod.mk.inj e).1,← (Prod.mk.inj e).2]; exact i7x5)
  have i7x4 : MemPlace.cell r7 o7 ∈ q4 := by rw [e5]; exact List.mem_append_right _ i7x5
  have j7x4 : (r7,o7) ≠ (r4,o4) := fun e => m4 (by rw [← (Prod.mk.inj e).1,← (Prod.mk.inj e).2]; exact i7x4)
  have i7x3 : MemPlace.cell r7 o7 ∈ q3 := by rw [e4]; exact List.mem_append_right _ i7x4
  have j7x3 : (r7,o7) ≠ (r3,o3) := fun e => m3 (by rw [← (Prod.mk.inj e).1,← (Prod.mk.inj e).2]; exact i7x3)
  have i7x2 : MemPlace.cell r7 o7 ∈ q2 := by rw [e3]; exact List.mem_append_right _ i7x3
  have j7x2 : (r7,o7) ≠ (r2,o2) := fun e => m2 (by rw [← (Prod.mk.inj e).1,← (Prod.mk.inj e).2]; exact i7x2)
  have i7x1 : MemPlace.cell r7 o7 ∈ q1 := by rw [e2]; exact List.mem_append_right _ i7x2
  have j7x1 : (r7,o7) ≠ (r1,o1) := fun e => m1 (by rw [← (Prod.mk.inj e).1,← (Prod.mk.inj e).2]; exact i7x1)
  have i0x7 : MemPlace.cell r0 o0 ∈ q7 := by rw [e0,v0]; exact List.mem_append_left _ (List.mem_append_right _ (List.mem_singleton.2 rfl))
  have j0x7 : (r0,o0) ≠ (r7,o7) := fun e => m7 (by rw [← (Prod.mk.inj e).1,← (Prod.mk.inj e).2]; exact i0x7)
  have i0x6 : MemPlace.cell r0 o0 ∈ q6 := by rw [e7]; exact List.mem_append_right _ i0x7
  have j0x6 : (r0,o0) ≠ (r6,o6) := fun e => m6 (by rw [← (Prod.mk.inj e).1,← (Prod.mk.inj e).2]; exact i0x6)
  have i0x5 : MemPlace.cell r0 o0 ∈ q5 := by rw [e6]; exact List.mem_append_right _ i0x6
  have j0x5 : (r0,o0) ≠ (r5,o5) := fun e => m5 (by rw [← (Prod.mk.inj e).1,← (Prod.mk.inj e).2]; exact i0x5)
  have i0x4 : MemPlace.cell r0 o0 ∈ q4 := by rw [e5]; exact List.mem_append_right _ i0x5
  have j0x4 : (r0,o0) ≠ (r4,o4) := fun e => m4 (by rw [← (Prod.mk.inj e).1,← (Prod.mk.inj e).2]; exact i0x4)
  have i0x3 : MemPlace.cell r0 o0 ∈ q3 := by rw [e4]; exact List.mem_append_right _ i0x4
  have j0x3 : (r0,o0) ≠ (r3,o3) := fun e => m3 (by rw [← (Prod.mk.inj e).1,← (Prod.mk.inj e).2]; exact i0x3)
  have i0x2 : MemPlace.cell r0 o0 ∈ q2 := by rw [e3]; exact List.mem_append_right _ i0x3
  have j0x2 : (r0,o0) ≠ (r2,o2) := fun e => m2 (by rw [← (Prod.mk.inj e).1,← (Prod.mk.inj e).2]; exact i0x2)
  have i0x1 : MemPlace.cell r0 o0 ∈ q1 := by rw [e2]; exact List.mem_append_right _ i0x2
  have j0x1 : (r0,o0) ≠ (r1,o1) := fun e => m1 (by rw [← (Prod.mk.inj e).1,← (Prod.mk.inj e).2]; exact i0x1)
  refine ⟨pick8 (r0,o0) (r1,o1) (r2,o2) (r3,o3) (r4,o4) (r5,o5) (r6,o6) (r7,o7),fun i hi => ?_,typ_of hW hh,fun i hi => ?_,fun i j hi hj e => ?_⟩
  · rcases (show i = 0 ∨ i = 1 ∨ i = 2 ∨ i = 3 ∨ i = 4 ∨ i = 5 ∨ i = 6 ∨ i = 7 by omega) with rfl | rfl | rfl | rfl | rfl | rfl | rfl | rfl
    · exact rw0
    · exact rw1
    · exact rw2
    · exact rw3
    · exact rw4
    · exact rw5
    · exact rw6
    · exact rw7
  · rcases (show i = 0 ∨ i = 1 ∨ i = 2 ∨ i = 3 ∨ i = 4 ∨ i = 5 ∨ i = 6 ∨ i = 7 by omega) with rfl | rfl | rfl | rfl | rfl | rfl | rfl | rfl
    · exact ⟨u0,f0,h0,k0⟩
    · exact ⟨u1,f1,h1,k1⟩
    · exact ⟨u2,f2,h2,k2⟩
    · exact ⟨u3,f3,h3,k3⟩
    · exact ⟨u4,f4,h4,k4⟩
    · exact ⟨u5,f5,h5,k5⟩
    · exact ⟨u6,f6,h6,k6⟩
    · exact ⟨u7,f7,h7,k7⟩
  · rcases (show i = 0 ∨ i = 1 ∨ i = 2 ∨ i = 3 ∨ i = 4 ∨ i = 5 ∨ i = 6 ∨ i = 7 by omega) with rfl | rfl | rfl | rfl | rfl | rfl | rfl | rfl
    · rcases (show j = 0 ∨ j = 1 ∨ j = 2 ∨ j = 3 ∨ j = 4 ∨ j = 5 ∨ j = 6 ∨ j = 7 by omega) with rfl | rfl | rfl | rfl | rfl | rfl | rfl | rfl
      · rfl
      · exact absurd e j0x1
      · exact absurd e j0x2
      · exact absurd e j0x3
      · exact absurd e j0x4
      · exact absurd e j0x5
      · exact absurd e j0x6
      · exact absurd e j0x7
    · rcases (show j = 0 ∨ j = 1 ∨ j = 2 ∨ j = 3 ∨ j = 4 ∨ j = 5 ∨ j = 6 ∨ j = 7 by omega) with rfl | rfl | rfl | rfl | rfl | rfl | rfl | rfl
      · exact absurd e.symm j0x1
      · rfl
      · exact absurd e.symm j2x1
      · exact absurd e.symm j3x1
      · exact absurd e.symm j4x1
      · exact absurd e.symm j5x1
      · exact absurd e.symm j6x1
      · exact absurd e.symm j7x1
    · rcases (show j = 0 ∨ j = 1 ∨ j = 2 ∨ j = 3 ∨ j = 4 ∨ j = 5 ∨ j = 6 ∨ j = 7 by omega) with rfl | rfl | rfl | rfl | rfl | rfl | rfl | rfl
      · exact absurd e.symm j0x2
      · exact absurd e j2x1
      · rfl
      · exact absurd e.symm j3x2
      · exact absurd e.symm j4x2
      · exact absurd e.symm j5x2
      · exact absurd e.symm j6x2
      · exact absurd e.symm j7x2
    · rcases (show j = 0 ∨ j = 1 ∨ j = 2 ∨ j = 3 ∨ j = 4 ∨ j = 5 ∨ j = 6 ∨ j = 7 by omega) with rfl | rfl | rfl | rfl | rfl | rfl | rfl | rfl
      · exact absurd e.symm j0x3
      · exact absurd e j3x1
      · exact absurd e j3x2
      · rfl
      · exact absurd e.symm j4x3
      · exact absurd e.symm j5x3
      · exact absurd e.symm j6x3
      · exact absurd e.symm j7x3
    · rcases (show j = 0 ∨ j = 1 ∨ j = 2 ∨ j = 3 ∨ j = 4 ∨ j = 5 ∨ j = 6 ∨ j = 7 by omega) with rfl | rfl | rfl | rfl | rfl | rfl | rfl | rfl
      · exact absurd e.symm j0x4
      · exact absurd e j4x1
      · exact absurd e j4x2
      · exact absurd e j4x3
      · rfl
      · exact absurd e.symm j5x4
      · exact absurd e.symm j6x4
      · exact absurd e.symm j7x4
    · rcases (show j = 0 ∨ j = 1 ∨ j = 2 ∨ j = 3 ∨ j = 4 ∨ j = 5 ∨ j = 6 ∨ j = 7 by omega) with rfl | rfl | rfl | rfl | rfl | rfl | rfl | rfl
      · exact absurd e.symm j0x5
      · exact absurd e j5x1
      · exact absurd e j5x2
      · exact absurd e j5x3
      · exact absurd e j5x4
      · rfl
      · exact absurd e.symm j6x5
      · exact absurd e.symm j7x5
    · rcases (show j = 0 ∨ j = 1 ∨ j = 2 ∨ j = 3 ∨ j = 4 ∨ j = 5 ∨ j = 6 ∨ j = 7 by omega) with rfl | rfl | rfl | rfl | rfl | rfl | rfl | rfl
      · exact absurd e.symm j0x6
      · exact absurd e j6x1
      · exact absurd e j6x2
      · exact absurd e j6x3
      · exact absurd e j6x4
      · exact absurd e j6x5
      · rfl
      · exact absurd e.symm j7x6
    · rcases (show j = 0 ∨ j = 1 ∨ j = 2 ∨ j = 3 ∨ j = 4 ∨ j = 5 ∨ j = 6 ∨ j = 7 by omega) with rfl | rfl | rfl | rfl | rfl | rfl | rfl | rfl
      · exact absurd e.symm j0x7
      · exact absurd e j7x1
      · exact absurd e j7x2
      · exact absurd e j7x3
      · exact absurd e j7x4
      · exact absurd e j7x5
      · exact absurd e j7x6
      · rfl

/-! ## the relation of the start -/
def ρ0 (A : Nat → Nat × Nat) : Ren := fun b => if b < 9 then some (b,1) else if b = 9 then some (9,0) else if b < 18 then some (A (b - 10)) else none

theorem put_step {t : Tr SObj} {b k : Nat} {x o : SObj} (h : (t.put k (some x)).get b = some o) : (b = k ∧ o = x) ∨ t.get b = some o := by
  rw [get_put] at h
  split at h
  · rename_i e; exact .inl ⟨e.1,(Option.some.inj h).symm⟩
  · exact .inr h
theorem h0xget {b : Nat} {o : SObj} (h : h0.t.get b = some o) : (b < 8 ∧ o = gErr (10 + b)) ∨ (b = 8 ∧ o = gTyp) ∨ (10 ≤ b ∧ b < 18 ∧ o = gTxt (txs (b - 10))) := by
  have h : ((((((((((((((((((Tr.nil.put 0 (some (gErr 10))).put 1 (some (gErr 11))).put 2 (some (gErr 12))).put 3 (some (gErr 13))).put 4 (some (gErr 14))).put 5 (some (gErr 15))).put 6 (some (gErr 16))).put 7 (some (gErr 17))).put 8 (some gTyp)).put 10 (some (gTxt tx0))).put 11 (some (gTxt tx1))).put 12 (some (gTxt tx2))).put 13 (some (gTxt tx3))).put 14 (some (gTxt tx4))).put 15 (some (gTxt tx5))).put 16 (some (gTxt tx6))).put 17 (some (gTxt tx7)))).get b = some o := h
  rcases put_step h with ⟨rfl,rfl⟩ | h
  · exact .inr (.inr ⟨by omega,by omega,rfl⟩)
  rcases put_step h with ⟨rfl,rfl⟩ | h
  · exact .inr (.inr ⟨by omega,by omega,rfl⟩)
  rcases put_step h with ⟨rfl,rfl⟩ | h
  · exact .inr (.inr ⟨by omega,by omega,rfl⟩)
  rcases put_step h with ⟨rfl,rfl⟩ | h
  · exact .inr (.inr ⟨by omega,by omega,rfl⟩)
  rcases put_step h with ⟨rfl,rfl⟩ | h
  · exact .inr (.inr ⟨by omega,by omega,rfl⟩)
  rcases put_step h with ⟨rfl,rfl⟩ | h
  · exact .inr (.inr ⟨by omega,by omega,rfl⟩)
  rcases put_step h with ⟨rfl,rfl⟩ | h
  · exact .inr (.inr ⟨by omega,by omega,rfl⟩)
  rcases put_step h with ⟨rfl,rfl⟩ | h
  · exact .inr (.inr ⟨by omega,by omega,rfl⟩)
  rcases put_step h with ⟨rfl,rfl⟩ | h
  · exact .inr (.inl ⟨rfl,rfl⟩)
  rcases put_step h with ⟨rfl,rfl⟩ | h
  · exact .inl ⟨by omega,rfl⟩
  rcases put_step h with ⟨rfl,rfl⟩ | h
  · exact .inl ⟨by omega,rfl⟩
  rcases put_step h with ⟨rfl,rfl⟩ | h
  · exact .inl ⟨by omega,rfl⟩
  rcases put_step h with ⟨rfl,rfl⟩ | h
  · exact .inl ⟨by omega,rfl⟩
  rcases put_step h with ⟨rfl,rfl⟩ | h
  · exact .inl ⟨by omega,rfl⟩
  rcases put_step h with ⟨rfl,rfl⟩ | h
  · exact .inl ⟨by omega,rfl⟩
  rcases put_step h with ⟨rfl,rfl⟩ | h
  · exact .inl ⟨by omega,rfl⟩
  rcases put_step h with ⟨rfl,rfl⟩ | h
  · exact .inl ⟨by omega,rfl⟩
  rw [nil_get] at h
  simp at h

theorem one_row {E : Env} {ρ : Ren} {W : World} {g t κ : Nat} {v u : Value} (h : W.heap[g]? = some (.cells #[u] t (0,0))) (hv : VRel ρ v u) : ObjAt E ρ W g κ (.cells (Tr.ofL 33 [v]) 1 t false true) := by
  have at0 : ∀ (i : Nat) (x : Value),(Tr.ofL 33 [v]).get i = some x → i = 0 ∧ x = v := by
    intro i x hx
    have := ofL_get hx
    rcases Nat.eq_zero_or_pos i with hi | hi
    · subst hi; simp at this; exact ⟨rfl,this.symm⟩
    · rw [List.getElem?_eq_none (by simp; omega)] at this; simp at this
  refine ⟨1,?_,Nat.le_refl _,fun i x hi => ?_,fun _ => rfl,fun h => by simp at h,fun i x hi => ?_,fun h => by simp at h,fun h => by simp at h⟩
  · simp [World.shape?,h]
  · have := (at0 i x hi).1; omega
  · obtain ⟨rfl,rfl⟩ := at0 i x hi
    exact ⟨u,by simp [World.cell?,h],hv⟩

theorem start_rel {O : OT} {W : World} {A : Nat → Nat × Nat} (k : Sents W A) : WRel (Eo O) (ρ0 A) h0 W := by
  have at1 : ∀ b,b < 9 → ρ0 A b = some (b,1) := fun b hb => if_pos hb
  have at2 : ∀ i,i < 8 → ρ0 A (10 + i) = some (A i) := fun i hi => by
    unfold ρ0
    rw [if_neg (by omega),if_neg (by omega),if_pos (by omega),show 10 + i - 10 = i by omega]
  have gl : GRel (Eo O) (ρ0 A) := by
    intro g hg
    have : g < 10 := hg
    by_cases e : g < 9
    · exact ⟨1,at1 g e⟩
    · obtain rfl : g = 9 := by omega
      exact ⟨0,rfl⟩
  refine ⟨fun b p hp => ?_,fun b o ho => ?_,fun b b' o o' r κ κ' ho ho' e1 e2 hs => ?_,gl⟩
  · show b < 18
    unfold ρ0 at hp
    split at hp
    · omega
    · split at hp
      · omega
      · split at hp
        · assumption
        · simp at hp
  · rcases h0xget ho with ⟨hb,rfl⟩ | ⟨rfl,rfl⟩ | ⟨hb,hb2,rfl⟩
    · exact ⟨b,1,at1 b (by omega),one_row (k.row b hb) (.iface (.sptr (at2 b hb)))⟩
    · refine ⟨8,1,at1 8 (by omega),one_row k.typ (.iface (.agg rfl fun i v w hv hw => ?_))⟩
      match i,hv,hw with
      | 0,hv,hw =>
        obtain rfl := Option.some.inj hv
        obtain rfl := Option.some.inj hw
        exact .ptr (κ := 0) rfl
      | i + 1,hv,_ => simp at hv
    · obtain ⟨cs,e,h1,h2⟩ := k.cell (b - 10) (by omega)
      have := at2 (b - 10) (by omega)
      rw [show 10 + (b - 10) = b by omega] at this
      exact ⟨(A (b - 10)).1,(A (b - 10)).2,this,cs,e,_,h1,h2,.string _⟩
  · have low : ∀ b,b < 9 → ∀ r κ,ρ0 A b = some (r,κ) → r = b := fun b hb r κ h => by
      rw [at1 b hb] at h; simp at h; exact h.1.symm
    have hi : ∀ b,10 ≤ b → b < 18 → ∀ r κ,ρ0 A b = some (r,κ) → A (b - 10) = (r,κ) := fun b h1 h2 r κ h => by
      have := at2 (b - 10) (by omega)
      rw [show 10 + (b - 10) = b by omega,h] at this
      exact (Option.some.inj this).symm
    have sml : ∀ b o,h0.t.get b = some o → b < 9 ∨ (10 ≤ b ∧ b < 18 ∧ ¬ notSent o) := fun b o h => by
      rcases h0xget h with ⟨hb,_⟩ | ⟨rfl,_⟩ | ⟨hb,hb2,rfl⟩
      · exact .inl (by omega)
      · exact .inl (by omega)
      · exact .inr ⟨hb,hb2,fun h => h⟩
    rcases sml b o ho with hb | ⟨hb,hb2,hn⟩ <;> rcases sml b' o' ho' with hb' | ⟨hb',hb2',hn'⟩
    · rw [← low b hb r κ e1,← low b' hb' r κ' e2]
    · have a1 := low b hb r κ e1
      have a2 := hi b' hb' hb2' r κ' e2
      exact absurd (show (A (b' - 10)).1 = b by rw [a2]; exact a1) (k.off (by omega) hb)
    · have a1 := hi b hb hb2 r κ e1
      have a2 := low b' hb' r κ' e2
      exact absurd (show (A (b - 10)).1 = b' by rw [a1]; exact a2) (k.off (by omega) hb')
    · rcases hs with hs | hs
      · exact absurd hs hn
      · subst hs
        have := k.apart (b - 10) (b' - 10) (by omega) (by omega) ((hi b hb hb2 r κ e1).trans (hi b' hb' hb2' r κ e2).symm)
        omega
theorem start_glob {O : OT} {A : Nat → Nat × Nat} : GRel (Eo O) (ρ0 A) := by
  intro g hg
  have : g < 10 := hg
  by_cases e : g < 9
  · exact ⟨1,if_pos e⟩
  · obtain rfl : g = 9 := by omega
    exact ⟨0,rfl⟩
theorem h0xown {ρ : Ren} {r : Nat} : ¬ Own ρ h0 r := by
  rintro ⟨b,o,κ,a,_,c⟩
  rcases h0xget a with ⟨_,rfl⟩ | ⟨_,rfl⟩ | ⟨_,_,rfl⟩
  · exact absurd c (by simp [gErr,notRo])
  · exact absurd c (by simp [gTyp,notRo])
  · exact absurd c (by simp [gTxt,notRo])
theorem ran {r : Ex (Value × SHeap)} (h : isTrue r = true) : ∃ h',r = .ok (.bool true,h') := by
  unfold isTrue at h
  split at h
  · exact ⟨_,rfl⟩
  · simp at h
theorem kept_of {ρ ρ' : Ren} {h' : SHeap} {W W' : World} (k : Stp ρ h0 W ρ' h' W') (may : MemPlace → Prop) : W.keptBut W' may := by
  refine ⟨k.os,k.output,fun i hi => ?_⟩
  have : W'.heap[i]? = W.heap[i]? := (k.keep i hi h0xown).1
  rw [this]
  cases W.heap[i]? with
  | none => rfl
  | some o => cases o with
    | cells c t fr => exact ⟨rfl,rfl,rfl,fun _ _ => rfl⟩
    | map es clock => exact .inr ⟨rfl,rfl⟩
    | _ => rfl

end Go.Proofs.YtgiompikfhhkmaaGreatDoor

/-
  No cell of these rows narrows 'for every input' (looked for: loops, veiled, ifaces, maps, wideKeys, modest, calm, conditions, laid).
  DERIVED. THE GIVEN ROWS OF THIS SEAT. 1 by the template 'for every input the law returns true; each argument reads behind the call as it read before'; 0 by the template 'total and deterministic' (their statements: YtghhpeemloeljaaGreatTotals.lean).
  GIVEN WITH THE SEED: the statements are not yours to turn. If you find one false, say at which input.
  Laid BY PROGRAM, IN A SANDBOX (cutbox-rows.mjs): the forced cells as the released guide's own fill.sh prints them over the translation cec28a5951b0385d… (all of the seat's roots in one cut). By AI agents, Wed Nov 11 2026. No macro, syntax, notation, axiom, sorry.
-/
import Derived.Test.YtghhpeemloeljaaGreatChecked
import GoSem.Claim
import GoSem.ClaimJoined
import GoSem.ClaimMapViews
import Derived.JoinedTies
import Derived.KernelRfl
namespace Go.Proofs.YtghhpeemloeljaaGreat
/- THE CELL 'sum', in the pinned program and in every row, IS THE sha256 OF THE DUMP (.gsa) THAT YtghhpeemloeljaaGreatProg.lean LOADS. Nothing in Lean hashes anything: it is a label: what it is worth is what the hold of that sum in a sandbox is worth. -/
noncomputable def Tryz.pinned : Pinned := { name := "ytghhpeemloeljaagreat", sum := "cec28a5951b0385db0def9a37184225a20c12dbefe7ddb7fe493b5539d9eb14d", checked := Tryz.checked }
namespace Rows
def none {H : Type} : Left H := { results := [], args := [] }

/-- 'warrantlaw17.InferNever': WHATEVER THE INPUT: true; the input reads as it did. -/
def inferNeverSpec : ChangeSpec := { name := "inferNever", fn := fun _ => fun
  | [d1, d2] => { results := [.lit (.bool true)], args := [d1, d2] }
  | _ => none }
def inferNeverRow : OpenClaim := { program := "ytghhpeemloeljaagreat", sum := "cec28a5951b0385db0def9a37184225a20c12dbefe7ddb7fe493b5539d9eb14d", func := "warrant/warrantlaw17.InferNever", spec := "inferNever", inPlace := ["gosem.stop:warrant/warrantref02.fetches", "gosem.stop:warrant/warrantref02.atom", "gosem.stop:warrant/pack.wrong", "gosem.stop:(*warrant/code.reader).giveUp", "gosem.stop:warrant/code.swapped", "gosem.stop:(*warrant/code.reader).wide", "gosem.stop:warrant/code.atomic", "gosem.stop:(*warrant/flow.Flow).turning", "gosem.stop:(*warrant/step.work).unsigned", "gosem.stop:(*warrant/step.work).null", "gosem.stop:(*warrant/step.work).give", "gosem.stop:(*warrant/step.work).narrow", "gosem.stop:(*warrant/step.work).sub", "gosem.stop:(*warrant/step.work).other", "gosem.stop:(*warrant/step.work).reach", "gosem.stop:(*warrant/step.work).unread", "gosem.stop:warrant/span.Full", "gosem.stop:(*warrant/step.work).store", "gosem.stop:(*warrant/step.work).atom", "gosem.stop:(*warrant/step.work).call", "gosem.stop:warrant/shape.written", "gosem.stop:(*warrant/mach.Machine).last", "gosem.stop:warrant/mach.numeric", "gosem.stop:warrant/word.Alu", "gosem.stop:warrant/mach.sum", "gosem.stop:(*warrant/mach.Machine).part", "gosem.stop:(*warrant/mach.Machine).constant", "gosem.stop:(*warrant/mach.Machine).load", "gosem.stop:(*warrant/mach.Machine).store", "gosem.stop:(*warrant/mach.Machine).atom", "gosem.stop:(*warrant/mach.Machine).branch", "gosem.stop:(*warrant/mach.Machine).call", "gosem.stop:(*warrant/mach.Machine).leave"], unfollowed := true, recurses := true, plainKeys := false, apart := false }
def InferNeverSaid : Prop := inferNeverRow.holds Tryz.pinned (OpenSpec.ofChange inferNeverSpec)

/-- ITS FALSE NEIGHBOUR: 'it returns false'. Refute it at one input. -/
def inferNeverWrong : ChangeSpec := { name := "inferNever", fn := fun _ => fun
  | [d1, d2] => { results := [.lit (.bool false)], args := [d1, d2] }
  | _ => none }
def InferNeverWrongFalsely : Prop := inferNeverRow.holds Tryz.pinned (OpenSpec.ofChange inferNeverWrong)

/- THE SECOND FORM. 'bulk': how many values and letters a reading holds, each counted each time it is reached (what is shared counts as often as it is met; a slice's spare places count too). A statement '..UptoSaid' is the law's where the arguments, and the package variables that the reading takes, are together of bulk at most 1048576: NARROWER than '..Said'. Prove '..Said' where nothing that the law and all that it calls make is longer than what came in: it says more and counts as full. Else prove '..UptoSaid'. A law counts once. -/
mutual
def uptoBulk {H : Type} : DataW H → Nat
  | .lit (.string bytes) => bytes.length + 1
  | .lit _ => 1
  | .nil => 1
  | .ptr d => uptoBulk d + 1
  | .slice elems spare => uptoBulkAll elems + uptoBulkAll spare + 1
  | .agg parts => uptoBulkAll parts + 1
  | .iface _ d => uptoBulk d + 1
  | .map entries => uptoBulkEntries entries + 1
  | .held _ => 1
def uptoBulkAll {H : Type} : List (DataW H) → Nat
  | [] => 0
  | d :: r => uptoBulk d + uptoBulkAll r
def uptoBulkEntries {H : Type} : List (Lit × DataW H) → Nat
  | [] => 0
  | x :: r => uptoBulkEntry x + uptoBulkEntries r
def uptoBulkEntry {H : Type} : Lit × DataW H → Nat
  | (.string bytes, d) => bytes.length + uptoBulk d + 1
  | (_, d) => uptoBulk d + 1
 end
def uptoSmall : (H : Type) → List (DataW H) → Bool := fun _ ds => decide (uptoBulkAll ds ≤ 1048576)
def OpenSpec.upto (s : _root_.Go.ChangeSpec) : _root_.Go.OpenSpec := { _root_.Go.OpenSpec.ofChange s with cond := some uptoSmall }

/-- 'warrantlaw17.InferNever', WHERE WHAT IT READS IS OF BULK AT MOST 1048576: true; the input reads as it did. -/
def inferNeverUptoRow : OpenClaim := { program := "ytghhpeemloeljaagreat", sum := "cec28a5951b0385db0def9a37184225a20c12dbefe7ddb7fe493b5539d9eb14d", func := "warrant/warrantlaw17.InferNever", spec := "inferNever", inPlace := ["gosem.stop:warrant/warrantref02.fetches", "gosem.stop:warrant/warrantref02.atom", "gosem.stop:warrant/pack.wrong", "gosem.stop:(*warrant/code.reader).giveUp", "gosem.stop:warrant/code.swapped", "gosem.stop:(*warrant/code.reader).wide", "gosem.stop:warrant/code.atomic", "gosem.stop:(*warrant/flow.Flow).turning", "gosem.stop:(*warrant/step.work).unsigned", "gosem.stop:(*warrant/step.work).null", "gosem.stop:(*warrant/step.work).give", "gosem.stop:(*warrant/step.work).narrow", "gosem.stop:(*warrant/step.work).sub", "gosem.stop:(*warrant/step.work).other", "gosem.stop:(*warrant/step.work).reach", "gosem.stop:(*warrant/step.work).unread", "gosem.stop:warrant/span.Full", "gosem.stop:(*warrant/step.work).store", "gosem.stop:(*warrant/step.work).atom", "gosem.stop:(*warrant/step.work).call", "gosem.stop:warrant/shape.written", "gosem.stop:(*warrant/mach.Machine).last", "gosem.stop:warrant/mach.numeric", "gosem.stop:warrant/word.Alu", "gosem.stop:warrant/mach.sum", "gosem.stop:(*warrant/mach.Machine).part", "gosem.stop:(*warrant/mach.Machine).constant", "gosem.stop:(*warrant/mach.Machine).load", "gosem.stop:(*warrant/mach.Machine).store", "gosem.stop:(*warrant/mach.Machine).atom", "gosem.stop:(*warrant/mach.Machine).branch", "gosem.stop:(*warrant/mach.Machine).call", "gosem.stop:(*warrant/mach.Machine).leave"], unfollowed := true, recurses := true, plainKeys := false, apart := false, narrowed := true }
def InferNeverUptoSaid : Prop := inferNeverUptoRow.holds Tryz.pinned (OpenSpec.upto inferNeverSpec)

end Rows
end Go.Proofs.YtghhpeemloeljaaGreat

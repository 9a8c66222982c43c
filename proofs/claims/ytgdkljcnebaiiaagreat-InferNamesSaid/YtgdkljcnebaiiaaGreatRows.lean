/-
  No cell of these rows narrows 'for every input' (looked for: loops, veiled, ifaces, maps, wideKeys, modest, calm, conditions, laid).
  DERIVED. THE GIVEN ROWS OF THIS SEAT. 1 by the template 'for every input the law returns true; each argument reads behind the call as it read before'; 0 by the template 'total and deterministic' (their statements: YtgdkljcnebaiiaaGreatTotals.lean).
  GIVEN WITH THE SEED: the statements are not yours to turn. If you find one false, say at which input.
  Laid BY PROGRAM, IN A SANDBOX (cutbox-rows.mjs): the forced cells as the released guide's own fill.sh prints them over the translation b6903032360de3d9… (all of the seat's roots in one cut). By AI agents, Wed Nov 11 2026. No macro, syntax, notation, axiom, sorry.
-/
import Derived.Test.YtgdkljcnebaiiaaGreatChecked
import GoSem.Claim
import GoSem.ClaimJoined
import GoSem.ClaimMapViews
import Derived.JoinedTies
import Derived.KernelRfl
namespace Go.Proofs.YtgdkljcnebaiiaaGreat
/- THE CELL 'sum', in the pinned program and in every row, IS THE sha256 OF THE DUMP (.gsa) THAT YtgdkljcnebaiiaaGreatProg.lean LOADS. Nothing in Lean hashes anything: it is a label: what it is worth is what the hold of that sum in a sandbox is worth. -/
noncomputable def Tryz.pinned : Pinned := { name := "ytgdkljcnebaiiaagreat", sum := "b6903032360de3d9ca0bf4abe8ba10dc57d0828513bab790a59ebc09f2a8976c", checked := Tryz.checked }
namespace Rows
def none {H : Type} : Left H := { results := [], args := [] }

/-- 'warrantlaw17.InferNames': WHATEVER THE INPUT: true; the input reads as it did. -/
def inferNamesSpec : ChangeSpec := { name := "inferNames", fn := fun _ => fun
  | [] => { results := [.lit (.bool true)], args := [] }
  | _ => none }
def inferNamesRow : OpenClaim := { program := "ytgdkljcnebaiiaagreat", sum := "b6903032360de3d9ca0bf4abe8ba10dc57d0828513bab790a59ebc09f2a8976c", func := "warrant/warrantlaw17.InferNames", spec := "inferNames", inPlace := ["gosem.stop:warrant/warrantref02.fetches", "gosem.stop:warrant/warrantref02.atom", "gosem.stop:warrant/pack.wrong", "gosem.stop:(*warrant/code.reader).giveUp", "gosem.stop:warrant/code.swapped", "gosem.stop:(*warrant/code.reader).wide", "gosem.stop:warrant/code.atomic", "gosem.stop:(*warrant/flow.Flow).turning", "gosem.stop:(*warrant/step.work).unsigned", "gosem.stop:(*warrant/step.work).null", "gosem.stop:(*warrant/step.work).give", "gosem.stop:(*warrant/step.work).narrow", "gosem.stop:(*warrant/step.work).sub", "gosem.stop:(*warrant/step.work).other", "gosem.stop:(*warrant/step.work).reach", "gosem.stop:(*warrant/step.work).unread", "gosem.stop:warrant/span.Full", "gosem.stop:(*warrant/step.work).store", "gosem.stop:(*warrant/step.work).atom", "gosem.stop:(*warrant/step.work).call", "gosem.stop:warrant/shape.written", "gosem.stop:(*warrant/deed.reader).giveUp"], unfollowed := true, recurses := true, plainKeys := false, apart := false }
def InferNamesSaid : Prop := inferNamesRow.holds Tryz.pinned (OpenSpec.ofChange inferNamesSpec)

/-- ITS FALSE NEIGHBOUR: 'it returns false'. Refute it at one input. -/
def inferNamesWrong : ChangeSpec := { name := "inferNames", fn := fun _ => fun
  | [] => { results := [.lit (.bool false)], args := [] }
  | _ => none }
def InferNamesWrongFalsely : Prop := inferNamesRow.holds Tryz.pinned (OpenSpec.ofChange inferNamesWrong)

/- THE SECOND FORM. 'bulk': how many values and letters a reading holds, each counted each time it is reached (what is shared counts as often as it is met; a slice's spare places count too). A statement '..UptoSaid' is the law's where the arguments, and the package variables that the reading takes, are together of bulk at most 1048576: NARROWER than '..Said'. Prove '..Said' where nothing that the law and all that it calls make is longer than what came in: it says more and counts as full. Else prove '..UptoSaid'. A law counts once. -/
mutual
def uptoBulk {H : Type} : DataW H → Nat
  | .lit (.string bytes) => bytes.length + 1
  | .lit _ => 1
  | .nil => 1
  | .ptr d => uptoBulk d + 1
  | .slice elems spare => uptoBulkAll elems + uptoBulkAll spare + 1
  | .agg parts => uptoBulkAll parts + 1
  | .iface _ d => uptoBulk d + 1
  | .map entries => uptoBulkEntries entries + 1
  | .held _ => 1
def uptoBulkAll {H : Type} : List (DataW H) → Nat
  | [] => 0
  | d :: r => uptoBulk d + uptoBulkAll r
def uptoBulkEntries {H : Type} : List (Lit × DataW H) → Nat
  | [] => 0
  | x :: r => uptoBulkEntry x + uptoBulkEntries r
def uptoBulkEntry {H : Type} : Lit × DataW H → Nat
  | (.string bytes, d) => bytes.length + uptoBulk d + 1
  | (_, d) => uptoBulk d + 1
 end
def uptoSmall : (H : Type) → List (DataW H) → Bool := fun _ ds => decide (uptoBulkAll ds ≤ 1048576)
def OpenSpec.upto (s : _root_.Go.ChangeSpec) : _root_.Go.OpenSpec := { _root_.Go.OpenSpec.ofChange s with cond := some uptoSmall }

/-- 'warrantlaw17.InferNames', WHERE WHAT IT READS IS OF BULK AT MOST 1048576: true; the input reads as it did. -/
def inferNamesUptoRow : OpenClaim := { program := "ytgdkljcnebaiiaagreat", sum := "b6903032360de3d9ca0bf4abe8ba10dc57d0828513bab790a59ebc09f2a8976c", func := "warrant/warrantlaw17.InferNames", spec := "inferNames", inPlace := ["gosem.stop:warrant/warrantref02.fetches", "gosem.stop:warrant/warrantref02.atom", "gosem.stop:warrant/pack.wrong", "gosem.stop:(*warrant/code.reader).giveUp", "gosem.stop:warrant/code.swapped", "gosem.stop:(*warrant/code.reader).wide", "gosem.stop:warrant/code.atomic", "gosem.stop:(*warrant/flow.Flow).turning", "gosem.stop:(*warrant/step.work).unsigned", "gosem.stop:(*warrant/step.work).null", "gosem.stop:(*warrant/step.work).give", "gosem.stop:(*warrant/step.work).narrow", "gosem.stop:(*warrant/step.work).sub", "gosem.stop:(*warrant/step.work).other", "gosem.stop:(*warrant/step.work).reach", "gosem.stop:(*warrant/step.work).unread", "gosem.stop:warrant/span.Full", "gosem.stop:(*warrant/step.work).store", "gosem.stop:(*warrant/step.work).atom", "gosem.stop:(*warrant/step.work).call", "gosem.stop:warrant/shape.written", "gosem.stop:(*warrant/deed.reader).giveUp"], unfollowed := true, recurses := true, plainKeys := false, apart := false, narrowed := true }
def InferNamesUptoSaid : Prop := inferNamesUptoRow.holds Tryz.pinned (OpenSpec.upto inferNamesSpec)

end Rows
end Go.Proofs.YtgdkljcnebaiiaaGreat

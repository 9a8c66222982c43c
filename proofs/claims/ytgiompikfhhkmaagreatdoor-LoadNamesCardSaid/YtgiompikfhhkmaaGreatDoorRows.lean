/-
  NARROWER THAN 'FOR EVERY INPUT', by the rows' own cells (each row's printed sentence says how): LoadNames: laid.
  DERIVED. THE GIVEN ROWS OF THIS SEAT. 1 by the template 'for every input the law returns true; each argument reads behind the call as it read before'; 0 by the template 'total and deterministic' (their statements: YtgiompikfhhkmaaGreatDoorTotals.lean).
  GIVEN WITH THE SEED: the statements are not yours to turn. If you find one false, say at which input.
  Laid BY PROGRAM, IN A SANDBOX (cutbox-rows.mjs): the forced cells as the released guide's own fill.sh prints them over the translation 3c24b156e45ecdf4… (all of the seat's roots in one cut). By AI agents, Wed Nov 11 2026. No macro, syntax, notation, axiom, sorry.
-/
import Derived.Test.YtgiompikfhhkmaaGreatDoorChecked
import GoSem.Claim
import GoSem.ClaimJoined
import GoSem.ClaimMapViews
import Derived.JoinedTies
import Derived.KernelRfl
namespace Go.Proofs.YtgiompikfhhkmaaGreatDoor
/- THE CELL 'sum', in the pinned program and in every row, IS THE sha256 OF THE DUMP (.gsa) THAT YtgiompikfhhkmaaGreatDoorProg.lean LOADS. Nothing in Lean hashes anything: it is a label: what it is worth is what the hold of that sum in a sandbox is worth. -/
noncomputable def Tryz.pinned : Pinned := { name := "ytgiompikfhhkmaagreatdoor", sum := "3c24b156e45ecdf46630fb7d51139e0b4047eab2e1b812f8d41712d28e8434e4", checked := Tryz.checked }
namespace Rows
def none {H : Type} : Left H := { results := [], args := [] }

/- WHAT THE LISTED PACKAGE-LEVEL VARIABLES READ AS WHEN THE CALL BEGINS. Each datum BY PROGRAM (the guide's laid-datum.mjs) off the statement by which the dump's own 'gosem.cut.vars' lays the variable. In a bare row this is a premise. The card (YtgiompikfhhkmaaGreatDoorCards.lean) ties it to the program's text. -/
def laid_errors_errorType {H : Type} : DataW H := .iface "internal/reflectlite.rtype" (.agg [.ptr (.lit (.string [101, 114, 114, 111, 114]))])
def laid_warrant_load_ErrProgram {H : Type} : DataW H := .iface "*errors.errorString" (.ptr (.agg [.lit (.string [108, 111, 97, 100, 58, 32, 110, 111, 32, 112, 114, 111, 103, 114, 97, 109])]))
def laid_warrant_load_ErrCFG {H : Type} : DataW H := .iface "*errors.errorString" (.ptr (.agg [.lit (.string [108, 111, 97, 100, 58, 32, 110, 111, 32, 99, 111, 110, 116, 114, 111, 108, 32, 102, 108, 111, 119])]))
def laid_warrant_load_ErrCert {H : Type} : DataW H := .iface "*errors.errorString" (.ptr (.agg [.lit (.string [108, 111, 97, 100, 58, 32, 110, 111, 32, 119, 97, 114, 114, 97, 110, 116])]))
def laid_warrant_load_ErrNotInductive {H : Type} : DataW H := .iface "*errors.errorString" (.ptr (.agg [.lit (.string [108, 111, 97, 100, 58, 32, 97, 32, 99, 108, 97, 105, 109, 32, 100, 111, 101, 115, 32, 110, 111, 116, 32, 104, 111, 108, 100])]))
def laid_warrant_load_ErrUnsafe {H : Type} : DataW H := .iface "*errors.errorString" (.ptr (.agg [.lit (.string [108, 111, 97, 100, 58, 32, 97, 110, 32, 97, 99, 99, 101, 115, 115, 32, 109, 97, 121, 32, 103, 111, 32, 119, 114, 111, 110, 103])]))
def laid_warrant_load_ErrRank {H : Type} : DataW H := .iface "*errors.errorString" (.ptr (.agg [.lit (.string [108, 111, 97, 100, 58, 32, 97, 32, 108, 111, 111, 112, 32, 109, 97, 121, 32, 110, 111, 116, 32, 101, 110, 100])]))
def laid_warrant_load_ErrBound {H : Type} : DataW H := .iface "*errors.errorString" (.ptr (.agg [.lit (.string [108, 111, 97, 100, 58, 32, 116, 111, 111, 32, 109, 97, 110, 121, 32, 115, 116, 101, 112, 115])]))
def laid_warrant_load_ErrInput {H : Type} : DataW H := .iface "*errors.errorString" (.ptr (.agg [.lit (.string [108, 111, 97, 100, 58, 32, 110, 111, 32, 105, 110, 112, 117, 116, 32, 111, 102, 32, 116, 104, 105, 115, 32, 112, 114, 111, 103, 114, 97, 109])]))

/-- 'warrantlaw16.LoadNames': WHATEVER THE INPUT: true; the input reads as it did. -/
def loadNamesSpec : ChangeSpec := { name := "loadNames", fn := fun _ => fun
  | [] => { results := [.lit (.bool true)], args := [] }
  | _ => none }
def loadNamesRow : OpenClaim := { program := "ytgiompikfhhkmaagreatdoor", sum := "3c24b156e45ecdf46630fb7d51139e0b4047eab2e1b812f8d41712d28e8434e4", func := "warrant/warrantlaw16.LoadNames", spec := "loadNames", inPlace := ["internal/reflectlite.TypeOf", "gosem.stop:warrant/pack.wrong", "gosem.stop:(*warrant/code.reader).giveUp", "gosem.stop:warrant/code.swapped", "gosem.stop:(*warrant/code.reader).wide", "gosem.stop:warrant/code.atomic", "gosem.stop:(*warrant/flow.Flow).turning", "gosem.stop:(*warrant/deed.reader).giveUp", "gosem.stop:warrant/shape.written", "gosem.stop:(*warrant/shape.Shape).zero", "gosem.stop:(*warrant/step.work).give", "gosem.stop:(*warrant/step.work).narrow", "gosem.stop:(*warrant/step.work).sub", "gosem.stop:(*warrant/step.work).other", "gosem.stop:(*warrant/step.work).reach", "gosem.stop:(*warrant/step.work).unread", "gosem.stop:warrant/span.Full", "gosem.stop:(*warrant/step.work).store", "gosem.stop:(*warrant/step.work).atom", "gosem.stop:(*warrant/step.work).call", "gosem.stop:(*warrant/step.work).unlike", "gosem.stop:(*warrant/step.work).unsigned", "gosem.stop:(*warrant/step.work).null", "internal/reflectlite.ValueOf", "(internal/reflectlite.Value).Type", "(internal/reflectlite.Value).IsNil", "(internal/reflectlite.Value).Elem", "(internal/reflectlite.Value).Set", "gosem.stop:(warrant/word.Word).Low", "gosem.stop:(warrant/word.Word).Sub", "gosem.stop:(warrant/word.Word).Mul", "gosem.stop:(warrant/word.Word).Div", "gosem.stop:(warrant/word.Word).Mod", "gosem.stop:(warrant/word.Word).Sdiv", "gosem.stop:(warrant/word.Word).Smod", "gosem.stop:(warrant/word.Word).Or", "gosem.stop:(warrant/word.Word).And", "gosem.stop:(warrant/word.Word).Xor", "gosem.stop:(warrant/word.Word).Lsh", "gosem.stop:(warrant/word.Word).Rsh", "gosem.stop:(warrant/word.Word).Arsh", "gosem.stop:(warrant/word.Word).Neg", "gosem.stop:warrant/word.narrow", "gosem.stop:(*warrant/fast.run).extend", "gosem.stop:(*warrant/fast.run).swap", "gosem.stop:(*warrant/fast.run).wide", "gosem.stop:(*warrant/fast.run).place", "gosem.stop:(*warrant/fast.run).store", "gosem.stop:(*warrant/fast.run).atom", "gosem.stop:(*warrant/fast.run).call", "gosem.stop:warrant/warrantref02.fetches", "gosem.stop:warrant/warrantref02.atom"], unfollowed := true, recurses := true, named := ["warrant/load.ErrInput", "warrant/load.ErrProgram", "warrant/load.ErrCFG", "warrant/load.ErrCert", "warrant/load.ErrNotInductive", "warrant/load.ErrUnsafe", "warrant/load.ErrRank", "warrant/load.ErrBound", "errors.errorType"], apart := false, laid := [("errors.errorType", laid_errors_errorType), ("warrant/load.ErrProgram", laid_warrant_load_ErrProgram), ("warrant/load.ErrCFG", laid_warrant_load_ErrCFG), ("warrant/load.ErrCert", laid_warrant_load_ErrCert), ("warrant/load.ErrNotInductive", laid_warrant_load_ErrNotInductive), ("warrant/load.ErrUnsafe", laid_warrant_load_ErrUnsafe), ("warrant/load.ErrRank", laid_warrant_load_ErrRank), ("warrant/load.ErrBound", laid_warrant_load_ErrBound), ("warrant/load.ErrInput", laid_warrant_load_ErrInput)] }
def LoadNamesSaid : Prop := loadNamesRow.holds Tryz.pinned (OpenSpec.ofChange loadNamesSpec)

/-- ITS FALSE NEIGHBOUR: 'it returns false'. Refute it at one input. -/
def loadNamesWrong : ChangeSpec := { name := "loadNames", fn := fun _ => fun
  | [] => { results := [.lit (.bool false)], args := [] }
  | _ => none }
def LoadNamesWrongFalsely : Prop := loadNamesRow.holds Tryz.pinned (OpenSpec.ofChange loadNamesWrong)

/- THE SECOND FORM. 'bulk': how many values and letters a reading holds, each counted each time it is reached (what is shared counts as often as it is met; a slice's spare places count too). A statement '..UptoSaid' is the law's where the arguments, and the package variables that the reading takes, are together of bulk at most 1048576: NARROWER than '..Said'. Prove '..Said' where nothing that the law and all that it calls make is longer than what came in: it says more and counts as full. Else prove '..UptoSaid'. A law counts once. -/
mutual
def uptoBulk {H : Type} : DataW H → Nat
  | .lit (.string bytes) => bytes.length + 1
  | .lit _ => 1
  | .nil => 1
  | .ptr d => uptoBulk d + 1
  | .slice elems spare => uptoBulkAll elems + uptoBulkAll spare + 1
  | .agg parts => uptoBulkAll parts + 1
  | .iface _ d => uptoBulk d + 1
  | .map entries => uptoBulkEntries entries + 1
  | .held _ => 1
def uptoBulkAll {H : Type} : List (DataW H) → Nat
  | [] => 0
  | d :: r => uptoBulk d + uptoBulkAll r
def uptoBulkEntries {H : Type} : List (Lit × DataW H) → Nat
  | [] => 0
  | x :: r => uptoBulkEntry x + uptoBulkEntries r
def uptoBulkEntry {H : Type} : Lit × DataW H → Nat
  | (.string bytes, d) => bytes.length + uptoBulk d + 1
  | (_, d) => uptoBulk d + 1
 end
def uptoSmall : (H : Type) → List (DataW H) → Bool := fun _ ds => decide (uptoBulkAll ds ≤ 1048576)
def OpenSpec.upto (s : _root_.Go.ChangeSpec) : _root_.Go.OpenSpec := { _root_.Go.OpenSpec.ofChange s with cond := some uptoSmall }

/-- 'warrantlaw16.LoadNames', WHERE WHAT IT READS IS OF BULK AT MOST 1048576: true; the input reads as it did. -/
def loadNamesUptoRow : OpenClaim := { program := "ytgiompikfhhkmaagreatdoor", sum := "3c24b156e45ecdf46630fb7d51139e0b4047eab2e1b812f8d41712d28e8434e4", func := "warrant/warrantlaw16.LoadNames", spec := "loadNames", inPlace := ["internal/reflectlite.TypeOf", "gosem.stop:warrant/pack.wrong", "gosem.stop:(*warrant/code.reader).giveUp", "gosem.stop:warrant/code.swapped", "gosem.stop:(*warrant/code.reader).wide", "gosem.stop:warrant/code.atomic", "gosem.stop:(*warrant/flow.Flow).turning", "gosem.stop:(*warrant/deed.reader).giveUp", "gosem.stop:warrant/shape.written", "gosem.stop:(*warrant/shape.Shape).zero", "gosem.stop:(*warrant/step.work).give", "gosem.stop:(*warrant/step.work).narrow", "gosem.stop:(*warrant/step.work).sub", "gosem.stop:(*warrant/step.work).other", "gosem.stop:(*warrant/step.work).reach", "gosem.stop:(*warrant/step.work).unread", "gosem.stop:warrant/span.Full", "gosem.stop:(*warrant/step.work).store", "gosem.stop:(*warrant/step.work).atom", "gosem.stop:(*warrant/step.work).call", "gosem.stop:(*warrant/step.work).unlike", "gosem.stop:(*warrant/step.work).unsigned", "gosem.stop:(*warrant/step.work).null", "internal/reflectlite.ValueOf", "(internal/reflectlite.Value).Type", "(internal/reflectlite.Value).IsNil", "(internal/reflectlite.Value).Elem", "(internal/reflectlite.Value).Set", "gosem.stop:(warrant/word.Word).Low", "gosem.stop:(warrant/word.Word).Sub", "gosem.stop:(warrant/word.Word).Mul", "gosem.stop:(warrant/word.Word).Div", "gosem.stop:(warrant/word.Word).Mod", "gosem.stop:(warrant/word.Word).Sdiv", "gosem.stop:(warrant/word.Word).Smod", "gosem.stop:(warrant/word.Word).Or", "gosem.stop:(warrant/word.Word).And", "gosem.stop:(warrant/word.Word).Xor", "gosem.stop:(warrant/word.Word).Lsh", "gosem.stop:(warrant/word.Word).Rsh", "gosem.stop:(warrant/word.Word).Arsh", "gosem.stop:(warrant/word.Word).Neg", "gosem.stop:warrant/word.narrow", "gosem.stop:(*warrant/fast.run).extend", "gosem.stop:(*warrant/fast.run).swap", "gosem.stop:(*warrant/fast.run).wide", "gosem.stop:(*warrant/fast.run).place", "gosem.stop:(*warrant/fast.run).store", "gosem.stop:(*warrant/fast.run).atom", "gosem.stop:(*warrant/fast.run).call", "gosem.stop:warrant/warrantref02.fetches", "gosem.stop:warrant/warrantref02.atom"], unfollowed := true, recurses := true, named := ["warrant/load.ErrInput", "warrant/load.ErrProgram", "warrant/load.ErrCFG", "warrant/load.ErrCert", "warrant/load.ErrNotInductive", "warrant/load.ErrUnsafe", "warrant/load.ErrRank", "warrant/load.ErrBound", "errors.errorType"], apart := false, laid := [("errors.errorType", laid_errors_errorType), ("warrant/load.ErrProgram", laid_warrant_load_ErrProgram), ("warrant/load.ErrCFG", laid_warrant_load_ErrCFG), ("warrant/load.ErrCert", laid_warrant_load_ErrCert), ("warrant/load.ErrNotInductive", laid_warrant_load_ErrNotInductive), ("warrant/load.ErrUnsafe", laid_warrant_load_ErrUnsafe), ("warrant/load.ErrRank", laid_warrant_load_ErrRank), ("warrant/load.ErrBound", laid_warrant_load_ErrBound), ("warrant/load.ErrInput", laid_warrant_load_ErrInput)], narrowed := true }
def LoadNamesUptoSaid : Prop := loadNamesUptoRow.holds Tryz.pinned (OpenSpec.upto loadNamesSpec)

end Rows
end Go.Proofs.YtgiompikfhhkmaaGreatDoor

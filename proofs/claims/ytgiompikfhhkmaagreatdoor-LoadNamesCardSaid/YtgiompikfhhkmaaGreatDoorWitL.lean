/- A start that meets the condition of LoadNames' row. -/
import Derived.Test.YtgiompikfhhkmaaGreatDoorSta
import Derived.LaidHandle
import Derived.SevenTiedAt
import Derived.Stop.Joined
set_option linter.unusedVariables false
set_option linter.unusedSimpArgs false
namespace Go.Proofs.YtgiompikfhhkmaaGreatDoor
open Go Go.Sim Go.ChangeShapes Go.WideShapes Go.ChangeAt Go.RowKit
set_option maxRecDepth 100000

/-- a world that meets the condition -/
noncomputable def set8 (w : World) : World :=
  { w with heap := w.heap.modify 8 fun
      | .cells _ t fr => .cells #[.iface 69 (.agg #[.pointer (some ⟨9,25,none⟩)])] t fr
      | o => o }
theorem set8xos (w : World) : (set8 w).os = w.os := rfl
noncomputable def w0 (os : Os) : World := set8 (World.laidAll Tryz.prog os laid8)
theorem w0xmet (os : Os) (args : Array Value) : laidMetH Tryz.prog laid9 ((w0 os).forCall (fun _ _ => 0) ⟨#[],args,[]⟩).memory :=
  laidMetH_of_parts (laidMet_of_run' 8 (by kernel_rfl) (by kernel_rfl)) (by kernel_rfl)

theorem w0xos (os : Os) : (w0 os).os = os := (set8xos _).trans (World.laidAll_os Tryz.prog os laid8)
theorem w0xshaped (os : Os) : ((w0 os).forCall (fun _ _ => 0) ⟨#[],#[],[]⟩).Shaped Tryz.checked.prog := World.shaped_of_ZipB (by kernel_rfl) (by kernel_rfl)
theorem w0xok (os : Os) : Input.okWideB Tryz.checked.prog ((w0 os).forCall (fun _ _ => 0) ⟨#[],#[],[]⟩) 3 ⟨#[],#[],[]⟩ = true := by kernel_rfl
theorem w0xpre (os : Os) {H : Type} (enc : TypeId × Value → H) : Rows.loadNamesSpec.preB enc Tryz.checked.prog Tryz.f3 [] false ((w0 os).forCall (fun _ _ => 0) ⟨#[],#[],[]⟩).memory #[] 8 = true := by kernel_rfl
theorem w0xsize (os : Os) {H : Type} (enc : TypeId × Value → H) : Rows.loadNamesSpec.sizedB enc Tryz.checked.prog Tryz.f3 false ((w0 os).forCall (fun _ _ => 0) ⟨#[],#[],[]⟩).memory #[] 8 = true := by kernel_rfl

end Go.Proofs.YtgiompikfhhkmaaGreatDoor

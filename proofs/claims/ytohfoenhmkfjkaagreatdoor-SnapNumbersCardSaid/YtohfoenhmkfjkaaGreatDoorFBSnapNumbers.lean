/- Closed facts of the row 'SnapNumbers', one by one. -/
import Derived.Test.YtohfoenhmkfjkaaGreatDoorCards
import Derived.JoinedOf
import Derived.KernelRfl
namespace Go.Proofs.YtohfoenhmkfjkaaGreatDoor.snapNumbers
open Go
set_option linter.unusedVariables false
set_option maxRecDepth 100000
theorem fact25 : (fun (P : Program) (f : FuncId) (fn : Func) (s : ChangeSpec) (c : OpenClaim) => (P.mayEnter : Bool)) Tryz.prog 3 Tryz.f3 Rows.snapNumbersSpec Rows.snapNumbersRow = true := by kernel_rfl
theorem fact26 : (fun (P : Program) (f : FuncId) (fn : Func) (s : ChangeSpec) (c : OpenClaim) => ((c.lifted == P.liftsFinal) : Bool)) Tryz.prog 3 Tryz.f3 Rows.snapNumbersSpec Rows.snapNumbersRow = true := by kernel_rfl
theorem fact27 : (fun (P : Program) (f : FuncId) (fn : Func) (s : ChangeSpec) (c : OpenClaim) => ((P.make == some c.make) : Bool)) Tryz.prog 3 Tryz.f3 Rows.snapNumbersSpec Rows.snapNumbersRow = true := by kernel_rfl
theorem factN : Tryz.pinned.checked.prog.funcNamed Rows.snapNumbersRow.func = some 3 := by kernel_rfl
theorem factM : Tryz.pinned.checked.prog.mainIs = some (((true, "261a5d3827e9a151da3e3d812145470ef6b6e1fe1ad9a96c49aea3e373872885")).1, ((true, "261a5d3827e9a151da3e3d812145470ef6b6e1fe1ad9a96c49aea3e373872885")).2.toList) := by kernel_rfl
theorem factL : false = Tryz.pinned.checked.prog.looks [] := by kernel_rfl
theorem factW22 : Tryz.pinned.checked.prog.wantsStandIn 22 = false := by kernel_rfl
theorem factG : false = Rows.snapNumbersRow.goesBy Tryz.pinned.checked.prog := by kernel_rfl
end Go.Proofs.YtohfoenhmkfjkaaGreatDoor.snapNumbers

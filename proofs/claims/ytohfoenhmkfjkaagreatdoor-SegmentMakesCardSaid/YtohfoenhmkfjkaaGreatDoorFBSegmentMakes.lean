/- Closed facts of the row 'SegmentMakes', one by one. -/
import Derived.Test.YtohfoenhmkfjkaaGreatDoorCards
import Derived.JoinedOf
import Derived.KernelRfl
namespace Go.Proofs.YtohfoenhmkfjkaaGreatDoor.segmentMakes
open Go
set_option linter.unusedVariables false
set_option maxRecDepth 100000
theorem fact25 : (fun (P : Program) (f : FuncId) (fn : Func) (s : ChangeSpec) (c : OpenClaim) => (P.mayEnter : Bool)) Tryz.prog 9 Tryz.f9 Rows.segmentMakesSpec Rows.segmentMakesRow = true := by kernel_rfl
theorem fact26 : (fun (P : Program) (f : FuncId) (fn : Func) (s : ChangeSpec) (c : OpenClaim) => ((c.lifted == P.liftsFinal) : Bool)) Tryz.prog 9 Tryz.f9 Rows.segmentMakesSpec Rows.segmentMakesRow = true := by kernel_rfl
theorem fact27 : (fun (P : Program) (f : FuncId) (fn : Func) (s : ChangeSpec) (c : OpenClaim) => ((P.make == some c.make) : Bool)) Tryz.prog 9 Tryz.f9 Rows.segmentMakesSpec Rows.segmentMakesRow = true := by kernel_rfl
theorem factN : Tryz.pinned.checked.prog.funcNamed Rows.segmentMakesRow.func = some 9 := by kernel_rfl
theorem factM : Tryz.pinned.checked.prog.mainIs = some (((true, "261a5d3827e9a151da3e3d812145470ef6b6e1fe1ad9a96c49aea3e373872885")).1, ((true, "261a5d3827e9a151da3e3d812145470ef6b6e1fe1ad9a96c49aea3e373872885")).2.toList) := by kernel_rfl
theorem factL : false = Tryz.pinned.checked.prog.looks [] := by kernel_rfl
theorem factW36 : Tryz.pinned.checked.prog.wantsStandIn 36 = false := by kernel_rfl
theorem factW62 : Tryz.pinned.checked.prog.wantsStandIn 62 = false := by kernel_rfl
theorem factG : false = Rows.segmentMakesRow.goesBy Tryz.pinned.checked.prog := by kernel_rfl
end Go.Proofs.YtohfoenhmkfjkaaGreatDoor.segmentMakes

/- Closed facts of the row 'SnapParts', one by one. -/
import Derived.Test.YtaobajlebdchhaaGreatDoorCards
import Derived.JoinedOf
import Derived.KernelRfl
namespace Go.Proofs.YtaobajlebdchhaaGreatDoor.snapParts
open Go
set_option linter.unusedVariables false
set_option maxRecDepth 100000
theorem fact25 : (fun (P : Program) (f : FuncId) (fn : Func) (s : ChangeSpec) (c : OpenClaim) => (P.mayEnter : Bool)) Tryz.prog 7 Tryz.f7 Rows.snapPartsSpec Rows.snapPartsRow = true := by kernel_rfl
theorem fact26 : (fun (P : Program) (f : FuncId) (fn : Func) (s : ChangeSpec) (c : OpenClaim) => ((c.lifted == P.liftsFinal) : Bool)) Tryz.prog 7 Tryz.f7 Rows.snapPartsSpec Rows.snapPartsRow = true := by kernel_rfl
theorem fact27 : (fun (P : Program) (f : FuncId) (fn : Func) (s : ChangeSpec) (c : OpenClaim) => ((P.make == some c.make) : Bool)) Tryz.prog 7 Tryz.f7 Rows.snapPartsSpec Rows.snapPartsRow = true := by kernel_rfl
theorem factN : Tryz.pinned.checked.prog.funcNamed Rows.snapPartsRow.func = some 7 := by kernel_rfl
theorem factM : Tryz.pinned.checked.prog.mainIs = some (((true, "3663a88419421c8180bc9331cc64f194b7a7f58d592e5aad8b3194deb6509b3d")).1, ((true, "3663a88419421c8180bc9331cc64f194b7a7f58d592e5aad8b3194deb6509b3d")).2.toList) := by kernel_rfl
theorem factL : false = Tryz.pinned.checked.prog.looks [] := by kernel_rfl
theorem factW3 : Tryz.pinned.checked.prog.wantsStandIn 3 = false := by kernel_rfl
theorem factW22 : Tryz.pinned.checked.prog.wantsStandIn 22 = false := by kernel_rfl
theorem factW54 : Tryz.pinned.checked.prog.wantsStandIn 54 = false := by kernel_rfl
theorem factG : false = Rows.snapPartsRow.goesBy Tryz.pinned.checked.prog := by kernel_rfl
end Go.Proofs.YtaobajlebdchhaaGreatDoor.snapParts

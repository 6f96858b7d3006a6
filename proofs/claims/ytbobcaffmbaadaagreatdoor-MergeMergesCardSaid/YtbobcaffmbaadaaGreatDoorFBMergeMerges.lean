/- Closed facts of the row 'MergeMerges', one by one. -/
import Derived.Test.YtbobcaffmbaadaaGreatDoorCards
import Derived.JoinedOf
import Derived.KernelRfl
namespace Go.Proofs.YtbobcaffmbaadaaGreatDoor.mergeMerges
open Go
set_option linter.unusedVariables false
set_option maxRecDepth 100000
theorem fact25 : (fun (P : Program) (f : FuncId) (fn : Func) (s : ChangeSpec) (c : OpenClaim) => (P.mayEnter : Bool)) Tryz.prog 5 Tryz.f5 Rows.mergeMergesSpec Rows.mergeMergesRow = true := by kernel_rfl
theorem fact26 : (fun (P : Program) (f : FuncId) (fn : Func) (s : ChangeSpec) (c : OpenClaim) => ((c.lifted == P.liftsFinal) : Bool)) Tryz.prog 5 Tryz.f5 Rows.mergeMergesSpec Rows.mergeMergesRow = true := by kernel_rfl
theorem fact27 : (fun (P : Program) (f : FuncId) (fn : Func) (s : ChangeSpec) (c : OpenClaim) => ((P.make == some c.make) : Bool)) Tryz.prog 5 Tryz.f5 Rows.mergeMergesSpec Rows.mergeMergesRow = true := by kernel_rfl
theorem factN : Tryz.pinned.checked.prog.funcNamed Rows.mergeMergesRow.func = some 5 := by kernel_rfl
theorem factM : Tryz.pinned.checked.prog.mainIs = some (((true, "423062caa4f29b70d0a0cde0913bad32a6168f09e58a333ac4b71fb9e424bb5c")).1, ((true, "423062caa4f29b70d0a0cde0913bad32a6168f09e58a333ac4b71fb9e424bb5c")).2.toList) := by kernel_rfl
theorem factL : true = Tryz.pinned.checked.prog.looks [] := by kernel_rfl
theorem factW3 : Tryz.pinned.checked.prog.wantsStandIn 3 = false := by kernel_rfl
theorem factW22 : Tryz.pinned.checked.prog.wantsStandIn 22 = false := by kernel_rfl
theorem factW37 : Tryz.pinned.checked.prog.wantsStandIn 37 = false := by kernel_rfl
theorem factW50 : Tryz.pinned.checked.prog.wantsStandIn 50 = false := by kernel_rfl
theorem factG : false = Rows.mergeMergesRow.goesBy Tryz.pinned.checked.prog := by kernel_rfl
end Go.Proofs.YtbobcaffmbaadaaGreatDoor.mergeMerges

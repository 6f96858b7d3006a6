/- What the program's tables say of types and functions. -/
import Derived.Test.YtohfoenhmkfjkaaGreatDoorProg
import Derived.Test.YtohfoenhmkfjkaaGreatDoorKHeap
import Derived.KernelRfl
namespace Go.K
open Go.Proofs
theorem mixed : Tryz.prog.follows .mixedOrders = true := by kernel_rfl
end Go.K

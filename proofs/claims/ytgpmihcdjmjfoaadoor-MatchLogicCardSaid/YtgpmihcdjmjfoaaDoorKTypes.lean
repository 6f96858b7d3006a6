/- What the program's tables say of types and functions. -/
import Derived.Test.YtgpmihcdjmjfoaaDoorProg
import Derived.Test.YtgpmihcdjmjfoaaDoorKCell
import Derived.KernelRfl
namespace Go.K
open Go.Proofs
theorem I3 : TI Tryd.prog 3 (.int .i64 0) 1 8 := by unfold TI; kernel_rfl -- int
theorem I5 : TI Tryd.prog 5 (.int .u8 0) 1 1 := by unfold TI; kernel_rfl -- uint8
theorem I57 : TI Tryd.prog 57 (.slice none 0 0) 1 24 := by unfold TI; kernel_rfl -- []uint64
theorem I59 : TI Tryd.prog 59 (.agg #[(.int .i64 0), (.slice none 0 0)]) 2 32 := by unfold TI; kernel_rfl -- bits.Set
theorem I60 : TI Tryd.prog 60 (.int .u64 0) 1 8 := by unfold TI; kernel_rfl -- uint64
theorem B59 : placesOf Tryd.prog 59 = [(0, 1), (1, 1)].map some := by kernel_rfl
theorem mixed : Tryd.prog.follows .mixedOrders = true := by kernel_rfl
theorem E23 : Enters Tryd.prog 23 := enters Tryd.func23 rfl (by decide) -- (*concordance/bits.Set).turn
theorem E28 : Enters Tryd.prog 28 := enters Tryd.func28 rfl (by decide) -- (*concordance/bits.Set).in
theorem E29 : Enters Tryd.prog 29 := enters Tryd.func29 rfl (by decide) -- (*concordance/bits.Set).Has
end Go.K

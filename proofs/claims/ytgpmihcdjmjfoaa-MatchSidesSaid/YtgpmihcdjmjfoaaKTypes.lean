/- What the program's tables say of types and functions. -/
import Derived.Test.YtgpmihcdjmjfoaaProg
import Derived.Test.YtgpmihcdjmjfoaaKHeap
import Derived.KernelRfl
namespace Go.K
open Go.Proofs
theorem I3 : TI Try.prog 3 (.int .i64 0) 1 8 := by unfold TI; kernel_rfl -- int
theorem I5 : TI Try.prog 5 (.int .u8 0) 1 1 := by unfold TI; kernel_rfl -- uint8
theorem I31 : TI Try.prog 31 (.int .i64 0) 1 8 := by unfold TI; kernel_rfl -- api.Errno
theorem mixed : Try.prog.follows .mixedOrders = true := by kernel_rfl
theorem E51 : Enters Try.prog 51 := enters Try.func51 rfl (by decide) -- concordance/vint.Put
theorem E78 : Enters Try.prog 78 := enters Try.func78 rfl (by decide) -- concordance/vint.Get
theorem E84 : Enters Try.prog 84 := enters Try.func84 rfl (by decide) -- concordance/vint.GetRising$1
end Go.K

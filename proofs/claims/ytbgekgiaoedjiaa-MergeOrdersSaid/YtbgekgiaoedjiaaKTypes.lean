/- What the program's tables say of types and functions. -/
import Derived.Test.YtbgekgiaoedjiaaProg
import Derived.Test.YtbgekgiaoedjiaaKCell
import Derived.KernelRfl
namespace Go.K
open Go.Proofs
theorem I3 : TI Try.prog 3 (.int .i64 0) 1 8 := by unfold TI; kernel_rfl -- int
theorem I23 : TI Try.prog 23 (.slice none 0 0) 1 24 := by unfold TI; kernel_rfl -- []int
theorem I39 : TI Try.prog 39 (.slice none 0 0) 1 24 := by unfold TI; kernel_rfl -- merge.heads
theorem I42 : TI Try.prog 42 (.agg #[(.int .i64 0), (.int .i64 0), (.int .i64 0)]) 3 24 := by unfold TI; kernel_rfl -- merge.head
theorem B42 : placesOf Try.prog 42 = [(0, 1), (1, 1), (2, 1)].map some := by kernel_rfl
theorem mixed : Try.prog.follows .mixedOrders = true := by kernel_rfl
theorem E14 : Enters Try.prog 14 := enters Try.func14 rfl (by decide) -- container/heap.Push
theorem E15 : Enters Try.prog 15 := enters Try.func15 rfl (by decide) -- (concordance/merge.heads).Len
theorem E24 : Enters Try.prog 24 := enters Try.func24 rfl (by decide) -- container/heap.up
theorem E25 : Enters Try.prog 25 := enters Try.func25 rfl (by decide) -- container/heap.down
theorem E47 : Enters Try.prog 47 := enters Try.func47 rfl (by decide) -- (concordance/merge.heads).Less
theorem E48 : Enters Try.prog 48 := enters Try.func48 rfl (by decide) -- (*concordance/merge.heads).Pop
theorem E49 : Enters Try.prog 49 := enters Try.func49 rfl (by decide) -- (*concordance/merge.heads).Push
theorem E50 : Enters Try.prog 50 := enters Try.func50 rfl (by decide) -- (concordance/merge.heads).Swap
end Go.K

/- What the program's tables say of types and functions. -/
import Derived.Test.YthgkpcpioildcaaProg
import Derived.Test.YthgkpcpioildcaaKHeap
import Derived.KernelRfl
namespace Go.K
open Go.Proofs
theorem I3 : TI Try.prog 3 (.int .i64 0) 1 8 := by unfold TI; kernel_rfl -- int
theorem I5 : TI Try.prog 5 (.int .u8 0) 1 1 := by unfold TI; kernel_rfl -- uint8
theorem I24 : TI Try.prog 24 (.int .i64 0) 1 8 := by unfold TI; kernel_rfl -- api.Errno
theorem mixed : Try.prog.follows .mixedOrders = true := by kernel_rfl
theorem E9 : Enters Try.prog 9 := enters Try.func9 rfl (by decide) -- concordance/concordancelaw04.few
theorem E10 : Enters Try.prog 10 := enters Try.func10 rfl (by decide) -- concordance/vint.Get
theorem E11 : Enters Try.prog 11 := enters Try.func11 rfl (by decide) -- concordance/concordanceref04.Get
theorem E12 : Enters Try.prog 12 := enters Try.func12 rfl (by decide) -- concordance/concordancelaw04.lives
theorem E13 : Enters Try.prog 13 := enters Try.func13 rfl (by decide) -- concordance/vint.Put
theorem E14 : Enters Try.prog 14 := enters Try.func14 rfl (by decide) -- concordance/concordanceref04.Put
theorem E15 : Enters Try.prog 15 := enters Try.func15 rfl (by decide) -- concordance/vint.Size
theorem E16 : Enters Try.prog 16 := enters Try.func16 rfl (by decide) -- concordance/concordanceref04.Rises
theorem E17 : Enters Try.prog 17 := enters Try.func17 rfl (by decide) -- concordance/vint.PutRising
theorem E18 : Enters Try.prog 18 := enters Try.func18 rfl (by decide) -- concordance/concordanceref04.Good
theorem E19 : Enters Try.prog 19 := enters Try.func19 rfl (by decide) -- concordance/concordanceref04.PutRising
theorem E20 : Enters Try.prog 20 := enters Try.func20 rfl (by decide) -- concordance/vint.GetRising
theorem E21 : Enters Try.prog 21 := enters Try.func21 rfl (by decide) -- concordance/concordanceref01.Same
theorem E22 : Enters Try.prog 22 := enters Try.func22 rfl (by decide) -- concordance/concordanceref04.GetRising
theorem E23 : Enters Try.prog 23 := enters Try.func23 rfl (by decide) -- concordance/vint.GetRising$1
end Go.K

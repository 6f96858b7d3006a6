/- What the program's tables say of types and functions. -/
import Derived.Test.YtgpmihcdjmjfoaaProg
import Derived.Test.YtgpmihcdjmjfoaaKCell
import Derived.KernelRfl
namespace Go.K
open Go.Proofs
theorem I3 : TI Try.prog 3 (.int .i64 0) 1 8 := by unfold TI; kernel_rfl -- int
theorem I5 : TI Try.prog 5 (.int .u8 0) 1 1 := by unfold TI; kernel_rfl -- uint8
theorem I23 : TI Try.prog 23 (.slice none 0 0) 1 24 := by unfold TI; kernel_rfl -- []int
theorem I30 : TI Try.prog 30 (.pointer none) 1 8 := by unfold TI; kernel_rfl -- *posting.List
theorem I31 : TI Try.prog 31 (.int .i64 0) 1 8 := by unfold TI; kernel_rfl -- api.Errno
theorem I37 : TI Try.prog 37 (.agg #[(.int .i64 0), (.slice none 0 0)]) 2 32 := by unfold TI; kernel_rfl -- api.Posting
theorem I48 : TI Try.prog 48 (.slice none 0 0) 1 24 := by unfold TI; kernel_rfl -- []uint8
theorem I74 : TI Try.prog 74 (.slice none 0 0) 1 24 := by unfold TI; kernel_rfl -- []posting.block
theorem I76 : TI Try.prog 76 (.agg #[(.slice none 0 0), (.slice none 0 0), (.int .i64 0)]) 3 56 := by unfold TI; kernel_rfl -- posting.List
theorem I81 : TI Try.prog 81 (.agg #[(.int .i64 0), (.int .i64 0), (.int .i64 0), (.int .i64 0)]) 4 32 := by unfold TI; kernel_rfl -- posting.block
theorem B37 : placesOf Try.prog 37 = [(0, 1), (1, 1)].map some := by kernel_rfl
theorem B76 : placesOf Try.prog 76 = [(0, 1), (1, 1), (2, 1)].map some := by kernel_rfl
theorem B81 : placesOf Try.prog 81 = [(0, 1), (1, 1), (2, 1), (3, 1)].map some := by kernel_rfl
theorem mixed : Try.prog.follows .mixedOrders = true := by kernel_rfl
theorem E14 : Enters Try.prog 14 := enters Try.func14 rfl (by decide) -- concordance/concordanceref04.Good
theorem E18 : Enters Try.prog 18 := enters Try.func18 rfl (by decide) -- concordance/concordanceref05.Good
theorem E19 : Enters Try.prog 19 := enters Try.func19 rfl (by decide) -- concordance/posting.Make
theorem E20 : Enters Try.prog 20 := enters Try.func20 rfl (by decide) -- (*concordance/posting.List).Blocks
theorem E21 : Enters Try.prog 21 := enters Try.func21 rfl (by decide) -- (*concordance/posting.List).Block
theorem E22 : Enters Try.prog 22 := enters Try.func22 rfl (by decide) -- (*concordance/posting.List).Last
theorem E23 : Enters Try.prog 23 := enters Try.func23 rfl (by decide) -- concordance/concordanceref01.Same
theorem E24 : Enters Try.prog 24 := enters Try.func24 rfl (by decide) -- concordance/concordancelaw05.lives
theorem E25 : Enters Try.prog 25 := enters Try.func25 rfl (by decide) -- (*concordance/posting.List).Len
theorem E28 : Enters Try.prog 28 := enters Try.func28 rfl (by decide) -- concordance/posting.May
theorem E50 : Enters Try.prog 50 := enters Try.func50 rfl (by decide) -- slices.Chunk[[]concordance/api.Posting,concordance/api.Posting]
theorem E51 : Enters Try.prog 51 := enters Try.func51 rfl (by decide) -- concordance/vint.Put
theorem E52 : Enters Try.prog 52 := enters Try.func52 rfl (by decide) -- concordance/vint.PutRising
theorem E53 : Enters Try.prog 53 := enters Try.func53 rfl (by decide) -- (*concordance/posting.List).is
theorem E54 : Enters Try.prog 54 := enters Try.func54 rfl (by decide) -- concordance/posting.take
theorem E55 : Enters Try.prog 55 := enters Try.func55 rfl (by decide) -- (*concordance/posting.List).Bytes
theorem E57 : Enters Try.prog 57 := enters Try.func57 rfl (by decide) -- concordance/posting.rises
theorem E63 : Enters Try.prog 63 := enters Try.func63 rfl (by decide) -- concordance/concordanceref04.Get
theorem E65 : Enters Try.prog 65 := enters Try.func65 rfl (by decide) -- concordance/concordanceref04.Put
theorem E77 : Enters Try.prog 77 := enters Try.func77 rfl (by decide) -- slices.Chunk[[]concordance/api.Posting,concordance/api.Posting]$1
theorem E78 : Enters Try.prog 78 := enters Try.func78 rfl (by decide) -- concordance/vint.Get
theorem E79 : Enters Try.prog 79 := enters Try.func79 rfl (by decide) -- concordance/vint.GetRising
theorem E80 : Enters Try.prog 80 := enters Try.func80 rfl (by decide) -- slices.Clone[[]byte,byte]
theorem E84 : Enters Try.prog 84 := enters Try.func84 rfl (by decide) -- concordance/vint.GetRising$1
end Go.K

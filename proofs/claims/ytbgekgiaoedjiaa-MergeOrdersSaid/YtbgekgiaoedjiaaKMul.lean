/- The walks of Go functions, operation by operation. -/
import Derived.Test.YtbgekgiaoedjiaaKTypes
import Derived.Test.YtbgekgiaoedjiaaKNum
import Derived.Test.YtbgekgiaoedjiaaKBits
import Derived.Test.YtbgekgiaoedjiaaKHp
import Derived.Test.YtbgekgiaoedjiaaKQuiet
import Derived.Test.YtbgekgiaoedjiaaProg
import Derived.KernelRfl
namespace Go.K
open Go.Proofs
namespace TKMul
theorem E29 : Enters Try.prog 29 := enters Try.func29 rfl (by decide) -- math/bits.Mul64
end TKMul
open TKMul
set_option linter.unusedVariables false
set_option linter.unusedSimpArgs false
set_option maxRecDepth 10000

theorem mask32 {n : Nat} (h : n ≤ 1073741824) : IntKind.u64.wrap ((BitVec.ofInt IntKind.u64.bits (n : Int) &&& BitVec.ofInt IntKind.u64.bits 4294967295).toNat : Int) = (n : Int) := by
  have e : (BitVec.ofInt IntKind.u64.bits (n : Int) &&& BitVec.ofInt IntKind.u64.bits 4294967295).toNat = n := by
    rw [BitVec.toNat_and, BitVec.toNat_ofInt, BitVec.toNat_ofInt]
    have h1 : ((4294967295 : Int) % ((2 ^ IntKind.u64.bits : Nat) : Int)).toNat = 2 ^ 32 - 1 := by decide
    have h2 : ((n : Int) % ((2 ^ IntKind.u64.bits : Nat) : Int)).toNat = n := by
      change ((n : Int) % ((18446744073709551616 : Nat) : Int)).toNat = n
      omega
    rw [h1, h2, Nat.and_two_pow_sub_one_eq_mod]; omega
  rw [e]; exact IntWalk.u64_in _ (by omega)
theorem shr32 {n : Nat} (h : n ≤ 1073741824) : (n : Int).fdiv (2 ^ min (Int.toNat 32) IntKind.u64.bits) = 0 := by
  show ((n : Int)).fdiv 4294967296 = 0
  rw [Int.fdiv_eq_ediv_of_nonneg _ (by decide)]; omega
/-- 'math/bits.Mul64' -/
theorem Mul64_one {w0 : World} {n : Nat} (hn : n ≤ 1073741824) :
    Spec Try.prog 29 #[.int .u64 1, .int .u64 n] w0 (fun v' w' => v' = .tuple #[.int .u64 0, .int .u64 n] ∧ w0 = w') := by
  refine spec_of (args := [_, _]) (fn := Try.f29) Try.func29 rfl (n := 51) Try.ntmps29 ?_
  refine T.seq ?_
  refine T.region ?_ -- region 0
  refine Rg.assign rfl rfl ?_
  refine Rg.assign rfl rfl ?_
  refine Rg.nil ?_
  refine T.seq ?_
  refine T.region ?_ -- region 1
  refine Rg.move rfl rfl ?_
  refine Rg.and rfl rfl rfl ?_
  refine Rg.eqv (v' := .int .u64 (1)) (congrArg _ (by first | decide | exact mask32 (by omega))) ?_
  refine Rg.assign rfl rfl ?_
  refine Rg.nil ?_
  refine T.seq ?_
  refine T.region ?_ -- region 2
  refine Rg.move rfl rfl ?_
  refine Rg.shr rfl rfl rfl (by omega) ?_
  refine Rg.eqv (v' := .int .u64 (0 : Int)) (congrArg _ (by first | decide | exact shr32 (by omega))) ?_
  refine Rg.assign rfl rfl ?_
  refine Rg.nil ?_
  refine T.seq ?_
  refine T.region ?_ -- region 3
  refine Rg.move rfl rfl ?_
  refine Rg.and rfl rfl rfl ?_
  refine Rg.eqv (v' := .int .u64 ((n : Int))) (congrArg _ (by first | decide | exact mask32 (by omega))) ?_
  refine Rg.assign rfl rfl ?_
  refine Rg.nil ?_
  refine T.seq ?_
  refine T.region ?_ -- region 4
  refine Rg.move rfl rfl ?_
  refine Rg.shr rfl rfl rfl (by omega) ?_
  refine Rg.eqv (v' := .int .u64 (0 : Int)) (congrArg _ (by first | decide | exact shr32 (by omega))) ?_
  refine Rg.assign rfl rfl ?_
  refine Rg.nil ?_
  refine T.seq ?_
  refine T.region ?_ -- region 5
  refine Rg.move rfl rfl ?_
  refine Rg.move rfl rfl ?_
  refine Rg.mulw rfl rfl rfl ?_
  refine Rg.eqv (v' := .int .u64 ((n : Int))) (congrArg _ (by rw [IntWalk.u64_in _ (by omega)]; omega)) ?_
  refine Rg.assign rfl rfl ?_
  refine Rg.nil ?_
  refine T.seq ?_
  refine T.region ?_ -- region 6
  refine Rg.move rfl rfl ?_
  refine Rg.move rfl rfl ?_
  refine Rg.mulw rfl rfl rfl ?_
  refine Rg.eqv (v' := .int .u64 (0)) (congrArg _ (by rw [IntWalk.u64_in _ (by omega)]; omega)) ?_
  refine Rg.move rfl rfl ?_
  refine Rg.shr rfl rfl rfl (by omega) ?_
  refine Rg.eqv (v' := .int .u64 (0 : Int)) (congrArg _ (by first | decide | exact shr32 (by omega))) ?_
  refine Rg.addw rfl rfl rfl ?_
  refine Rg.eqv (v' := .int .u64 (0)) (congrArg _ (by rw [IntWalk.u64_in _ (by omega)]; omega)) ?_
  refine Rg.assign rfl rfl ?_
  refine Rg.nil ?_
  refine T.seq ?_
  refine T.region ?_ -- region 7
  refine Rg.move rfl rfl ?_
  refine Rg.and rfl rfl rfl ?_
  refine Rg.eqv (v' := .int .u64 (0)) (congrArg _ (by first | decide | exact mask32 (by omega))) ?_
  refine Rg.assign rfl rfl ?_
  refine Rg.nil ?_
  refine T.seq ?_
  refine T.region ?_ -- region 8
  refine Rg.move rfl rfl ?_
  refine Rg.shr rfl rfl rfl (by omega) ?_
  refine Rg.eqv (v' := .int .u64 (0 : Int)) (congrArg _ (by first | decide | exact shr32 (by omega))) ?_
  refine Rg.assign rfl rfl ?_
  refine Rg.nil ?_
  refine T.seq ?_
  refine T.region ?_ -- region 9
  refine Rg.move rfl rfl ?_
  refine Rg.move rfl rfl ?_
  refine Rg.move rfl rfl ?_
  refine Rg.mulw rfl rfl rfl ?_
  refine Rg.eqv (v' := .int .u64 (0)) (congrArg _ (by rw [IntWalk.u64_in _ (by omega)]; omega)) ?_
  refine Rg.addw rfl rfl rfl ?_
  refine Rg.eqv (v' := .int .u64 (0)) (congrArg _ (by rw [IntWalk.u64_in _ (by omega)]; omega)) ?_
  refine Rg.assign rfl rfl ?_
  refine Rg.nil ?_
  refine T.seq ?_
  refine T.region ?_ -- region 10
  refine Rg.move rfl rfl ?_
  refine Rg.move rfl rfl ?_
  refine Rg.mulw rfl rfl rfl ?_
  refine Rg.eqv (v' := .int .u64 (0)) (congrArg _ (by rw [IntWalk.u64_in _ (by omega)]; omega)) ?_
  refine Rg.move rfl rfl ?_
  refine Rg.addw rfl rfl rfl ?_
  refine Rg.eqv (v' := .int .u64 (0)) (congrArg _ (by rw [IntWalk.u64_in _ (by omega)]; omega)) ?_
  refine Rg.move rfl rfl ?_
  refine Rg.shr rfl rfl rfl (by omega) ?_
  refine Rg.eqv (v' := .int .u64 (0 : Int)) (congrArg _ (by first | decide | exact shr32 (by omega))) ?_
  refine Rg.addw rfl rfl rfl ?_
  refine Rg.eqv (v' := .int .u64 (0)) (congrArg _ (by rw [IntWalk.u64_in _ (by omega)]; omega)) ?_
  refine Rg.assign rfl rfl ?_
  refine Rg.nil ?_
  refine T.seq ?_
  refine T.region ?_ -- region 11
  refine Rg.move rfl rfl ?_
  refine Rg.move rfl rfl ?_
  refine Rg.mulw rfl rfl rfl ?_
  refine Rg.eqv (v' := .int .u64 ((n : Int))) (congrArg _ (by rw [IntWalk.u64_in _ (by omega)]; omega)) ?_
  refine Rg.assign rfl rfl ?_
  refine Rg.nil ?_
  refine T.ret ?_
  exact Kret2 rfl rfl rfl ⟨rfl, rfl⟩

/-- 'math/bits.Mul' -/
theorem Mul_one {w0 : World} {n : Nat} (hn : n ≤ 1073741824) :
    Spec Try.prog 26 #[.int .u64 1, .int .u64 n] w0 (fun v' w' => v' = .tuple #[.int .u64 0, .int .u64 n] ∧ w0 = w') := by
  refine spec_of (args := [_, _]) (fn := Try.f26) Try.func26 rfl (n := 30) Try.ntmps26 ?_
  refine T.seq ?_
  refine T.region ?_ -- region 0
  refine Rg.assign rfl rfl ?_
  refine Rg.assign rfl rfl ?_
  refine Rg.nil ?_
  refine T.seq ?_
  refine T.iff rfl ?_
  refine T.skip ?_
  refine T.seq ?_
  refine T.region ?_ -- region 3
  refine Rg.move rfl rfl ?_
  refine Rg.move rfl rfl ?_
  refine Rg.call rfl rfl E29 (Mul64_one hn) (fun r wc h => ?_)
  obtain ⟨rfl, rfl⟩ := h
  refine Rg.move rfl rfl ?_
  refine Rg.extract rfl rfl rfl ?_
  refine Rg.extract rfl rfl rfl ?_
  refine Rg.assign rfl rfl ?_
  refine Rg.assign rfl rfl ?_
  refine Rg.nil ?_
  refine T.seq ?_
  refine T.region ?_ -- region 4
  refine Rg.move rfl rfl ?_
  refine Rg.move rfl rfl ?_
  refine Rg.assign rfl rfl ?_
  refine Rg.assign rfl rfl ?_
  refine Rg.nil ?_
  refine T.ret ?_
  exact Kret2 rfl rfl rfl ⟨rfl, rfl⟩

end Go.K

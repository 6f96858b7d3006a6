/- Numbers as the machine has them: bytes of whole numbers. -/
import Derived.Test.YtbgekgiaoedjiaaKHeap
namespace Go.K
set_option linter.unusedVariables false
set_option linter.unusedSimpArgs false

theorem byte_small (n : Nat) : IntKind.u8.wrap (n : Int) = ((UInt8.ofNat n).toNat : Int) := by
  rw [IntKind.wrap_u8]; simp [UInt8.toNat_ofNat]
theorem or128 : ∀ m : Nat, m < 256 → (BitVec.ofInt 8 (m : Int) ||| BitVec.ofInt 8 128).toNat = 128 + m % 128 := by decide +kernel
theorem byte_or (n : Nat) : IntKind.u8.wrap ((BitVec.ofInt IntKind.u8.bits (IntKind.u8.wrap (n : Int)) ||| BitVec.ofInt IntKind.u8.bits 128).toNat : Int) = ((UInt8.ofNat (128 + n % 128)).toNat : Int) := by
  have h1 : IntKind.u8.wrap (n : Int) = ((n % 256 : Nat) : Int) := by rw [IntKind.wrap_u8]; omega
  rw [h1]
  show IntKind.u8.wrap ((BitVec.ofInt 8 ((n % 256 : Nat) : Int) ||| BitVec.ofInt 8 128).toNat : Int) = _
  rw [or128 (n % 256) (by omega), IntKind.wrap_u8, show n % 256 % 128 = n % 128 from by omega]
  simp [UInt8.toNat_ofNat]
theorem shr7 (n : Nat) : ((n : Int)).fdiv (2 ^ min (Int.toNat 7) IntKind.i64.bits) = ((n / 128 : Nat) : Int) := by
  show ((n : Int)).fdiv 128 = _
  rw [Int.fdiv_eq_ediv_of_nonneg _ (by decide)]; rfl
theorem andNot128' : ∀ m : Nat, m < 256 → (BitVec.ofInt 8 (m : Int) &&& ~~~ BitVec.ofInt 8 128).toNat = m % 128 := by decide +kernel
theorem byte_andNot (c : UInt8) : IntKind.u8.wrap ((BitVec.ofInt IntKind.u8.bits (c.toNat : Int) &&& ~~~ BitVec.ofInt IntKind.u8.bits 128).toNat : Int) = ((c.toNat % 128 : Nat) : Int) := by
  show IntKind.u8.wrap ((BitVec.ofInt 8 (c.toNat : Int) &&& ~~~ BitVec.ofInt 8 128).toNat : Int) = _
  rw [andNot128' c.toNat (by have := c.toNat_lt; omega), IntKind.wrap_u8]; omega
theorem u8_lt (c : UInt8) : (c.toNat : Int) < 256 := by have := c.toNat_lt; omega
theorem or_digit (k n x : Nat) (hk : k ≤ 8) (hn : n < 128 ^ k) (hx : x < 128) :
    IntKind.i64.wrap ((BitVec.ofInt IntKind.i64.bits (n : Int) ||| BitVec.ofInt IntKind.i64.bits (IntKind.i64.wrap ((x : Int) * 2 ^ min (Int.toNat (7 * (k : Int))) IntKind.i64.bits))).toNat : Int) = ((n + x * 128 ^ k : Nat) : Int) := by
  have e7 : Int.toNat (7 * (k : Int)) = 7 * k := by omega
  have e1 : min (7 * k) 64 = 7 * k := by omega
  have e2 : (128 : Nat) ^ k = 2 ^ (7 * k) := by rw [Nat.pow_mul]
  have hp : 2 ^ (7 * k) ≤ 2 ^ 56 := Nat.pow_le_pow_right (by decide) (by omega)
  have hb : x * 2 ^ (7 * k) ≤ 127 * 2 ^ (7 * k) := Nat.mul_le_mul_right _ (by omega)
  rw [e2] at hn ⊢
  show IntKind.i64.wrap ((BitVec.ofInt 64 (n : Int) ||| BitVec.ofInt 64 (IntKind.i64.wrap ((x : Int) * 2 ^ min (Int.toNat (7 * (k : Int))) 64))).toNat : Int) = _
  rw [e7, e1]
  have e3 : ((x : Int) * 2 ^ (7 * k)) = ((x * 2 ^ (7 * k) : Nat) : Int) := by simp
  have e5 : n ||| x * 2 ^ (7 * k) = n + x * 2 ^ (7 * k) := by
    rw [Nat.or_comm, Nat.mul_comm x, ← Nat.two_pow_add_eq_or_of_lt hn x, Nat.add_comm]
  rw [e3]
  generalize x * 2 ^ (7 * k) = y at *
  generalize 2 ^ (7 * k) = z at *
  have e4 : ∀ m : Nat, m < 2 ^ 64 → (BitVec.ofInt 64 (m : Int)) = BitVec.ofNat 64 m := fun m _ => by simp
  rw [IntWalk.i64_in (y : Int) (by omega), e4 n (by omega), e4 y (by omega), BitVec.toNat_or, BitVec.toNat_ofNat, BitVec.toNat_ofNat, Nat.mod_eq_of_lt (by omega), Nat.mod_eq_of_lt (by omega), e5, IntWalk.i64_in _ (by omega)]
theorem wrap_range (x : Int) : -9223372036854775808 ≤ IntKind.i64.wrap x ∧ IntKind.i64.wrap x ≤ 9223372036854775807 := by rw [IntKind.wrap_i64]; omega
end Go.K

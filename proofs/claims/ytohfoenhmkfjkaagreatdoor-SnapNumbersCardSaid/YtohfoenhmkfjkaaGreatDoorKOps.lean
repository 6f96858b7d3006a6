/- The rules of the operations that compute with numbers, texts and bools, and of calls. No program is named here. -/
import Derived.Test.YtohfoenhmkfjkaaGreatDoorKMem
import Derived.IntWalk
import Derived.Laws.Small
namespace Go.K
set_option linter.unusedVariables false
set_option linter.unusedSimpArgs false

section
variable {P : Program} {r : Option Nat} {n : Nat} {L : Sl} {ds : List Deferred} {w : World} {K : Kt} {ops : Array Oper} {rest : List Oper}
variable {d : Nat} {ty : TypeId} {pos : String} {af : Array Edge} {x y z : Operand}

theorem Rg.eqv {d : Nat} {v v' : Value} (h : v = v') (k : Rg P r n ops rest ((d, v') :: L) ds w K) : Rg P r n ops rest ((d, v) :: L) ds w K := by subst h; exact k

theorem Rg.move {v : Value} (hx : ev L x = some v) (hd : Nat.blt d n = true) (k : Rg P r n ops rest ((d, v) :: L) ds w K) :
    Rg P r n ops ({ dst := some d, op := .move x, type := ty, pos, after := af, guard := none } :: rest) L ds w K :=
  .op (fun _ h => by cases h) rfl rfl hd v w (fun ρ h => by simp only [execOp]; rw [h x v hx]; simp) k
theorem Rg.assign {v : Value} (hx : ev L x = some v) (hd : Nat.blt d n = true) (k : Rg P r n ops rest ((d, v) :: L) ds w K) :
    Rg P r n ops ({ dst := some d, op := .assign x, type := ty, pos, after := af, guard := none } :: rest) L ds w K :=
  .op (fun _ h => by cases h) rfl rfl hd v w (fun ρ h => by simp only [execOp]; rw [h x v hx]; simp) k

theorem Rg.pickt {v : Value} (hx : ev L x = some (.bool true)) (hy : ev L y = some v) (hd : Nat.blt d n = true) (k : Rg P r n ops rest ((d, v) :: L) ds w K) :
    Rg P r n ops ({ dst := some d, op := .pick x y z, type := ty, pos, after := af, guard := none } :: rest) L ds w K :=
  .op (fun _ h => by cases h) rfl rfl hd v w (fun ρ h => by simp only [execOp]; rw [h x _ hx, h y v hy]; simp [asBool]) k
theorem Rg.pickf {v : Value} (hx : ev L x = some (.bool false)) (hz : ev L z = some v) (hd : Nat.blt d n = true) (k : Rg P r n ops rest ((d, v) :: L) ds w K) :
    Rg P r n ops ({ dst := some d, op := .pick x y z, type := ty, pos, after := af, guard := none } :: rest) L ds w K :=
  .op (fun _ h => by cases h) rfl rfl hd v w (fun ρ h => by simp only [execOp]; rw [h x _ hx, h z v hz]; simp [asBool]) k

theorem Rg.not {b : Bool} {xt : TypeId} (hx : ev L x = some (.bool b)) (hd : Nat.blt d n = true) (k : Rg P r n ops rest ((d, .bool (!b)) :: L) ds w K) :
    Rg P r n ops ({ dst := some d, op := .unOp .not xt x, type := ty, pos, after := af, guard := none } :: rest) L ds w K :=
  .op (fun _ h => by cases h) rfl rfl hd _ w (fun ρ h => by simp only [execOp]; rw [h x _ hx]; simp [Op.unary]) k

theorem run_bin {op : BinOp} {k : IntKind} {p q : Int} {t : TypeId} {x y : Operand} {v : Value} {s : Sem Value} (hs : binOp op t (.int k p) (.int k q) = s) (hr : s.run P w = .ok v w) :
    Sem.run P (do eqGuard op t x y (.int k p) (.int k q); binOp op t (.int k p) (.int k q)) w = .ok v w := by
  rw [hs]
  have : (eqGuard op t x y (.int k p) (.int k q)).run P w = .ok () w := by unfold eqGuard; cases op <;> simp
  simp [Sem.run_bind, this, hr]

theorem Rg.bin {op : BinOp} {t t' : TypeId} {k : IntKind} {p q : Int} {v : Value} (hx : ev L x = some (.int k p)) (hy : ev L y = some (.int k q)) (hd : Nat.blt d n = true)
    (hr : (binOp op t (.int k p) (.int k q)).run P w = .ok v w) (kk : Rg P r n ops rest ((d, v) :: L) ds w K) :
    Rg P r n ops ({ dst := some d, op := .binOp op t x y t', type := ty, pos, after := af, guard := none } :: rest) L ds w K :=
  .op (fun _ h => by cases h) rfl rfl hd v w (fun ρ h => by
    simp only [execOp]; rw [h x _ hx, h y _ hy, Sem.run_bind, run_bin rfl hr]; simp) kk

-- int (64 bits): sums, differences, products that fit
theorem Rg.iadd {t t' : TypeId} {p q : Int} (hx : ev L x = some (.int .i64 p)) (hy : ev L y = some (.int .i64 q)) (hd : Nat.blt d n = true)
    (hb : -9223372036854775808 ≤ p + q ∧ p + q ≤ 9223372036854775807) (k : Rg P r n ops rest ((d, .int .i64 (p + q)) :: L) ds w K) :
    Rg P r n ops ({ dst := some d, op := .binOp .add t x y t', type := ty, pos, after := af, guard := none } :: rest) L ds w K :=
  .bin hx hy hd (by simp [binOp, Op.intArith, IntWalk.i64_in _ hb]) k
theorem Rg.isub {t t' : TypeId} {p q : Int} (hx : ev L x = some (.int .i64 p)) (hy : ev L y = some (.int .i64 q)) (hd : Nat.blt d n = true)
    (hb : -9223372036854775808 ≤ p - q ∧ p - q ≤ 9223372036854775807) (k : Rg P r n ops rest ((d, .int .i64 (p - q)) :: L) ds w K) :
    Rg P r n ops ({ dst := some d, op := .binOp .sub t x y t', type := ty, pos, after := af, guard := none } :: rest) L ds w K :=
  .bin hx hy hd (by simp [binOp, Op.intArith, IntWalk.i64_in _ hb]) k
theorem Rg.imul {t t' : TypeId} {p q : Int} (hx : ev L x = some (.int .i64 p)) (hy : ev L y = some (.int .i64 q)) (hd : Nat.blt d n = true)
    (hb : -9223372036854775808 ≤ p * q ∧ p * q ≤ 9223372036854775807) (k : Rg P r n ops rest ((d, .int .i64 (p * q)) :: L) ds w K) :
    Rg P r n ops ({ dst := some d, op := .binOp .mul t x y t', type := ty, pos, after := af, guard := none } :: rest) L ds w K :=
  .bin hx hy hd (by simp [binOp, Op.intArith, IntWalk.i64_in _ hb]) k
-- and those that may not
theorem Rg.addw {t t' : TypeId} {κ : IntKind} {p q : Int} (hx : ev L x = some (.int κ p)) (hy : ev L y = some (.int κ q)) (hd : Nat.blt d n = true)
    (k : Rg P r n ops rest ((d, .int κ (κ.wrap (p + q))) :: L) ds w K) :
    Rg P r n ops ({ dst := some d, op := .binOp .add t x y t', type := ty, pos, after := af, guard := none } :: rest) L ds w K := .bin hx hy hd (by simp [binOp, Op.intArith]) k
theorem Rg.subw {t t' : TypeId} {κ : IntKind} {p q : Int} (hx : ev L x = some (.int κ p)) (hy : ev L y = some (.int κ q)) (hd : Nat.blt d n = true)
    (k : Rg P r n ops rest ((d, .int κ (κ.wrap (p - q))) :: L) ds w K) :
    Rg P r n ops ({ dst := some d, op := .binOp .sub t x y t', type := ty, pos, after := af, guard := none } :: rest) L ds w K := .bin hx hy hd (by simp [binOp, Op.intArith]) k
theorem Rg.mulw {t t' : TypeId} {κ : IntKind} {p q : Int} (hx : ev L x = some (.int κ p)) (hy : ev L y = some (.int κ q)) (hd : Nat.blt d n = true)
    (k : Rg P r n ops rest ((d, .int κ (κ.wrap (p * q))) :: L) ds w K) :
    Rg P r n ops ({ dst := some d, op := .binOp .mul t x y t', type := ty, pos, after := af, guard := none } :: rest) L ds w K := .bin hx hy hd (by simp [binOp, Op.intArith]) k
theorem Rg.idiv {t t' : TypeId} {p q : Int} (hx : ev L x = some (.int .i64 p)) (hy : ev L y = some (.int .i64 q)) (hd : Nat.blt d n = true)
    (hb : 0 ≤ p ∧ p ≤ 9223372036854775807 ∧ 1 ≤ q) (k : Rg P r n ops rest ((d, .int .i64 (p / q)) :: L) ds w K) :
    Rg P r n ops ({ dst := some d, op := .binOp .quo t x y t', type := ty, pos, after := af, guard := none } :: rest) L ds w K :=
  .bin hx hy hd (by simp [binOp, Op.intDiv, show q ≠ 0 from by omega, IntWalk.i64_quo p q hb]) k
theorem Rg.imod {t t' : TypeId} {κ : IntKind} {p q : Int} (hx : ev L x = some (.int κ p)) (hy : ev L y = some (.int κ q)) (hd : Nat.blt d n = true)
    (hb : 0 ≤ p ∧ 1 ≤ q) (k : Rg P r n ops rest ((d, .int κ (p % q)) :: L) ds w K) :
    Rg P r n ops ({ dst := some d, op := .binOp .rem t x y t', type := ty, pos, after := af, guard := none } :: rest) L ds w K :=
  .bin hx hy hd (by simp [binOp, Op.intDiv, show q ≠ 0 from by omega, IntWalk.rem_in p q hb.1]) k
theorem Rg.irem {t t' : TypeId} {κ : IntKind} {p q : Int} (hx : ev L x = some (.int κ p)) (hy : ev L y = some (.int κ q)) (hd : Nat.blt d n = true)
    (hb : q ≠ 0) (k : Rg P r n ops rest ((d, .int κ (p.tmod q)) :: L) ds w K) :
    Rg P r n ops ({ dst := some d, op := .binOp .rem t x y t', type := ty, pos, after := af, guard := none } :: rest) L ds w K :=
  .bin hx hy hd (by simp [binOp, Op.intDiv, hb]) k
theorem Rg.neg {xt : TypeId} {p : Int} (hx : ev L x = some (.int .i64 p)) (hd : Nat.blt d n = true) (hb : -9223372036854775808 ≤ -p ∧ -p ≤ 9223372036854775807)
    (k : Rg P r n ops rest ((d, .int .i64 (-p)) :: L) ds w K) :
    Rg P r n ops ({ dst := some d, op := .unOp .neg xt x, type := ty, pos, after := af, guard := none } :: rest) L ds w K :=
  .op (fun _ h => by cases h) rfl rfl hd _ w (fun ρ h => by simp only [execOp]; rw [h x _ hx]; simp [Op.unary, Op.intArith, IntWalk.i64_in _ hb]) k
-- bits
theorem Rg.shr {t t' : TypeId} {κ κ' : IntKind} {p q : Int} (hx : ev L x = some (.int κ p)) (hy : ev L y = some (.int κ' q)) (hd : Nat.blt d n = true) (hq : 0 ≤ q)
    (k : Rg P r n ops rest ((d, .int κ (p.fdiv (2 ^ min q.toNat κ.bits))) :: L) ds w K) :
    Rg P r n ops ({ dst := some d, op := .binOp .shr t x y t', type := ty, pos, after := af, guard := none } :: rest) L ds w K :=
  .op (fun _ h => by cases h) rfl rfl hd _ w (fun ρ h => by
    simp only [execOp]; rw [h x _ hx, h y _ hy]; simp [eqGuard, binOp, Op.shift, show ¬ q < 0 from by omega]) k
theorem Rg.shl {t t' : TypeId} {κ κ' : IntKind} {p q : Int} (hx : ev L x = some (.int κ p)) (hy : ev L y = some (.int κ' q)) (hd : Nat.blt d n = true) (hq : 0 ≤ q)
    (k : Rg P r n ops rest ((d, .int κ (κ.wrap (p * 2 ^ min q.toNat κ.bits))) :: L) ds w K) :
    Rg P r n ops ({ dst := some d, op := .binOp .shl t x y t', type := ty, pos, after := af, guard := none } :: rest) L ds w K :=
  .op (fun _ h => by cases h) rfl rfl hd _ w (fun ρ h => by
    simp only [execOp]; rw [h x _ hx, h y _ hy]; simp [eqGuard, binOp, Op.shift, show ¬ q < 0 from by omega]) k
theorem Rg.and {t t' : TypeId} {κ : IntKind} {p q : Int} (hx : ev L x = some (.int κ p)) (hy : ev L y = some (.int κ q)) (hd : Nat.blt d n = true)
    (k : Rg P r n ops rest ((d, .int κ (κ.wrap (BitVec.ofInt κ.bits p &&& BitVec.ofInt κ.bits q).toNat)) :: L) ds w K) :
    Rg P r n ops ({ dst := some d, op := .binOp .and t x y t', type := ty, pos, after := af, guard := none } :: rest) L ds w K := .bin hx hy hd (by simp [binOp, Op.intBits]) k
theorem Rg.or {t t' : TypeId} {κ : IntKind} {p q : Int} (hx : ev L x = some (.int κ p)) (hy : ev L y = some (.int κ q)) (hd : Nat.blt d n = true)
    (k : Rg P r n ops rest ((d, .int κ (κ.wrap (BitVec.ofInt κ.bits p ||| BitVec.ofInt κ.bits q).toNat)) :: L) ds w K) :
    Rg P r n ops ({ dst := some d, op := .binOp .or t x y t', type := ty, pos, after := af, guard := none } :: rest) L ds w K := .bin hx hy hd (by simp [binOp, Op.intBits]) k
theorem Rg.xor {t t' : TypeId} {κ : IntKind} {p q : Int} (hx : ev L x = some (.int κ p)) (hy : ev L y = some (.int κ q)) (hd : Nat.blt d n = true)
    (k : Rg P r n ops rest ((d, .int κ (κ.wrap (BitVec.ofInt κ.bits p ^^^ BitVec.ofInt κ.bits q).toNat)) :: L) ds w K) :
    Rg P r n ops ({ dst := some d, op := .binOp .xor t x y t', type := ty, pos, after := af, guard := none } :: rest) L ds w K := .bin hx hy hd (by simp [binOp, Op.intBits]) k
theorem Rg.andNot {t t' : TypeId} {κ : IntKind} {p q : Int} (hx : ev L x = some (.int κ p)) (hy : ev L y = some (.int κ q)) (hd : Nat.blt d n = true)
    (k : Rg P r n ops rest ((d, .int κ (κ.wrap (BitVec.ofInt κ.bits p &&& ~~~ BitVec.ofInt κ.bits q).toNat)) :: L) ds w K) :
    Rg P r n ops ({ dst := some d, op := .binOp .andNot t x y t', type := ty, pos, after := af, guard := none } :: rest) L ds w K := .bin hx hy hd (by simp [binOp, Op.intBits]) k
-- comparisons of whole numbers
theorem Rg.ieq {t t' : TypeId} {κ : IntKind} {p q : Int} (hx : ev L x = some (.int κ p)) (hy : ev L y = some (.int κ q)) (hd : Nat.blt d n = true)
    (k : Rg P r n ops rest ((d, .bool (decide (p = q))) :: L) ds w K) :
    Rg P r n ops ({ dst := some d, op := .binOp .eql t x y t', type := ty, pos, after := af, guard := none } :: rest) L ds w K :=
  .bin hx hy hd (by simp [binOp, Op.intCmp]; rfl) k
theorem Rg.ine {t t' : TypeId} {κ : IntKind} {p q : Int} (hx : ev L x = some (.int κ p)) (hy : ev L y = some (.int κ q)) (hd : Nat.blt d n = true)
    (k : Rg P r n ops rest ((d, .bool (decide (p ≠ q))) :: L) ds w K) :
    Rg P r n ops ({ dst := some d, op := .binOp .neq t x y t', type := ty, pos, after := af, guard := none } :: rest) L ds w K :=
  .bin hx hy hd (by simp [binOp, Op.intCmp]; by_cases h : p = q <;> simp [h]) k
theorem Rg.ilt {t t' : TypeId} {κ : IntKind} {p q : Int} (hx : ev L x = some (.int κ p)) (hy : ev L y = some (.int κ q)) (hd : Nat.blt d n = true)
    (k : Rg P r n ops rest ((d, .bool (decide (p < q))) :: L) ds w K) :
    Rg P r n ops ({ dst := some d, op := .binOp .lss t x y t', type := ty, pos, after := af, guard := none } :: rest) L ds w K := .bin hx hy hd (by simp [binOp, Op.intCmp]) k
theorem Rg.ile {t t' : TypeId} {κ : IntKind} {p q : Int} (hx : ev L x = some (.int κ p)) (hy : ev L y = some (.int κ q)) (hd : Nat.blt d n = true)
    (k : Rg P r n ops rest ((d, .bool (decide (p ≤ q))) :: L) ds w K) :
    Rg P r n ops ({ dst := some d, op := .binOp .leq t x y t', type := ty, pos, after := af, guard := none } :: rest) L ds w K := .bin hx hy hd (by simp [binOp, Op.intCmp]) k
theorem Rg.igt {t t' : TypeId} {κ : IntKind} {p q : Int} (hx : ev L x = some (.int κ p)) (hy : ev L y = some (.int κ q)) (hd : Nat.blt d n = true)
    (k : Rg P r n ops rest ((d, .bool (decide (q < p))) :: L) ds w K) :
    Rg P r n ops ({ dst := some d, op := .binOp .gtr t x y t', type := ty, pos, after := af, guard := none } :: rest) L ds w K := .bin hx hy hd (by simp [binOp, Op.intCmp]) k
theorem Rg.ige {t t' : TypeId} {κ : IntKind} {p q : Int} (hx : ev L x = some (.int κ p)) (hy : ev L y = some (.int κ q)) (hd : Nat.blt d n = true)
    (k : Rg P r n ops rest ((d, .bool (decide (q ≤ p))) :: L) ds w K) :
    Rg P r n ops ({ dst := some d, op := .binOp .geq t x y t', type := ty, pos, after := af, guard := none } :: rest) L ds w K := .bin hx hy hd (by simp [binOp, Op.intCmp]) k
-- comparisons of truths
theorem Rg.beq {t t' : TypeId} {p q : Bool} (ht : P.underlying t = some .bool) (hx : ev L x = some (.bool p)) (hy : ev L y = some (.bool q)) (hd : Nat.blt d n = true)
    (k : Rg P r n ops rest ((d, .bool (decide (p = q))) :: L) ds w K) :
    Rg P r n ops ({ dst := some d, op := .binOp .eql t x y t', type := ty, pos, after := af, guard := none } :: rest) L ds w K :=
  .op (fun _ h => by cases h) rfl rfl hd _ w (fun ρ h => by
    have h1 := run_eql_bool (P := P) w t p q ht
    have h2 : (p == q) = decide (p = q) := by cases p <;> cases q <;> rfl
    rw [h2] at h1
    simp only [execOp]; rw [h x _ hx, h y _ hy, Sem.run_bind, Sem.run_bind]; simp [eqGuard, h1]) k
theorem Rg.bne {t t' : TypeId} {p q : Bool} (ht : P.underlying t = some .bool) (hx : ev L x = some (.bool p)) (hy : ev L y = some (.bool q)) (hd : Nat.blt d n = true)
    (k : Rg P r n ops rest ((d, .bool (decide (p ≠ q))) :: L) ds w K) :
    Rg P r n ops ({ dst := some d, op := .binOp .neq t x y t', type := ty, pos, after := af, guard := none } :: rest) L ds w K :=
  .op (fun _ h => by cases h) rfl rfl hd _ w (fun ρ h => by
    have h1 := run_neq_bool (P := P) w t p q ht
    have h2 : (!(p == q)) = decide (p ≠ q) := by cases p <;> cases q <;> rfl
    rw [h2] at h1
    simp only [execOp]; rw [h x _ hx, h y _ hy, Sem.run_bind, Sem.run_bind]; simp [eqGuard, h1]) k
-- conversions between whole numbers
theorem Rg.conv {s t : TypeId} {κ κ' : IntKind} {p : Int} {u : TypeDesc} (hs : P.underlying s = some u) (ht : P.underlying t = some (.int κ')) (hx : ev L x = some (.int κ p)) (hd : Nat.blt d n = true)
    (k : Rg P r n ops rest ((d, .int κ' (κ'.wrap p)) :: L) ds w K) :
    Rg P r n ops ({ dst := some d, op := .convert s t x, type := ty, pos, after := af, guard := none } :: rest) L ds w K :=
  .op (fun _ h => by cases h) rfl rfl hd _ w (fun ρ h => by
    simp only [execOp]; rw [h x _ hx]; simp [convert, run_underlying hs, run_underlying ht, Conv.intToInt]) k
theorem Rg.conv64 {s t : TypeId} {κ : IntKind} {p : Int} {u : TypeDesc} (hs : P.underlying s = some u) (ht : P.underlying t = some (.int .i64)) (hx : ev L x = some (.int κ p)) (hd : Nat.blt d n = true)
    (hb : -9223372036854775808 ≤ p ∧ p ≤ 9223372036854775807) (k : Rg P r n ops rest ((d, .int .i64 p) :: L) ds w K) :
    Rg P r n ops ({ dst := some d, op := .convert s t x, type := ty, pos, after := af, guard := none } :: rest) L ds w K :=
  .conv hs ht hx hd (by rw [IntWalk.i64_in _ hb]; exact k)

-- min, max of two
theorem Rg.min2 {ats : Array TypeId} {κ κ' : IntKind} {p q : Int} (hx : ev L x = some (.int κ p)) (hy : ev L y = some (.int κ' q)) (hd : Nat.blt d n = true)
    (k : Rg P r n ops rest ((d, .int κ (min p q)) :: L) ds w K) :
    Rg P r n ops ({ dst := some d, op := .call { callee := .builtin .min, args := #[x, y], argTypes := ats }, type := ty, pos, after := af, guard := none } :: rest) L ds w K :=
  .op (fun _ h => by cases h) rfl rfl hd _ w (fun ρ h => by
    simp only [execOp, resolve, List.map_toArray, List.map_cons, List.map_nil, h x _ hx, h y _ hy]
    simp [invoke, builtin, Builtin.min_, Builtin.min2]
    rw [Int.min_def]; split <;> split <;> omega) k
theorem Rg.max2 {ats : Array TypeId} {κ κ' : IntKind} {p q : Int} (hx : ev L x = some (.int κ p)) (hy : ev L y = some (.int κ' q)) (hd : Nat.blt d n = true)
    (k : Rg P r n ops rest ((d, .int κ (max p q)) :: L) ds w K) :
    Rg P r n ops ({ dst := some d, op := .call { callee := .builtin .max, args := #[x, y], argTypes := ats }, type := ty, pos, after := af, guard := none } :: rest) L ds w K :=
  .op (fun _ h => by cases h) rfl rfl hd _ w (fun ρ h => by
    simp only [execOp, resolve, List.map_toArray, List.map_cons, List.map_nil, h x _ hx, h y _ hy]
    simp [invoke, builtin, Builtin.max_, Builtin.max2]
    rw [Int.max_def]; split <;> split <;> omega) k

-- a part of several results
theorem Rg.extract {vs : Array Value} {i : Nat} {v : Value} (hx : ev L x = some (.tuple vs)) (hv : vs[i]? = some v) (hd : Nat.blt d n = true) (k : Rg P r n ops rest ((d, v) :: L) ds w K) :
    Rg P r n ops ({ dst := some d, op := .extract x i, type := ty, pos, after := af, guard := none } :: rest) L ds w K :=
  .op (fun _ h => by cases h) rfl rfl hd v w (fun ρ h => by simp only [execOp]; rw [h x _ hx]; simp [Instr.extract, hv]) k

-- len
theorem Rg.lensl {t e : TypeId} {α : Type} {A : RT α} {hn : 0 < A.n} {M : PSet} {w1 : World} {xs : List α} {v : Value} (ht : P.underlying t = some (.slice e)) (hx : ev L x = some v) (hv : (A.sl hn).V M w1 xs v) (hd : Nat.blt d n = true)
    (k : Rg P r n ops rest ((d, .int .i64 xs.length) :: L) ds w K) :
    Rg P r n ops ({ dst := some d, op := .call { callee := .builtin .len, args := #[x], argTypes := #[t] }, type := ty, pos, after := af, guard := none } :: rest) L ds w K := by
  obtain ⟨a, cap, rfl, _⟩ := V_sl.1 hv
  exact .op (fun _ h => by cases h) rfl rfl hd _ w (fun ρ h => by
    simp only [execOp, resolve, List.map_toArray, List.map_cons, List.map_nil, h x _ hx]
    simp [invoke, builtin, Builtin.len_, run_underlying ht, goInt]) k
theorem Rg.lenown {t e e' : TypeId} {α : Type} {A : RT α} {M : PSet} {w1 : World} {base : Nat} {xs : List α} {v : Value} (ht : P.underlying t = some (.slice e)) (hx : ev L x = some v) (hv : Own A e' M w1 base v xs) (hd : Nat.blt d n = true)
    (k : Rg P r n ops rest ((d, .int .i64 xs.length) :: L) ds w K) :
    Rg P r n ops ({ dst := some d, op := .call { callee := .builtin .len, args := #[x], argTypes := #[t] }, type := ty, pos, after := af, guard := none } :: rest) L ds w K := by
  obtain ⟨a, cap, rfl, _⟩ := hv.isSlice
  exact .op (fun _ h => by cases h) rfl rfl hd _ w (fun ρ h => by
    simp only [execOp, resolve, List.map_toArray, List.map_cons, List.map_nil, h x _ hx]
    simp [invoke, builtin, Builtin.len_, run_underlying ht, goInt]) k
theorem Rg.lenstr {t : TypeId} {s : ByteArray} (ht : P.underlying t = some .string) (hx : ev L x = some (.string s)) (hd : Nat.blt d n = true)
    (k : Rg P r n ops rest ((d, .int .i64 s.size) :: L) ds w K) :
    Rg P r n ops ({ dst := some d, op := .call { callee := .builtin .len, args := #[x], argTypes := #[t] }, type := ty, pos, after := af, guard := none } :: rest) L ds w K :=
  .op (fun _ h => by cases h) rfl rfl hd _ w (fun ρ h => by
    simp only [execOp, resolve, List.map_toArray, List.map_cons, List.map_nil, h x _ hx]
    simp [invoke, builtin, Builtin.len_, run_underlying ht, goInt]) k

-- texts
theorem bytes_toList (l : List UInt8) : (⟨l.toArray⟩ : ByteArray).toList = l := by
  have key : ∀ (k i : Nat) (acc : List UInt8), i ≤ l.length → l.length - i = k → ByteArray.toList.loop ⟨l.toArray⟩ i acc = acc.reverse ++ l.drop i := by
    intro k
    induction k with
    | zero =>
      intro i acc hi hk
      unfold ByteArray.toList.loop
      rw [if_neg (by simp [ByteArray.size]; omega), List.drop_eq_nil_of_le (by omega)]; simp
    | succ k ih =>
      intro i acc hi hk
      unfold ByteArray.toList.loop
      rw [if_pos (by simp [ByteArray.size]; omega), ih (i + 1) _ (by omega) (by omega)]
      have hlt : i < l.length := by omega
      rw [List.drop_eq_getElem_cons hlt]
      simp [ByteArray.get!, getElem!_pos, hlt]
  have := key l.length 0 [] (Nat.zero_le _) (by omega)
  simpa [ByteArray.toList] using this

theorem Rg.cat {t t' : TypeId} {p q : List UInt8} (hx : ev L x = some (.string ⟨p.toArray⟩)) (hy : ev L y = some (.string ⟨q.toArray⟩)) (hd : Nat.blt d n = true) (hb : p.length + q.length ≤ 9223372036854775807)
    (k : Rg P r n ops rest ((d, .string ⟨(p ++ q).toArray⟩) :: L) ds w K) :
    Rg P r n ops ({ dst := some d, op := .binOp .add t x y t', type := ty, pos, after := af, guard := none } :: rest) L ds w K := by
  have e : (⟨p.toArray⟩ : ByteArray) ++ ⟨q.toArray⟩ = ⟨(p ++ q).toArray⟩ := by apply ByteArray.ext; simp
  refine .op (fun _ h => by cases h) rfl rfl hd _ w (fun ρ h => ?_) k
  simp only [execOp]; rw [h x _ hx, h y _ hy]
  have : ¬ (IntKind.max .i64 < ((ByteArray.size ⟨p.toArray⟩ + ByteArray.size ⟨q.toArray⟩ : Nat) : Int)) := by simp [ByteArray.size, IntKind.max, IntKind.signed, IntKind.bits]; omega
  simp [eqGuard, binOp, Op.stringOp, this, e]
  simp [ByteArray.size]; omega
theorem Rg.streq {t t' : TypeId} {p q : List UInt8} (hx : ev L x = some (.string ⟨p.toArray⟩)) (hy : ev L y = some (.string ⟨q.toArray⟩)) (hd : Nat.blt d n = true)
    (k : Rg P r n ops rest ((d, .bool (decide (p = q))) :: L) ds w K) :
    Rg P r n ops ({ dst := some d, op := .binOp .eql t x y t', type := ty, pos, after := af, guard := none } :: rest) L ds w K :=
  .op (fun _ h => by cases h) rfl rfl hd _ w (fun ρ h => by
    simp only [execOp]; rw [h x _ hx, h y _ hy]; simp [eqGuard, binOp, Op.stringOp, bytes_toList]; by_cases h : p = q <;> simp [h]) k
theorem Rg.strne {t t' : TypeId} {p q : List UInt8} (hx : ev L x = some (.string ⟨p.toArray⟩)) (hy : ev L y = some (.string ⟨q.toArray⟩)) (hd : Nat.blt d n = true)
    (k : Rg P r n ops rest ((d, .bool (decide (p ≠ q))) :: L) ds w K) :
    Rg P r n ops ({ dst := some d, op := .binOp .neq t x y t', type := ty, pos, after := af, guard := none } :: rest) L ds w K :=
  .op (fun _ h => by cases h) rfl rfl hd _ w (fun ρ h => by
    simp only [execOp]; rw [h x _ hx, h y _ hy]; simp [eqGuard, binOp, Op.stringOp, bytes_toList]; by_cases h : p = q <;> simp [h]) k

/-! ### Calls -/
/-- the values of a call's arguments -/
def evs (L : Sl) : List Operand → Option (List Value)
  | [] => some []
  | x :: xs => match ev L x, evs L xs with
    | some v, some vs => some (v :: vs)
    | _, _ => none

theorem evs_map {L : Sl} {ρ : Operand → Value} (h : ∀ x u, ev L x = some u → ρ x = u) : ∀ {xs : List Operand} {vs : List Value}, evs L xs = some vs → xs.map ρ = vs
  | [], vs, he => by simp only [evs] at he; cases he; rfl
  | x :: xs, vs, he => by
    simp only [evs] at he
    split at he
    · rename_i v us h1 h2
      cases he
      simp [h x v h1, evs_map h h2]
    · cases he

/-- the program's function f has a text of its own -/
def Enters (P : Program) (f : FuncId) : Prop := ∀ args w, (callFunc f args).run P w = .ok (.enter f args) w

theorem enters {f : FuncId} {fn : Func} (hf : P.funcs[f]? = some fn) (hb : fn.body.isNone = false) (hn : (fn.name == "runtime.NumGoroutine") = false) : Enters P f := fun args w => by
  unfold callFunc
  simp only [Sem.run_bind, program, Sem.run, Result.andThen, hf, hn]
  simp [hb]

theorem Rg.call {f : FuncId} {xs : List Operand} {vs : List Value} {ats : Array TypeId} {Q : Value → World → Prop} (hvs : evs L xs = some vs) (hd : Nat.blt d n = true) (he : Enters P f)
    (hs : Spec P f vs.toArray w Q) (k : ∀ v w', Q v w' → Rg P r n ops rest ((d, v) :: L) ds w' K) :
    Rg P r n ops ({ dst := some d, op := .call { callee := .value (.func f), args := xs.toArray, argTypes := ats }, type := ty, pos, after := af, guard := none } :: rest) L ds w K :=
  .opcall (w1 := w) (fun _ h => by cases h) rfl rfl hd (fun ρ h => by
    have h1 := evs_map h hvs
    have h2 : ρ (.func f) = .func (.func f) #[] #[] := h _ _ rfl
    simp only [execOp, resolve, List.map_toArray, h1, h2]
    simpa [Deferred.ofValue, invoke] using he _ _) hs k
theorem Rg.callu {f : FuncId} {xs : List Operand} {vs : List Value} {ats : Array TypeId} {Q : Value → World → Prop} (hvs : evs L xs = some vs) (he : Enters P f)
    (hs : Spec P f vs.toArray w Q) (k : ∀ v w', Q v w' → Rg P r n ops rest L ds w' K) :
    Rg P r n ops ({ dst := none, op := .call { callee := .value (.func f), args := xs.toArray, argTypes := ats }, type := ty, pos, after := af, guard := none } :: rest) L ds w K :=
  .opcallu (w1 := w) (fun _ h => by cases h) rfl rfl (fun ρ h => by
    have h1 := evs_map h hvs
    have h2 : ρ (.func f) = .func (.func f) #[] #[] := h _ _ rfl
    simp only [execOp, resolve, List.map_toArray, h1, h2]
    simpa [Deferred.ofValue, invoke] using he _ _) hs k
/-- a call of a function value -/
theorem Rg.callv {f : FuncId} {first captured : List Value} {xs : List Operand} {vs : List Value} {ats : Array TypeId} {Q : Value → World → Prop} (hx : ev L x = some (.func (.func f) first.toArray captured.toArray))
    (hvs : evs L xs = some vs) (hd : Nat.blt d n = true) (he : Enters P f)
    (hs : Spec P f (first ++ vs ++ captured).toArray w Q) (k : ∀ v w', Q v w' → Rg P r n ops rest ((d, v) :: L) ds w' K) :
    Rg P r n ops ({ dst := some d, op := .call { callee := .value x, args := xs.toArray, argTypes := ats }, type := ty, pos, after := af, guard := none } :: rest) L ds w K :=
  .opcall (w1 := w) (fun _ h => by cases h) rfl rfl hd (fun ρ h => by
    have h1 := evs_map h hvs
    simp only [execOp, resolve, List.map_toArray, h1, h x _ hx]
    simpa [Deferred.ofValue, invoke] using he _ _) hs k
theorem Rg.callvu {f : FuncId} {first captured : List Value} {xs : List Operand} {vs : List Value} {ats : Array TypeId} {Q : Value → World → Prop} (hx : ev L x = some (.func (.func f) first.toArray captured.toArray))
    (hvs : evs L xs = some vs) (he : Enters P f)
    (hs : Spec P f (first ++ vs ++ captured).toArray w Q) (k : ∀ v w', Q v w' → Rg P r n ops rest L ds w' K) :
    Rg P r n ops ({ dst := none, op := .call { callee := .value x, args := xs.toArray, argTypes := ats }, type := ty, pos, after := af, guard := none } :: rest) L ds w K :=
  .opcallu (w1 := w) (fun _ h => by cases h) rfl rfl (fun ρ h => by
    have h1 := evs_map h hvs
    simp only [execOp, resolve, List.map_toArray, h1, h x _ hx]
    simpa [Deferred.ofValue, invoke] using he _ _) hs k
theorem Rg.makeFunc {f : FuncId} {xs ys : List Operand} {vs us : List Value} (hvs : evs L xs = some vs) (hus : evs L ys = some us) (hd : Nat.blt d n = true)
    (k : Rg P r n ops rest ((d, .func (.func f) vs.toArray us.toArray) :: L) ds w K) :
    Rg P r n ops ({ dst := some d, op := .makeFunc (.func f) xs.toArray ys.toArray, type := ty, pos, after := af, guard := none } :: rest) L ds w K :=
  .op (fun _ h => by cases h) rfl rfl hd _ w (fun ρ h => by
    simp only [execOp, List.map_toArray, evs_map h hvs, evs_map h hus]; simp [Instr.makeFunc]) k
end
end Go.K

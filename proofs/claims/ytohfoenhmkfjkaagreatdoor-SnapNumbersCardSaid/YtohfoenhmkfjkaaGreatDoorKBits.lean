/- Sets of numbers, bit by bit: rules for words, own rows of words, a table; in plain Lean. No program is named here. -/
import Derived.Test.YtohfoenhmkfjkaaGreatDoorKFun
import Derived.Laws.MakeOwn
namespace Go.K
set_option linter.unusedVariables false
set_option linter.unusedSimpArgs false
section
variable {P : Program} {r : Option Nat} {n : Nat} {L : Sl} {ds : List Deferred} {w : World} {K : Kt} {ops : Array Oper} {rest : List Oper} {d : Nat} {x y i : Operand} {ty : TypeId} {pos : String} {af : Array Edge}
/-- an element's address, of a row that is the function's own -/
theorem Rg.idxc {t e : TypeId} {κ : IntKind} {j : Int} {b len cap bytes : Nat} {zv : Value} (ht : P.underlying t = some (.slice e)) (hi : TI P e zv 1 bytes) (hx : ev L x = some (.slice (some ⟨b, 0, none⟩) len cap)) (hix : ev L i = some (.int κ j)) (hd : Nat.blt d n = true) (hj : 0 ≤ j ∧ j < len)
    (k : Rg P r n ops rest ((d, .pointer (some ⟨b, j.toNat, none⟩)) :: L) ds w K) :
    Rg P r n ops ({ dst := some d, op := .indexAddr t x i, type := ty, pos, after := af, guard := none } :: rest) L ds w K :=
  .op (fun _ h => by cases h) rfl rfl hd _ w (fun ρ h => by
    simp only [execOp, h x _ hx, h i _ hix]
    simp [Instr.indexAt, run_underlying ht, asIntOf, hj, hi.sizeOf, Addr.add_mid]) k
/-- an element's address, of an array that a block holds -/
theorem Rg.idxarr {t e : TypeId} {κ : IntKind} {j : Int} {b len bytes : Nat} {zv : Value} (ht : P.underlying t = some (.array len e)) (hi : TI P e zv 1 bytes) (hx : ev L x = some (.pointer (some ⟨b, 0, none⟩))) (hix : ev L i = some (.int κ j)) (hd : Nat.blt d n = true) (hj : 0 ≤ j ∧ j < len)
    (k : Rg P r n ops rest ((d, .pointer (some ⟨b, j.toNat, none⟩)) :: L) ds w K) :
    Rg P r n ops ({ dst := some d, op := .indexAddr t x i, type := ty, pos, after := af, guard := none } :: rest) L ds w K :=
  .op (fun _ h => by cases h) rfl rfl hd _ w (fun ρ h => by
    simp only [execOp, h x _ hx, h i _ hix]
    simp [Instr.indexAt, run_underlying ht, asIntOf, hj, hi.sizeOf, Addr.add_mid, Instr.sureAddr]) k
/-- a row of zeros -/
theorem Rg.mk0 {t e : TypeId} {len : Nat} {bytes : Nat} {zv : Value} (M : PSet) (ht : P.underlying t = some (.slice e)) (hi : TI P e zv 1 bytes) (hz : zv.cells = #[zv]) (hx : ev L x = some (.int .i64 len)) (hy : ev L y = some (.int .i64 len)) (hd : Nat.blt d n = true) (hb : bytes * len ≤ 140737488355328) (hl : len ≤ 9223372036854775807)
    (k : ∀ b w', w.heap.size ≤ b → b < w'.heap.size → w'.heap[b]? = some (.cells (List.replicate len zv).toArray e (0, 0)) → Step M w (ins M b) w' none' → Rg P r n ops rest ((d, .slice (some ⟨b, 0, none⟩) len len) :: L) ds w' K) :
    Rg P r n ops ({ dst := some d, op := .makeSlice t x y, type := ty, pos, after := af, guard := none } :: rest) L ds w K := by
  obtain ⟨inf, i1, i2, i3, i4⟩ := hi.get
  have hm : madeCells zv.cells (len * 1) = (List.replicate len zv).toArray := by
    apply Array.ext
    · simp [madeCells]
    · intro j h1 h2; simp [madeCells, hz, Nat.mod_one]
  refine .op (fun _ h => by cases h) rfl rfl hd (.slice (some ⟨w.heap.size, 0, none⟩) len len) (w.alloc (.cells (List.replicate len zv).toArray e)) (fun ρ hρ => ?_) (k w.heap.size _ (Nat.le_refl _) (by simp) (heap_alloc_at w _) ((step_alloc M w _).own (Nat.le_refl _) (by simp)))
  have hbc : (inf.bytes : Int) * (len : Int) ≤ 281474976710656 := by
    rw [i4]
    have h1 : ((bytes * len : Nat) : Int) ≤ 281474976710656 := by omega
    rwa [Int.natCast_mul] at h1
  have hr := run_make (P := P) w t e inf zv ht i1 i2 .i64 .i64 (len : Int) (len : Int) (by omega) (Int.le_refl _) hbc (by omega)
  simp only [Int.toNat_natCast, i3, hm] at hr
  simp only [execOp, hρ x _ hx, hρ y _ hy]
  simp [Sem.run_bind, hr]
/-- all bits turned -/
theorem Rg.unxor {xt : TypeId} {p : Nat} (hx : ev L x = some (.int .u64 p)) (hd : Nat.blt d n = true) (hp : p < 2 ^ 64) (k : Rg P r n ops rest ((d, .int .u64 ((2 ^ 64 - 1 - p : Nat) : Int)) :: L) ds w K) :
    Rg P r n ops ({ dst := some d, op := .unOp .xor xt x, type := ty, pos, after := af, guard := none } :: rest) L ds w K := by
  refine .op (fun _ h => by cases h) rfl rfl hd _ w (fun ρ h => ?_) k
  have e : (2 ^ 64 - 1 : Nat) ^^^ p = 2 ^ 64 - 1 - p := by
    apply Nat.eq_of_testBit_eq
    intro j
    have h1 := Nat.testBit_two_pow_sub_succ (x := p) (n := 64) hp j
    rw [show 2 ^ 64 - 1 - p = 2 ^ 64 - (p + 1) from by omega, h1, Nat.testBit_xor, Nat.testBit_two_pow_sub_one]
    by_cases hj : j < 64
    · simp [hj]
    · have : p.testBit j = false := Nat.testBit_lt_two_pow (Nat.lt_of_lt_of_le hp (Nat.pow_le_pow_right (by decide) (by omega)))
      simp [hj, this]
  simp only [execOp, h x _ hx]
  have hb : (BitVec.ofInt IntKind.u64.bits IntKind.u64.max ^^^ BitVec.ofInt IntKind.u64.bits (p : Int)).toNat = 2 ^ 64 - 1 - p := by
    rw [BitVec.toNat_xor, BitVec.toNat_ofInt, BitVec.toNat_ofInt]
    have h1 : (IntKind.u64.max % ((2 ^ IntKind.u64.bits : Nat) : Int)).toNat = 2 ^ 64 - 1 := by decide
    have h2 : ((p : Int) % ((2 ^ IntKind.u64.bits : Nat) : Int)).toNat = p := by
      change ((p : Int) % ((18446744073709551616 : Nat) : Int)).toNat = p
      omega
    rw [h1, h2, e]
  have hw : IntKind.u64.wrap ((2 ^ 64 - 1 - p : Nat) : Int) = ((2 ^ 64 - 1 - p : Nat) : Int) := IntWalk.u64_in _ (by omega)
  have hu : (Op.unary .xor (.int .u64 (p : Int))).run P w = .ok (.int .u64 ((2 ^ 64 - 1 - p : Nat) : Int)) w := by
    change (Op.intBits .xor .u64 IntKind.u64.max (p : Int)).run P w = _
    unfold Op.intBits
    simp only []
    rw [hb, hw]
    simp
  simp [hu]
theorem Rg.negw {xt : TypeId} {κ : IntKind} {p : Int} (hx : ev L x = some (.int κ p)) (hd : Nat.blt d n = true) (k : Rg P r n ops rest ((d, .int κ (κ.wrap (0 - p))) :: L) ds w K) :
    Rg P r n ops ({ dst := some d, op := .unOp .neg xt x, type := ty, pos, after := af, guard := none } :: rest) L ds w K := by
  refine .op (fun _ h => by cases h) rfl rfl hd _ w (fun ρ h => ?_) k
  simp only [execOp, h x _ hx]
  simp [Op.unary, Op.intArith]
theorem bits64 (p q : Nat) (hp : p < 2 ^ 64) (hq : q < 2 ^ 64) : IntKind.u64.wrap (BitVec.ofInt IntKind.u64.bits (p : Int) &&& BitVec.ofInt IntKind.u64.bits (q : Int)).toNat = ((p &&& q : Nat) : Int) := by
  have h : ∀ z : Nat, z < 2 ^ 64 → ((z : Int) % ((2 ^ IntKind.u64.bits : Nat) : Int)).toNat = z := fun z hz => by
    change ((z : Int) % ((18446744073709551616 : Nat) : Int)).toNat = z
    omega
  rw [BitVec.toNat_and, BitVec.toNat_ofInt, BitVec.toNat_ofInt, h p hp, h q hq]
  exact IntWalk.u64_in _ (by have := Nat.and_le_left (n := p) (m := q); omega)
theorem xor64 (p q : Nat) (hp : p < 2 ^ 64) (hq : q < 2 ^ 64) : IntKind.u64.wrap (BitVec.ofInt IntKind.u64.bits (p : Int) ^^^ BitVec.ofInt IntKind.u64.bits (q : Int)).toNat = ((p ^^^ q : Nat) : Int) := by
  have h : ∀ z : Nat, z < 2 ^ 64 → ((z : Int) % ((2 ^ IntKind.u64.bits : Nat) : Int)).toNat = z := fun z hz => by
    change ((z : Int) % ((18446744073709551616 : Nat) : Int)).toNat = z
    omega
  rw [BitVec.toNat_xor, BitVec.toNat_ofInt, BitVec.toNat_ofInt, h p hp, h q hq]
  exact IntWalk.u64_in _ (by have := Nat.xor_lt_two_pow hp hq; omega)
end

/-! ### Bits of words -/
def bit (ws : List Nat) (i : Nat) : Bool := (ws.getD (i / 64) 0).testBit (i % 64)
def Words (ws : List Nat) : Prop := ∀ x ∈ ws, x < 2 ^ 64
theorem Words.get {ws : List Nat} (h : Words ws) (k : Nat) : ws.getD k 0 < 2 ^ 64 := by
  rw [List.getD_eq_getElem?_getD]
  cases hx : ws[k]? with
  | none => simp
  | some x => exact h x (List.mem_of_getElem? hx)
theorem getD_set (ws : List Nat) (k j x : Nat) (hk : k < ws.length) : (ws.set k x).getD j 0 = if j = k then x else ws.getD j 0 := by
  rw [List.getD_eq_getElem?_getD, List.getD_eq_getElem?_getD, List.getElem?_set]
  by_cases h : k = j
  · subst h; simp [hk]
  · rw [if_neg h, if_neg (fun e => h e.symm)]
theorem Words.set {ws : List Nat} (h : Words ws) {k x : Nat} (hx : x < 2 ^ 64) : Words (ws.set k x) := fun y hy => by
  rcases List.mem_or_eq_of_mem_set hy with h1 | h1
  · exact h y h1
  · rw [h1]; exact hx
/-- one bit turned -/
theorem bit_turn {ws : List Nat} (hw : Words ws) {i : Nat} (hi : i / 64 < ws.length) (j : Nat) : bit (ws.set (i / 64) (ws.getD (i / 64) 0 ^^^ 2 ^ (i % 64))) j = (bit ws j ^^ decide (j = i)) := by
  unfold bit
  rw [getD_set _ _ _ _ hi]
  by_cases h : j / 64 = i / 64
  · rw [if_pos h, Nat.testBit_xor, Nat.testBit_two_pow, h]
    congr 1
    exact decide_eq_decide.2 (by omega)
  · rw [if_neg h, decide_eq_false (by intro e; rw [e] at h; exact h rfl), Bool.xor_false]
/-- a word, cut off at its head -/
theorem tb_shift (x i t : Nat) : (x / 2 ^ i).testBit t = x.testBit (t + i) := Nat.testBit_div_two_pow x t

/-! ### The lowest bit -/
theorem odd_part : ∀ x : Nat, 0 < x → ∃ k m, x = 2 ^ k * (2 * m + 1) := by
  intro x
  induction x using Nat.strongRecOn with
  | _ x ih =>
    intro h
    by_cases h2 : x % 2 = 1
    · exact ⟨0, x / 2, by omega⟩
    · obtain ⟨k, m, e⟩ := ih (x / 2) (by omega) (by omega)
      refine ⟨k + 1, m, ?_⟩
      rw [Nat.pow_succ, Nat.mul_right_comm, ← e]; omega
theorem odd_tb (m : Nat) : (2 * m + 1).testBit 0 = true := by rw [Nat.testBit_zero]; exact decide_eq_true (by omega)
theorem even_tb (m : Nat) : (2 * m).testBit 0 = false := by rw [Nat.testBit_zero]; exact decide_eq_false (by omega)
theorem low_bit {k m : Nat} : (2 ^ k * (2 * m + 1)).testBit k = true ∧ ∀ t, t < k → (2 ^ k * (2 * m + 1)).testBit t = false := by
  have h := fun j => Nat.testBit_two_pow_mul_add (2 * m + 1) (b := 0) (i := k) (Nat.two_pow_pos k) j
  simp only [Nat.add_zero] at h
  constructor
  · rw [h k, if_neg (by omega), Nat.sub_self, odd_tb]
  · intro t ht
    rw [h t, if_pos ht, Nat.zero_testBit]
theorem low_and {k m : Nat} (hx : 2 ^ k * (2 * m + 1) < 2 ^ 64) : (2 ^ k * (2 * m + 1)) &&& (2 ^ 64 - 2 ^ k * (2 * m + 1)) = 2 ^ k := by
  have hp := Nat.two_pow_pos k
  have hpos : 0 < 2 ^ k * (2 * m + 1) := Nat.mul_pos hp (by omega)
  have e1 : 2 ^ 64 - 2 ^ k * (2 * m + 1) = 2 ^ 64 - ((2 ^ k * (2 * m) + (2 ^ k - 1)) + 1) := by
    have : 2 ^ k * (2 * m + 1) = 2 ^ k * (2 * m) + 2 ^ k := by rw [Nat.mul_add, Nat.mul_one]
    omega
  apply Nat.eq_of_testBit_eq
  intro j
  have e2 : 2 ^ k * (2 * m) + (2 ^ k - 1) < 2 ^ 64 := by
    have : 2 ^ k * (2 * m + 1) = 2 ^ k * (2 * m) + 2 ^ k := by rw [Nat.mul_add, Nat.mul_one]
    omega
  rw [Nat.testBit_and, e1, Nat.testBit_two_pow_sub_succ e2, Nat.testBit_two_pow_mul_add _ (by omega), Nat.testBit_two_pow_sub_one, Nat.testBit_two_pow]
  have h := Nat.testBit_two_pow_mul_add (2 * m + 1) (b := 0) (i := k) hp j
  simp only [Nat.add_zero] at h
  rw [h]
  rcases Nat.lt_trichotomy j k with h1 | h1 | h1
  · rw [if_pos h1, Nat.zero_testBit, Bool.false_and, decide_eq_false (by omega)]
  · subst h1
    have hj : j < 64 := by
      rcases Nat.lt_or_ge j 64 with h2 | h2
      · exact h2
      · have := Nat.pow_le_pow_right (n := 2) (by decide) h2
        have : 2 ^ j * 1 ≤ 2 ^ j * (2 * m + 1) := Nat.mul_le_mul_left _ (by omega)
        omega
    rw [if_neg (Nat.lt_irrefl _), if_neg (Nat.lt_irrefl _), Nat.sub_self, odd_tb, even_tb, decide_eq_true hj, decide_eq_true rfl]; rfl
  · rw [if_neg (by omega), if_neg (by omega), decide_eq_false (show ¬ k = j by omega)]
    obtain ⟨t, rfl⟩ : ∃ t, j = k + (t + 1) := ⟨j - k - 1, by omega⟩
    rw [show k + (t + 1) - k = t + 1 from by omega, Nat.testBit_succ, Nat.testBit_succ, show (2 * m + 1) / 2 = m from by omega, show 2 * m / 2 = m from by omega]
    cases m.testBit t <;> simp
def deb : List Nat := [0, 1, 56, 2, 57, 49, 28, 3, 61, 58, 42, 50, 38, 29, 17, 4, 62, 47, 59, 36, 45, 43, 51, 22, 53, 39, 33, 30, 24, 18, 12, 5, 63, 55, 48, 27, 60, 41, 37, 16, 46, 35, 44, 21, 52, 32, 23, 11, 54, 26, 40, 15, 34, 20, 31, 10, 25, 14, 19, 9, 13, 8, 7, 6]
theorem deb_at : ∀ k, k < 64 → (2 ^ k * 285870213051353865) % 2 ^ 64 / 2 ^ 58 < 64 ∧ deb[(2 ^ k * 285870213051353865) % 2 ^ 64 / 2 ^ 58]? = some k := by decide +kernel
theorem wrap64u (n : Nat) : IntKind.u64.wrap (n : Int) = ((n % 2 ^ 64 : Nat) : Int) := by
  have : IntKind.u64.wrap (n : Int) = (n : Int) % 18446744073709551616 := by simp [IntKind.wrap, IntKind.bits, IntKind.signed]
  rw [this]; omega
theorem shrw (x t : Nat) (ht : t < 64) : ((x : Int)).fdiv (2 ^ min ((t : Int)).toNat IntKind.u64.bits) = ((x / 2 ^ t : Nat) : Int) := by
  rw [Int.toNat_natCast, show min t IntKind.u64.bits = t from Nat.min_eq_left (show t ≤ 64 by omega), show (2 : Int) ^ t = ((2 ^ t : Nat) : Int) from by simp, Int.fdiv_eq_ediv_of_nonneg _ (Int.natCast_nonneg _)]
  rfl
theorem shlw (t : Nat) (ht : t < 64) : IntKind.u64.wrap (1 * 2 ^ min ((t : Int)).toNat IntKind.u64.bits) = ((2 ^ t : Nat) : Int) := by
  have h : (2 : Nat) ^ t < 2 ^ 64 := Nat.pow_lt_pow_right (by decide) ht
  rw [Int.toNat_natCast, show min t IntKind.u64.bits = t from Nat.min_eq_left (show t ≤ 64 by omega), Int.one_mul, show (2 : Int) ^ t = ((2 ^ t : Nat) : Int) from by simp, wrap64u, Nat.mod_eq_of_lt h]
def wcells (ws : List Nat) : Array Value := (ws.map fun (x : Nat) => Value.int .u64 (x : Int)).toArray
theorem wcells_get {ws : List Nat} {k : Nat} (hk : k < ws.length) : (wcells ws)[k]? = some (.int .u64 (ws.getD k 0 : Nat)) := by
  simp [wcells, List.getD_eq_getElem?_getD, List.getElem?_eq_getElem hk]
theorem wcells_set (ws : List Nat) (k x : Nat) : (wcells ws).setIfInBounds k (.int .u64 (x : Int)) = wcells (ws.set k x) := by
  simp [wcells, List.map_set]
/-- a set in memory: its block, the block of its words -/
structure SetAt (Ts Tw : TypeId) (n : Nat) (ws : List Nat) (M : PSet) (w : World) (bs bw : Nat) : Prop where
  ms : M bs
  mw : M bw
  ne : bs ≠ bw
  s : w.heap[bs]? = some (.cells #[.int .i64 n, .slice (some ⟨bw, 0, none⟩) ws.length ws.length] Ts (0, 0))
  w : w.heap[bw]? = some (.cells (wcells ws) Tw (0, 0))
  len : ws.length = (n + 63) / 64
  ok : Words ws
  nn : n ≤ 1099511627776
theorem SetAt.step {Ts Tw : TypeId} {n : Nat} {ws : List Nat} {M M' N : PSet} {w w' : World} {bs bw : Nat} (h : SetAt Ts Tw n ws M w bs bw) (s : Step M w M' w' N) (h1 : ¬ N bs) (h2 : ¬ N bw) : SetAt Ts Tw n ws M' w' bs bw :=
  ⟨(s.mem bs (lt_of_get h.s)).2 h.ms, (s.mem bw (lt_of_get h.w)).2 h.mw, h.ne, s.keep h.s h1, s.keep h.w h2, h.len, h.ok, h.nn⟩
theorem SetAt.put {Ts Tw : TypeId} {n : Nat} {ws ws' : List Nat} {M : PSet} {w w' : World} {bs bw : Nat} (h : SetAt Ts Tw n ws M w bs bw) (s : Step M w M w' (fun b => b = bw)) (hl : ws'.length = ws.length) (hw : w'.heap[bw]? = some (.cells (wcells ws') Tw (0, 0))) (ok : Words ws') : SetAt Ts Tw n ws' M w' bs bw :=
  ⟨h.ms, h.mw, h.ne, by rw [hl]; exact s.keep h.s h.ne, hw, by rw [hl]; exact h.len, ok, h.nn⟩
def inS (n : Nat) (ws : List Nat) (i : Int) : Bool := decide (0 ≤ i ∧ i < n) && bit ws i.toNat
section
variable {P : Program} {r : Option Nat} {n : Nat} {L : Sl} {ds : List Deferred} {w : World} {K : Kt} {ops : Array Oper} {rest : List Oper} {d : Nat} {x : Operand} {ty : TypeId} {pos : String} {af : Array Edge}
theorem Rg.lenraw {t e : TypeId} {a : Option Addr} {l c : Nat} (ht : P.underlying t = some (.slice e)) (hx : ev L x = some (.slice a l c)) (hd : Nat.blt d n = true)
    (k : Rg P r n ops rest ((d, .int .i64 (l : Int)) :: L) ds w K) :
    Rg P r n ops ({ dst := some d, op := .call { callee := .builtin .len, args := #[x], argTypes := #[t] }, type := ty, pos, after := af, guard := none } :: rest) L ds w K := by
  refine .op (fun _ h => by cases h) rfl rfl hd _ w (fun ρ h => ?_) k
  simp [execOp, resolve, invoke, builtin, h x _ hx, Builtin.len_, run_underlying ht, goInt]
end
theorem bit_set (ws : List Nat) {k x : Nat} (hk : k < ws.length) (j : Nat) : bit (ws.set k x) j = if j / 64 = k then x.testBit (j % 64) else bit ws j := by
  unfold bit
  rw [getD_set _ _ _ _ hk]
  split <;> rfl
theorem compl_tb {x t : Nat} (hx : x < 2 ^ 64) (ht : t < 64) : (2 ^ 64 - 1 - x).testBit t = !x.testBit t := by
  rw [show 2 ^ 64 - 1 - x = 2 ^ 64 - (x + 1) from by omega, Nat.testBit_two_pow_sub_succ hx, decide_eq_true ht, Bool.true_and]
theorem bit_out {ws : List Nat} {j : Nat} (h : ws.length ≤ j / 64) : bit ws j = false := by
  unfold bit
  rw [List.getD_eq_getElem?_getD, List.getElem?_eq_none h]; simp
theorem bit_zero (k j : Nat) : bit (List.replicate k 0) j = false := by
  unfold bit
  rw [List.getD_eq_getElem?_getD, List.getElem?_replicate]
  split <;> simp
/-- the next number from p on, or that there is none -/
def NextR (ws : List Nat) (p : Nat) (r : Int) : Prop := (∃ j : Nat, r = j ∧ p ≤ j ∧ bit ws j = true ∧ ∀ t, p ≤ t → t < j → bit ws t = false) ∨ (r = -1 ∧ ∀ t, p ≤ t → bit ws t = false)
theorem word_bit {ws : List Nat} {i t : Nat} (h : i % 64 + t < 64) : bit ws (i + t) = (ws.getD (i / 64) 0 / 2 ^ (i % 64)).testBit t := by
  unfold bit
  rw [tb_shift, show (i + t) / 64 = i / 64 from by omega, show (i + t) % 64 = t + i % 64 from by omega]
theorem shift_small {x i : Nat} (hx : x < 2 ^ 64) (hi : i < 64) {k m : Nat} (h : x / 2 ^ i = 2 ^ k * (2 * m + 1)) : i + k < 64 := by
  rcases Nat.lt_or_ge (i + k) 64 with h1 | h1
  · exact h1
  · exfalso
    have h2 : (x / 2 ^ i).testBit k = true := by rw [h]; exact low_bit.1
    rw [tb_shift] at h2
    have := Nat.testBit_lt_two_pow (Nat.lt_of_lt_of_le hx (Nat.pow_le_pow_right (n := 2) (by decide) (show 64 ≤ k + i by omega)))
    rw [this] at h2; cases h2
end Go.K

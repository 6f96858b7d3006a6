/- More rules: pointers held to nil. No program is named here. -/
import Derived.Test.YtohfoenhmkfjkaaGreatDoorKPost
namespace Go.K
set_option linter.unusedVariables false
set_option linter.unusedSimpArgs false
section
variable {P : Program} {r : Option Nat} {n : Nat} {L : Sl} {ds : List Deferred} {w : World} {K : Kt} {ops : Array Oper} {rest : List Oper} {d : Nat} {x y : Operand} {ty : TypeId} {pos : String} {af : Array Edge}
/-- a pointer, held to nil: any -/
theorem Rg.ptreq {t t' e : TypeId} {p : Option Addr} (ht : P.underlying t = some (.pointer e)) (hx : ev L x = some (.pointer p)) (hy : ev L y = some (.pointer none)) (hd : Nat.blt d n = true)
    (k : Rg P r n ops rest ((d, .bool (decide (p = none))) :: L) ds w K) :
    Rg P r n ops ({ dst := some d, op := .binOp .eql t x y t', type := ty, pos, after := af, guard := none } :: rest) L ds w K :=
  .op (fun _ h => by cases h) rfl rfl hd _ w (fun ρ h => by
    have hpe : P.underlying t = some (.pointer (P.pointee t)) := by simp [Program.pointee, ht]
    have he := run_equal_pointer_nil (P := P) w t p hpe
    simp only [execOp]; rw [h x _ hx, h y _ hy]
    cases p <;> simp [eqGuard, binOp, run_underlying ht, he]) k
theorem Rg.ptrne {t t' e : TypeId} {p : Option Addr} (ht : P.underlying t = some (.pointer e)) (hx : ev L x = some (.pointer p)) (hy : ev L y = some (.pointer none)) (hd : Nat.blt d n = true)
    (k : Rg P r n ops rest ((d, .bool (decide (p ≠ none))) :: L) ds w K) :
    Rg P r n ops ({ dst := some d, op := .binOp .neq t x y t', type := ty, pos, after := af, guard := none } :: rest) L ds w K :=
  .op (fun _ h => by cases h) rfl rfl hd _ w (fun ρ h => by
    have hpe : P.underlying t = some (.pointer (P.pointee t)) := by simp [Program.pointee, ht]
    have he := run_equal_pointer_nil (P := P) w t p hpe
    simp only [execOp]; rw [h x _ hx, h y _ hy]
    cases p <;> simp [eqGuard, binOp, run_underlying ht, he]) k
end

/-! ### Bytes of any postings -/
theorem put_len10 {n : Nat} (h : n ≤ 18446744073709551616) : (put n).length ≤ 10 := put_len (k := 9) (by omega)
theorem putR_any : ∀ (l : List Int) (last : Int), -9223372036854775808 ≤ last → (∀ x ∈ l, -9223372036854775808 ≤ x ∧ x ≤ 9223372036854775807) → (putR last l).length ≤ 10 * l.length
  | [], _, _, _ => by simp [putR]
  | x :: l, last, h1, h2 => by
    have hx := h2 x (List.mem_cons_self ..)
    have h4 := putR_any l x hx.1 (fun y hy => h2 y (List.mem_cons_of_mem _ hy))
    have h5 := put_len10 (n := (x - last - 1).toNat) (by omega)
    simp only [putR, List.length_append, List.length_cons]; omega
theorem putPo_any : ∀ (l : List Po) (last : Int), -9223372036854775808 ≤ last → (∀ p ∈ l, (-9223372036854775808 ≤ p.1 ∧ p.1 ≤ 9223372036854775807) ∧ p.2.length ≤ 10 ∧ ∀ x ∈ p.2, -9223372036854775808 ≤ x ∧ x ≤ 9223372036854775807) → (putPo last l).length ≤ 120 * l.length
  | [], _, _, _ => by simp [putPo]
  | (d, ps) :: l, last, h1, h2 => by
    obtain ⟨hd, hl, hp⟩ := h2 _ (List.mem_cons_self ..)
    simp only at hd hl hp
    have h4 := putPo_any l d hd.1 (fun y hy => h2 y (List.mem_cons_of_mem _ hy))
    have h5 := put_len10 (n := (d - last - 1).toNat) (by omega)
    have h6 := putR_any ps (-1) (by decide) hp
    have h7 := put_len10 (n := ps.length) (by omega)
    simp only [putPo, putRising, List.length_append, List.length_cons]; omega
theorem totPo_any : ∀ (l : List Po), (∀ p ∈ l, p.2.length ≤ 10) → totPo l ≤ 10 * l.length
  | [], _ => by simp [totPo]
  | (d, ps) :: l, h => by
    have a1 := totPo_any l (fun p hp => h p (List.mem_cons_of_mem _ hp))
    have a2 := h _ (List.mem_cons_self ..)
    simp only [totPo, List.map_cons, List.sum_cons, List.length_cons] at a1 a2 ⊢; omega
theorem po_all {M : PSet} {w : World} {l : List Po} {v : Value} (h : ((RT.po).sl).V M w l v) : ∀ p ∈ l, (-9223372036854775808 ≤ p.1 ∧ p.1 ≤ 9223372036854775807) ∧ ∀ x ∈ p.2, -9223372036854775808 ≤ x ∧ x ≤ 9223372036854775807 := fun (d, ps) hp => by
  obtain ⟨i, hi⟩ := List.mem_iff_getElem?.1 hp
  refine ⟨po_rng h hi, fun x hx => ?_⟩
  obtain ⟨j, hj⟩ := List.mem_iff_getElem?.1 hx
  exact po_item h hi hj
end Go.K

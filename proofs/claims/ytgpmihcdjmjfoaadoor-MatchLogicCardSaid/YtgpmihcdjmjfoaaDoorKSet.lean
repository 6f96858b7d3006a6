/- The walks of Go functions, operation by operation. -/
import Derived.Test.YtgpmihcdjmjfoaaDoorKTypes
import Derived.Test.YtgpmihcdjmjfoaaDoorKNum
import Derived.Test.YtgpmihcdjmjfoaaDoorKBits
import Derived.Test.YtgpmihcdjmjfoaaDoorKDraw
import Derived.Test.YtgpmihcdjmjfoaaDoorProg
namespace Go.K
open Go.Proofs
set_option linter.unusedVariables false
set_option linter.unusedSimpArgs false
set_option maxRecDepth 10000

/-- 'math/bits.TrailingZeros64' -/
theorem Trailing_spec {w0 : World} {k m x : Nat} (tab : ∃ e fr, w0.heap[0]? = some (.cells (deb.map fun (k : Nat) => Value.int .u8 (k : Int)).toArray e fr)) (hx : x = 2 ^ k * (2 * m + 1)) (hl : x < 2 ^ 64) :
    Spec Tryd.prog 30 #[.int .u64 x] w0 (fun v' w' => v' = .int .i64 k ∧ w0 = w') := by
  obtain ⟨et, ft, tab⟩ := tab
  have hp := Nat.two_pow_pos k
  have hpos : 0 < x := by rw [hx]; exact Nat.mul_pos hp (by omega)
  have hkx : 2 ^ k ≤ x := by rw [hx]; exact Nat.le_mul_of_pos_right _ (by omega)
  have hk : k < 64 := by
    rcases Nat.lt_or_ge k 64 with h2 | h2
    · exact h2
    · have := Nat.pow_le_pow_right (n := 2) (by decide) h2; omega
  obtain ⟨hd1, hd2⟩ := deb_at k hk
  have hcell : ((deb.map fun (k : Nat) => Value.int .u8 (k : Int)).toArray)[(2 ^ k * 285870213051353865) % 2 ^ 64 / 2 ^ 58]? = some (.int .u8 (k : Int)) := by rw [List.getElem?_toArray, List.getElem?_map, hd2]; rfl
  refine spec_of (args := [.int .u64 x]) (fn := Tryd.f30) Tryd.func30 rfl (n := 14) Tryd.ntmps30 ?_
  refine T.seq ?_
  refine T.region ?_ -- region 0
  refine Rg.assign rfl rfl ?_
  refine Rg.nil ?_
  refine T.seq ?_
  refine T.seq ?_
  refine T.region ?_ -- region 1
  refine Rg.move rfl rfl ?_
  refine Rg.ieq rfl rfl rfl ?_
  refine Rg.nil ?_
  refine T.iffp rfl ((by omega)) ?_
  refine T.skip ?_
  refine T.seq ?_
  refine T.region ?_ -- region 3
  refine Rg.move rfl rfl ?_
  refine Rg.move rfl rfl ?_
  refine Rg.negw rfl rfl ?_
  refine Rg.eqv (v' := .int .u64 ((2 ^ 64 - x : Nat) : Int)) (by rw [show (0 : Int) - (x : Int) = ((2 ^ 64 - x : Nat) : Int) - 18446744073709551616 from by omega]; simp [IntKind.wrap, IntKind.bits, IntKind.signed]; omega) ?_
  refine Rg.and rfl rfl rfl ?_
  refine Rg.eqv (v' := .int .u64 ((2 ^ k : Nat) : Int)) (by rw [bits64 x (2 ^ 64 - x) hl (by omega), hx, low_and (by omega)]) ?_
  refine Rg.mulw rfl rfl rfl ?_
  refine Rg.eqv (v' := .int .u64 (((2 ^ k * 285870213051353865) % 2 ^ 64 : Nat) : Int)) (congrArg _ (by rw [show ((2 ^ k : Nat) : Int) * 285870213051353865 = ((2 ^ k * 285870213051353865 : Nat) : Int) from by rw [Int.natCast_mul]; rfl]; exact wrap64u _)) ?_
  refine Rg.shr rfl rfl rfl (by decide) ?_
  refine Rg.eqv (v' := .int .u64 (((2 ^ k * 285870213051353865) % 2 ^ 64 / 2 ^ 58 : Nat) : Int)) (congrArg _ (shrw _ 58 (by decide))) ?_
  refine Rg.idxarr (len := 64) Tryd.underlying64 I5 rfl rfl rfl (by omega) ?_
  refine Rg.loadc (v := .int .u8 (k : Int)) Tryd.underlying5 rfl rfl rfl tab (by rw [Int.toNat_natCast]; exact hcell) ?_
  refine Rg.conv64 Tryd.underlying5 Tryd.underlying3 rfl rfl (by omega) ?_
  refine Rg.assign rfl rfl ?_
  refine Rg.nil ?_
  refine T.ret ?_
  exact Kret1 rfl rfl ⟨rfl, rfl⟩

/-- '(*concordance/bits.Set).in' -/
theorem in_spec {M : PSet} {w0 : World} {n : Nat} {ws : List Nat} {bs bw : Nat} (h : SetAt 59 60 n ws M w0 bs bw) {i : Int} :
    Spec Tryd.prog 28 #[.pointer (some ⟨bs, 0, none⟩), .int .i64 i] w0 (fun v' w' => v' = .bool (decide (0 ≤ i ∧ i < n)) ∧ w0 = w') := by
  have hS := h.s
  have hW := h.w
  have hlen := h.len
  have hok := h.ok
  have hnn := h.nn
  refine spec_of (args := [.pointer (some ⟨bs, 0, none⟩), .int .i64 i]) (fn := Tryd.f28) Tryd.func28 rfl (n := 15) Tryd.ntmps28 ?_
  refine T.seq ?_
  refine T.region ?_ -- region 0
  refine Rg.assign rfl rfl ?_
  refine Rg.nil ?_
  refine T.seq ?_
  refine T.region ?_ -- region 1
  refine Rg.move rfl rfl ?_
  refine Rg.ige rfl rfl rfl ?_
  refine Rg.move rfl rfl ?_
  refine Rg.gsplitp (g := 7) rfl (fun g1_2 => ?_) (fun g1_2 => ?_)
  · -- g1_2 True
    refine Rg.gyes rfl rfl ?_
    refine Rg.move rfl rfl ?_
    refine Rg.gyes rfl rfl ?_
    refine Rg.move rfl rfl ?_
    refine Rg.gyes rfl rfl ?_
    refine Rg.nilCheck rfl ⟨_, rfl⟩ rfl ?_
    refine Rg.gyes rfl rfl ?_
    refine Rg.fieldc Tryd.underlying59 rfl rfl I3 (by decide) rfl rfl ?_
    refine Rg.gyes rfl rfl ?_
    refine Rg.loadc Tryd.underlying3 rfl rfl rfl (by assumption) rfl ?_
    refine Rg.gyes rfl rfl ?_
    refine Rg.ilt rfl rfl rfl ?_
    refine Rg.pickt rfl rfl rfl ?_
    refine Rg.assign rfl rfl ?_
    refine Rg.nil ?_
    refine T.ret ?_
    first
    | exact Kret1 rfl rfl ⟨congrArg Value.bool (decide_eq_decide.2 (by omega)), rfl⟩
    | exact Kret1 rfl rfl ⟨congrArg Value.bool (Eq.symm (decide_eq_false (by omega))), rfl⟩
  · -- g1_2 False
    refine Rg.gno rfl rfl rfl rfl ?_
    refine Rg.gno rfl rfl rfl rfl ?_
    refine Rg.gno rfl rfl rfl rfl ?_
    refine Rg.gno rfl rfl rfl rfl ?_
    refine Rg.gno rfl rfl rfl rfl ?_
    refine Rg.gno rfl rfl rfl rfl ?_
    refine Rg.pickf rfl rfl rfl ?_
    refine Rg.assign rfl rfl ?_
    refine Rg.nil ?_
    refine T.ret ?_
    first
    | exact Kret1 rfl rfl ⟨congrArg Value.bool (decide_eq_decide.2 (by omega)), rfl⟩
    | exact Kret1 rfl rfl ⟨congrArg Value.bool (Eq.symm (decide_eq_false (by omega))), rfl⟩

/-- '(*concordance/bits.Set).Has' -/
theorem Has_spec {M : PSet} {w0 : World} {n : Nat} {ws : List Nat} {bs bw : Nat} (h : SetAt 59 60 n ws M w0 bs bw) {i : Int} :
    Spec Tryd.prog 29 #[.pointer (some ⟨bs, 0, none⟩), .int .i64 i] w0 (fun v' w' => v' = .bool (inS n ws i) ∧ w0 = w') := by
  have hS := h.s
  have hW := h.w
  have hlen := h.len
  have hok := h.ok
  have hnn := h.nn
  refine spec_of (args := [.pointer (some ⟨bs, 0, none⟩), .int .i64 i]) (fn := Tryd.f29) Tryd.func29 rfl (n := 23) Tryd.ntmps29 ?_
  refine T.seq ?_
  refine T.region ?_ -- region 0
  refine Rg.assign rfl rfl ?_
  refine Rg.nil ?_
  refine T.seq ?_
  refine T.region ?_ -- region 1
  refine Rg.move rfl rfl ?_
  refine Rg.move rfl rfl ?_
  refine Rg.call rfl rfl E28 (in_spec h) (fun r wc h => ?_)
  obtain ⟨rfl, rfl⟩ := h
  refine Rg.move rfl rfl ?_
  refine Rg.gsplitp (g := 8) rfl (fun g1_3 => ?_) (fun g1_3 => ?_)
  · -- g1_3 True
    obtain ⟨j, rfl⟩ : ∃ j : Nat, i = j := ⟨i.toNat, by omega⟩
    refine Rg.gyes rfl rfl ?_
    refine Rg.move rfl rfl ?_
    refine Rg.gyes rfl rfl ?_
    refine Rg.nilCheck rfl ⟨_, rfl⟩ rfl ?_
    refine Rg.gyes rfl rfl ?_
    refine Rg.fieldc Tryd.underlying59 rfl rfl I57 (by decide) rfl rfl ?_
    refine Rg.gyes rfl rfl ?_
    refine Rg.loadc Tryd.underlying57 rfl rfl rfl (by assumption) rfl ?_
    refine Rg.gyes rfl rfl ?_
    refine Rg.move rfl rfl ?_
    refine Rg.gyes rfl rfl ?_
    refine Rg.idiv rfl rfl rfl (by omega) ?_
    refine Rg.gyes rfl rfl ?_
    refine Rg.idxc Tryd.underlying57 I60 rfl rfl rfl (by omega) ?_
    refine Rg.gyes rfl rfl ?_
    refine Rg.loadc Tryd.underlying60 rfl rfl rfl hW (v := .int .u64 ((ws.getD (j / 64) 0 : Nat) : Int)) (by rw [show (((j : Int) / 64)).toNat = j / 64 from by omega]; exact wcells_get (by omega)) ?_
    refine Rg.gyes rfl rfl ?_
    refine Rg.move rfl rfl ?_
    refine Rg.gyes rfl rfl ?_
    refine Rg.imod rfl rfl rfl (by omega) ?_
    refine Rg.gyes rfl rfl ?_
    refine Rg.shr rfl rfl rfl (by omega) ?_
    refine Rg.eqv (v' := .int .u64 ((ws.getD (j / 64) 0 / 2 ^ (j % 64) : Nat) : Int)) (congrArg _ (by rw [show ((j : Int) % 64) = ((j % 64 : Nat) : Int) from by omega]; exact shrw _ _ (by omega))) ?_
    refine Rg.gyes rfl rfl ?_
    refine Rg.and rfl rfl rfl ?_
    refine Rg.eqv (v' := .int .u64 ((ws.getD (j / 64) 0 / 2 ^ (j % 64) % 2 : Nat) : Int)) (congrArg _ (by have := bits64 (ws.getD (j / 64) 0 / 2 ^ (j % 64)) 1 (Nat.lt_of_le_of_lt (Nat.div_le_self _ _) (hok.get _)) (by decide); rw [Nat.and_one_is_mod] at this; exact this)) ?_
    refine Rg.gyes rfl rfl ?_
    refine Rg.ieq rfl rfl rfl ?_
    refine Rg.pickt rfl rfl rfl ?_
    refine Rg.assign rfl rfl ?_
    refine Rg.nil ?_
    refine T.ret ?_
    first
    | exact Kret1 rfl rfl ⟨congrArg Value.bool (by unfold inS bit; rw [decide_eq_true g1_3, Bool.true_and, Int.toNat_natCast, Nat.testBit_eq_decide_div_mod_eq]; exact decide_eq_decide.2 (by omega)), rfl⟩
    | exact Kret1 rfl rfl ⟨congrArg Value.bool (by unfold inS; rw [decide_eq_false g1_3, Bool.false_and]), rfl⟩
  · -- g1_3 False
    refine Rg.gno rfl rfl rfl rfl ?_
    refine Rg.gno rfl rfl rfl rfl ?_
    refine Rg.gno rfl rfl rfl rfl ?_
    refine Rg.gno rfl rfl rfl rfl ?_
    refine Rg.gno rfl rfl rfl rfl ?_
    refine Rg.gno rfl rfl rfl rfl ?_
    refine Rg.gno rfl rfl rfl rfl ?_
    refine Rg.gno rfl rfl rfl rfl ?_
    refine Rg.gno rfl rfl rfl rfl ?_
    refine Rg.gno rfl rfl rfl rfl ?_
    refine Rg.gno rfl rfl rfl rfl ?_
    refine Rg.gno rfl rfl rfl rfl ?_
    refine Rg.gno rfl rfl rfl rfl ?_
    refine Rg.pickf rfl rfl rfl ?_
    refine Rg.assign rfl rfl ?_
    refine Rg.nil ?_
    refine T.ret ?_
    first
    | exact Kret1 rfl rfl ⟨congrArg Value.bool (by unfold inS bit; rw [decide_eq_true g1_3, Bool.true_and, Int.toNat_natCast, Nat.testBit_eq_decide_div_mod_eq]; exact decide_eq_decide.2 (by omega)), rfl⟩
    | exact Kret1 rfl rfl ⟨congrArg Value.bool (by unfold inS; rw [decide_eq_false g1_3, Bool.false_and]), rfl⟩

/-- '(*concordance/bits.Set).turn' -/
theorem cut_spec {M : PSet} {w0 : World} {n : Nat} {ws : List Nat} {bs bw : Nat} (h : SetAt 59 60 n ws M w0 bs bw) {i : Int} (hb : ∀ j, bit ws j = true → j < n) :
    Spec Tryd.prog 23 #[.pointer (some ⟨bs, 0, none⟩), .int .i64 i, .bool true] w0 (fun v' w' => ∃ ws', SetAt 59 60 n ws' M w' bs bw ∧ (∀ j : Nat, bit ws' j = (bit ws j && decide ((j : Int) ≠ i))) ∧ Step M w0 M w' (fun b => b = bw)) := by
  have hS := h.s
  have hW := h.w
  have hlen := h.len
  have hok := h.ok
  have hnn := h.nn
  have hmw : ∀ b : Nat, b = bw → M b := fun b hb => by rw [hb]; exact h.mw
  refine spec_of (args := [.pointer (some ⟨bs, 0, none⟩), .int .i64 i, .bool true]) (fn := Tryd.f23) Tryd.func23 rfl (n := 31) Tryd.ntmps23 ?_
  refine T.seq ?_
  refine T.region ?_ -- region 0
  refine Rg.assign rfl rfl ?_
  refine Rg.nil ?_
  refine T.seq ?_
  refine T.seq ?_
  refine T.region ?_ -- region 1
  refine Rg.move rfl rfl ?_
  refine Rg.move rfl rfl ?_
  refine Rg.call rfl rfl E28 (in_spec h) (fun r wc h => ?_)
  obtain ⟨rfl, rfl⟩ := h
  refine Rg.not rfl rfl ?_
  refine Rg.eqv (v' := .bool (decide (¬ (0 ≤ i ∧ i < n)))) (by rw [decide_not]) ?_
  refine Rg.move rfl rfl ?_
  refine Rg.gsplitp (g := 11) rfl (fun g1_4 => ?_) (fun g1_4 => ?_)
  · -- g1_4 True
    refine Rg.gno rfl rfl rfl rfl ?_
    refine Rg.gno rfl rfl rfl rfl ?_
    refine Rg.gno rfl rfl rfl rfl ?_
    refine Rg.gno rfl rfl rfl rfl ?_
    refine Rg.gno rfl rfl rfl rfl ?_
    refine Rg.pickt rfl rfl rfl ?_
    refine Rg.nil ?_
    refine T.ift rfl ?_
    refine T.seq ?_
    refine T.region ?_ -- region 2
    refine Rg.assign rfl rfl ?_
    refine Rg.nil ?_
    refine T.ret ?_
    have hnb : bit ws i.toNat = false ∨ i < 0 := by
      by_cases h0 : i < 0
      · exact .inr h0
      · left
        cases hbi : bit ws i.toNat with
        | false => rfl
        | true =>
          have := hb _ hbi
          first
          | omega
          | (exfalso; apply c1; unfold inS; rw [hbi, decide_eq_true (by omega)]; rfl)
    refine Kret1 rfl rfl ⟨ws, h, fun j => ?_, (Step.refl _ _).widen (fun _ h => h.elim) hmw⟩
    by_cases hj : (j : Int) = i
    · rw [decide_eq_false (fun h => h hj), Bool.and_false]
      rcases hnb with h1 | h1
      · rw [show i.toNat = j from by omega] at h1; exact h1
      · omega
    · rw [decide_eq_true hj, Bool.and_true]
  · -- g1_4 False
    refine Rg.gyes rfl rfl ?_
    refine Rg.move rfl rfl ?_
    refine Rg.gyes rfl rfl ?_
    refine Rg.move rfl rfl ?_
    refine Rg.gyes rfl rfl ?_
    refine Rg.call rfl rfl E29 (Has_spec h) (fun r wc h => ?_)
    obtain ⟨rfl, rfl⟩ := h
    refine Rg.gyes rfl rfl ?_
    refine Rg.move rfl rfl ?_
    refine Rg.gyes rfl rfl ?_
    refine Rg.bne Tryd.underlying4 rfl rfl rfl ?_
    refine Rg.pickf rfl rfl rfl ?_
    refine Rg.nil ?_
    refine T.ifp rfl (fun c1 => ?_) (fun c1 => ?_)
    · -- c1 True
      refine T.seq ?_
      refine T.region ?_ -- region 2
      refine Rg.assign rfl rfl ?_
      refine Rg.nil ?_
      refine T.ret ?_
      have hnb : bit ws i.toNat = false ∨ i < 0 := by
        by_cases h0 : i < 0
        · exact .inr h0
        · left
          cases hbi : bit ws i.toNat with
          | false => rfl
          | true =>
            have := hb _ hbi
            first
            | omega
            | (exfalso; apply c1; unfold inS; rw [hbi, decide_eq_true (by omega)]; rfl)
      refine Kret1 rfl rfl ⟨ws, h, fun j => ?_, (Step.refl _ _).widen (fun _ h => h.elim) hmw⟩
      by_cases hj : (j : Int) = i
      · rw [decide_eq_false (fun h => h hj), Bool.and_false]
        rcases hnb with h1 | h1
        · rw [show i.toNat = j from by omega] at h1; exact h1
        · omega
      · rw [decide_eq_true hj, Bool.and_true]
    · -- c1 False
      refine T.skip ?_
      refine T.seq ?_
      obtain ⟨j, rfl⟩ : ∃ j : Nat, i = j := ⟨i.toNat, by omega⟩
      apply T.drawT (M := M) mixed [] [Asr.eq _, Asr.eq _, Asr.eq _, Asr.eq (.slice (some ⟨bw, 0, none⟩) ws.length ws.length), Asr.eq _, Asr.eq _, Asr.eq (.pointer (some ⟨bw, ((j : Int) / 64).toNat, none⟩)), Asr.eq (.int .u64 ((ws.getD (j / 64) 0 : Nat) : Int)), Asr.eq _, Asr.eq _, Asr.eq (.int .u64 ((2 ^ (j % 64) : Nat) : Int)), Asr.eq (.int .u64 (((ws.getD (j / 64) 0 ^^^ 2 ^ (j % 64)) : Nat) : Int)), Asr.eq (.pointer (some ⟨bw, ((j : Int) / 64).toNat, none⟩))] 13 -- region 3
      · rfl
      · rfl
      · rfl
      · rfl
      · rfl
      · exact fun p hp => by cases hp
      · exact UOk.none
      · -- its operations
        refine OblsS.cons ?_ ?_
        · intro wD E sD -- 0
          refine Rg.move rfl rfl ?_
          exact Rg.nil ⟨rfl, rfl, _, rfl, rfl, Step.refl _ _⟩
        refine OblsS.cons ?_ ?_
        · intro wD E sD -- 1
          intro x_ hx_; have hx_ : x_ = _ := hx_; subst x_
          refine Rg.nilCheck rfl ⟨_, rfl⟩ rfl ?_
          exact Rg.nil ⟨rfl, rfl, _, rfl, rfl, Step.refl _ _⟩
        refine OblsS.cons ?_ ?_
        · intro wD E sD -- 2
          intro x_ hx_; have hx_ : x_ = _ := hx_; subst x_
          refine Rg.fieldc Tryd.underlying59 rfl rfl I57 (by decide) rfl rfl ?_
          exact Rg.nil ⟨rfl, rfl, _, rfl, rfl, Step.refl _ _⟩
        refine OblsS.cons ?_ ?_
        · intro wD E sD -- 3
          intro x_ hx_; have hx_ : x_ = _ := hx_; subst x_
          refine Rg.loadc Tryd.underlying57 rfl rfl rfl (Step.same0 sD (by assumption)) rfl ?_
          exact Rg.nil ⟨rfl, rfl, _, rfl, rfl, Step.refl _ _⟩
        refine OblsS.cons ?_ ?_
        · intro wD E sD -- 4
          refine Rg.move rfl rfl ?_
          exact Rg.nil ⟨rfl, rfl, _, rfl, rfl, Step.refl _ _⟩
        refine OblsS.cons ?_ ?_
        · intro wD E sD -- 5
          intro x_ hx_; have hx_ : x_ = _ := hx_; subst x_
          refine Rg.idiv rfl rfl rfl (by omega) ?_
          exact Rg.nil ⟨rfl, rfl, _, rfl, rfl, Step.refl _ _⟩
        refine OblsS.cons ?_ ?_
        · intro wD E sD -- 6
          intro x_ hx_; have hx_ : x_ = _ := hx_; subst x_
          intro x_ hx_; have hx_ : x_ = _ := hx_; subst x_
          refine Rg.idxc Tryd.underlying57 I60 rfl rfl rfl (by omega) ?_
          exact Rg.nil ⟨rfl, rfl, _, rfl, rfl, Step.refl _ _⟩
        refine OblsS.cons ?_ ?_
        · intro wD E sD -- 7
          intro x_ hx_; have hx_ : x_ = _ := hx_; subst x_
          refine Rg.loadc Tryd.underlying60 rfl rfl rfl (sD.same0 hW) (v := .int .u64 ((ws.getD (j / 64) 0 : Nat) : Int)) (by rw [show (((j : Int) / 64)).toNat = j / 64 from by omega]; exact wcells_get (by omega)) ?_
          exact Rg.nil ⟨rfl, rfl, _, rfl, rfl, Step.refl _ _⟩
        refine OblsS.cons ?_ ?_
        · intro wD E sD -- 8
          refine Rg.move rfl rfl ?_
          exact Rg.nil ⟨rfl, rfl, _, rfl, rfl, Step.refl _ _⟩
        refine OblsS.cons ?_ ?_
        · intro wD E sD -- 9
          intro x_ hx_; have hx_ : x_ = _ := hx_; subst x_
          refine Rg.imod rfl rfl rfl (by omega) ?_
          exact Rg.nil ⟨rfl, rfl, _, rfl, rfl, Step.refl _ _⟩
        refine OblsS.cons ?_ ?_
        · intro wD E sD -- 10
          intro x_ hx_; have hx_ : x_ = _ := hx_; subst x_
          refine Rg.shl rfl rfl rfl (by omega) ?_
          refine Rg.eqv (v' := .int .u64 ((2 ^ (j % 64) : Nat) : Int)) (congrArg _ (by rw [show ((j : Int) % 64) = ((j % 64 : Nat) : Int) from by omega]; exact shlw _ (by omega))) ?_
          exact Rg.nil ⟨rfl, rfl, _, rfl, rfl, Step.refl _ _⟩
        refine OblsS.cons ?_ ?_
        · intro wD E sD -- 11
          intro x_ hx_; have hx_ : x_ = _ := hx_; subst x_
          intro x_ hx_; have hx_ : x_ = _ := hx_; subst x_
          refine Rg.xor rfl rfl rfl ?_
          refine Rg.eqv (v' := .int .u64 (((ws.getD (j / 64) 0 ^^^ 2 ^ (j % 64)) : Nat) : Int)) (congrArg _ (xor64 _ _ (hok.get _) (Nat.pow_lt_pow_right (by decide) (by omega)))) ?_
          exact Rg.nil ⟨rfl, rfl, _, rfl, rfl, Step.refl _ _⟩
        refine OblsS.cons ?_ ?_
        · intro wD E sD -- 12
          intro x_ hx_; have hx_ : x_ = _ := hx_; subst x_
          intro x_ hx_; have hx_ : x_ = _ := hx_; subst x_
          intro x_ hx_; have hx_ : x_ = _ := hx_; subst x_
          intro x_ hx_; have hx_ : x_ = _ := hx_; subst x_
          intro x_ hx_; have hx_ : x_ = _ := hx_; subst x_
          intro x_ hx_; have hx_ : x_ = _ := hx_; subst x_
          intro x_ hx_; have hx_ : x_ = _ := hx_; subst x_
          intro x_ hx_; have hx_ : x_ = _ := hx_; subst x_
          intro x_ hx_; have hx_ : x_ = _ := hx_; subst x_
          intro x_ hx_; have hx_ : x_ = _ := hx_; subst x_
          intro x_ hx_; have hx_ : x_ = _ := hx_; subst x_
          intro x_ hx_; have hx_ : x_ = _ := hx_; subst x_
          intro x_ hx_; have hx_ : x_ = _ := hx_; subst x_
          intro x_ hx_; have hx_ : x_ = _ := hx_; subst x_
          refine Rg.idxc Tryd.underlying57 I60 rfl rfl rfl (by omega) ?_
          exact Rg.nil ⟨rfl, rfl, _, rfl, rfl, Step.refl _ _⟩
        exact OblsS.nil
      · -- behind it
        intro wD3 sD3
        intro x_ hx_; have hx_ : x_ = _ := hx_; subst x_
        intro x_ hx_; have hx_ : x_ = _ := hx_; subst x_
        intro x_ hx_; have hx_ : x_ = _ := hx_; subst x_
        intro x_ hx_; have hx_ : x_ = _ := hx_; subst x_
        intro x_ hx_; have hx_ : x_ = _ := hx_; subst x_
        intro x_ hx_; have hx_ : x_ = _ := hx_; subst x_
        intro x_ hx_; have hx_ : x_ = _ := hx_; subst x_
        intro x_ hx_; have hx_ : x_ = _ := hx_; subst x_
        intro x_ hx_; have hx_ : x_ = _ := hx_; subst x_
        intro x_ hx_; have hx_ : x_ = _ := hx_; subst x_
        intro x_ hx_; have hx_ : x_ = _ := hx_; subst x_
        intro x_ hx_; have hx_ : x_ = _ := hx_; subst x_
        intro x_ hx_; have hx_ : x_ = _ := hx_; subst x_
        refine Rg.storec (M := M) (u := .int .u64 ((ws.getD (j / 64) 0 : Nat) : Int)) I60 rfl rfl (sD3.same0 hW) (by rw [show ((j : Int) / 64).toNat = j / 64 from by omega]; exact wcells_get (by omega)) rfl h.mw (fun w5 hW5 s5 => ?_)
        rw [show ((j : Int) / 64).toNat = j / 64 from by omega, wcells_set] at hW5
        refine Rg.nil ?_
        refine T.seq ?_
        refine T.region ?_ -- region 4
        refine Rg.assign rfl rfl ?_
        refine Rg.nil ?_
        refine T.ret ?_
        have hX : (ws.getD (j / 64) 0 ^^^ 2 ^ (j % 64)) < 2 ^ 64 := Nat.xor_lt_two_pow (hok.get _) (Nat.pow_lt_pow_right (by decide) (by omega))
        refine Kret1 rfl rfl ⟨ws.set (j / 64) (ws.getD (j / 64) 0 ^^^ 2 ^ (j % 64)), (h.step sD3 (fun h => h) (fun h => h)).put s5 (by simp) hW5 (hok.set hX), fun t => ?_, (sD3.widen (fun _ h => h.elim) hmw).trans s5 (fun _ _ h => h)⟩
        have hhas : bit ws j = true := by
          have := Decidable.not_not.1 c1
          unfold inS at this
          rw [Int.toNat_natCast, Bool.and_eq_true] at this; exact this.2
        rw [bit_turn hok (by omega)]
        by_cases ht : t = j
        · subst ht; rw [hhas]; simp
        · rw [decide_eq_false ht, Bool.xor_false, decide_eq_true (by omega), Bool.and_true]

/-- '(*concordance/bits.Set).Cut' -/
theorem Cut_spec {M : PSet} {w0 : World} {n : Nat} {ws : List Nat} {bs bw : Nat} (h : SetAt 59 60 n ws M w0 bs bw) {i : Int} (hb : ∀ j, bit ws j = true → j < n) :
    Spec Tryd.prog 16 #[.pointer (some ⟨bs, 0, none⟩), .int .i64 i] w0 (fun v' w' => ∃ ws', SetAt 59 60 n ws' M w' bs bw ∧ (∀ j : Nat, bit ws' j = (bit ws j && decide ((j : Int) ≠ i))) ∧ Step M w0 M w' (fun b => b = bw)) := by
  refine spec_of (args := [.pointer (some ⟨bs, 0, none⟩), .int .i64 i]) (fn := Tryd.f16) Tryd.func16 rfl (n := 8) Tryd.ntmps16 ?_
  refine T.seq ?_
  refine T.region ?_ -- region 0
  refine Rg.assign rfl rfl ?_
  refine Rg.nil ?_
  refine T.seq ?_
  refine T.region ?_ -- region 1
  refine Rg.move rfl rfl ?_
  refine Rg.move rfl rfl ?_
  refine Rg.call rfl rfl E23 (cut_spec h hb) (fun r1 w1 h => ?_)
  obtain ⟨ws', h1, h2, h3⟩ := h
  refine Rg.assign rfl rfl ?_
  refine Rg.nil ?_
  refine T.ret ?_
  exact Kret1 rfl rfl ⟨ws', h1, h2, h3⟩

/-- 'concordance/bits.New' -/
theorem NewS_spec {M : PSet} {w0 : World} {n : Nat} (hn : n ≤ 1099511627776) :
    Spec Tryd.prog 21 #[.int .i64 n] w0 (fun v' w' => ∃ bs bw, v' = .pointer (some ⟨bs, 0, none⟩) ∧ w0.heap.size ≤ bs ∧ w0.heap.size ≤ bw ∧ Step M w0 (ins (ins M bw) bs) w' none' ∧ SetAt 59 60 n (List.replicate ((n + 63) / 64) 0) (ins (ins M bw) bs) w' bs bw) := by
  refine spec_of (args := [.int .i64 n]) (fn := Tryd.f21) Tryd.func21 rfl (n := 13) Tryd.ntmps21 ?_
  refine T.seq ?_
  refine T.region ?_ -- region 0
  refine Rg.assign rfl rfl ?_
  refine Rg.nil ?_
  refine T.seq ?_
  refine T.region ?_ -- region 1
  refine Rg.move rfl rfl ?_
  refine Rg.max2 rfl rfl rfl ?_
  refine Rg.eqv (v' := .int .i64 n) (congrArg _ (by omega)) ?_
  refine Rg.assign rfl rfl ?_
  refine Rg.nil ?_
  refine T.seq ?_
  refine T.region ?_ -- region 2
  refine Rg.move rfl rfl ?_
  refine Rg.move rfl rfl ?_
  refine Rg.iadd rfl rfl rfl (by omega) ?_
  refine Rg.isub rfl rfl rfl (by omega) ?_
  refine Rg.idiv rfl rfl rfl (by omega) ?_
  refine Rg.eqv (v' := .int .i64 (((n + 63) / 64 : Nat) : Int)) (congrArg _ (by omega)) ?_
  refine Rg.mk0 M Tryd.underlying57 I60 rfl rfl rfl rfl (by omega) (by omega) (fun bw w1 z1 z1' h1 s1 => ?_)
  refine Rg.build (places := [(0, 1), (1, 1)]) Tryd.underlying59 I59 B59 rfl ⟨_, _, rfl, rfl, _, _, rfl, rfl, rfl⟩ (out := [_, _]) ⟨0, [_], rfl, rfl, by simp [Value.cells], 1, [_], rfl, rfl, by simp [Value.cells], rfl⟩ ?_
  refine Rg.box (ins M bw) rfl rfl (fun bs w2 z2 z2' h2 s2 => ?_)
  have y1 := s1.size
  refine Rg.assign rfl rfl ?_
  refine Rg.nil ?_
  refine T.ret ?_
  refine Kret1 rfl rfl ⟨bs, bw, rfl, by omega, z1, s1.trans0 s2, .inl rfl, .inr (.inl rfl), by omega, by rw [List.length_replicate]; exact h2, ?_, by simp, fun x hx => by rw [List.eq_of_mem_replicate hx]; decide, hn⟩
  have := s2.same0 h1
  rw [this]; simp [wcells]

end Go.K

/- The walks of Go functions, operation by operation. -/
import Derived.Test.YtgpmihcdjmjfoaaDoorKTypes
import Derived.Test.YtgpmihcdjmjfoaaDoorKNum
import Derived.Test.YtgpmihcdjmjfoaaDoorKBits
import Derived.Test.YtgpmihcdjmjfoaaDoorKStr2
import Derived.Test.YtgpmihcdjmjfoaaDoorKMatch
import Derived.Test.YtgpmihcdjmjfoaaDoorKSides
import Derived.Test.YtgpmihcdjmjfoaaDoorKJoin
import Derived.Test.YtgpmihcdjmjfoaaDoorKDraw
import Derived.Test.YtgpmihcdjmjfoaaDoorKRef13
import Derived.Test.YtgpmihcdjmjfoaaDoorProg
import Derived.KernelRfl
namespace Go.K
open Go.Proofs
namespace TKJoin13
theorem I26 : TI Tryd.prog 26 (.agg #[(.int .i64 0), (.int .i64 0)]) 2 16 := by unfold TI; kernel_rfl -- api.Found
theorem B26 : placesOf Tryd.prog 26 = [(0, 1), (1, 1)].map some := by kernel_rfl
theorem E19 : Enters Tryd.prog 19 := enters Tryd.func19 rfl (by decide) -- concordance/concordanceref13.at
end TKJoin13
open TKJoin13
set_option linter.unusedVariables false
set_option linter.unusedSimpArgs false
set_option maxRecDepth 10000

set_option maxHeartbeats 2000000 in
/-- 'concordance/concordanceref13.Join' -/
theorem Join13_spec {M : PSet} {w0 : World} {va vb : Value} {a b : List Fo} {orr : Bool} (hM : Lt M w0) (hva : ((RT.fo).sl).V M w0 a va) (hvb : ((RT.fo).sl).V M w0 b vb) (ra : Rise a 0 1000) (rb : Rise b 0 1000) :
    Spec Tryd.prog 11 #[va, vb, .bool orr] w0 (fun v' w' => (∃ mo, (∀ p ∈ a, p.1 < (mo : Nat)) ∧ (∀ p ∈ b, p.1 < mo) ∧ mo ≤ 1000 ∧ ((RT.fo).sl).V M w' (outL (if orr = true then (1 : Int) else 2) a b 0 mo) v') ∧ Step M w0 M w' none') := by
  have hla := V_sl_len hva
  have hlb := V_sl_len hvb
  refine spec_of (args := [va, vb, .bool orr]) (fn := Tryd.f11) Tryd.func11 rfl (n := 90) Tryd.ntmps11 ?_
  refine T.seq ?_
  refine T.region ?_ -- region 0
  refine Rg.assign rfl rfl ?_
  refine Rg.nil ?_
  refine T.seq ?_
  refine T.region ?_ -- region 1
  refine Rg.assign rfl rfl ?_
  refine Rg.nil ?_
  refine T.seq ?_
  refine T.seq ?_
  refine T.region ?_ -- region 2
  refine Rg.move rfl rfl ?_
  refine Rg.lensl Tryd.underlying22 rfl hva rfl ?_
  refine Rg.igt rfl rfl rfl ?_
  refine Rg.nil ?_
  refine T.ifp rfl (fun c2 => ?_) (fun c2 => ?_)
  · -- c2 True
    refine T.region ?_ -- region 3
    refine Rg.move rfl rfl ?_
    refine Rg.move rfl rfl ?_
    refine Rg.lensl Tryd.underlying22 rfl hva rfl ?_
    refine Rg.isub rfl rfl rfl (by omega) ?_
    obtain ⟨⟨e1, t1⟩, hx1⟩ : ∃ x, a[a.length - 1]? = some x := ⟨_, List.getElem?_eq_getElem (by omega)⟩
    have re := ra.rng _ (List.mem_of_getElem? hx1)
    simp only at re
    refine Rg.idx (M := M) Tryd.underlying22 I26 rfl rfl rfl (hva) (Le.refl _ _) (by omega) (fun u3_4 a3_4 hg3_4 hu3_4 => ?_)
    obtain rfl : (e1, t1) = a3_4 := Eq.symm (Option.some.inj (hg3_4.symm.trans (by rw [show ((a.length : Int) - 1).toNat = a.length - 1 from by omega]; exact hx1)))
    refine Rg.fieldAddr (M := M) (A := RT.fo) (B := RT.int .i64) Tryd.underlying26 rfl rfl I3 (by decide) (fo0) rfl rfl (by decide) (by assumption) (by repeat (first | exact Le.refl _ _ | refine Le.trans (Step.le (by assumption)) ?_)) (fun u3_5 hu3_5 => ?_)
    refine Rg.loadi64 (M := M) Tryd.underlying3 rfl rfl (by assumption) (by repeat (first | exact Le.refl _ _ | refine Le.trans (Step.le (by assumption)) ?_)) (fun in3_6 => ?_)
    refine Rg.eqv (v' := .int .i64 (e1)) rfl ?_
    replace in3_6 : -9223372036854775808 ≤ (e1 : Int) ∧ e1 ≤ 9223372036854775807 := in3_6
    refine Rg.iadd rfl rfl rfl (by omega) ?_
    obtain ⟨m1, hm1⟩ : ∃ m1 : Nat, (m1 : Int) = e1 + 1 := ⟨(e1 + 1).toNat, by omega⟩
    refine Rg.assign rfl rfl ?_
    refine Rg.eqv (v' := .int .i64 m1) (by rw [hm1]) ?_
    have ha1 : ∀ p ∈ a, p.1 < (m1 : Nat) := fun p hp => by have := last_all ra hx1 p hp; simp only at this; omega
    have hm1k : m1 ≤ 1000 := by omega
    refine Rg.nil ?_
    refine T.seq ?_
    refine T.seq ?_
    refine T.region ?_ -- region 4
    refine Rg.move rfl rfl ?_
    refine Rg.lensl Tryd.underlying22 rfl hvb rfl ?_
    refine Rg.igt rfl rfl rfl ?_
    refine Rg.nil ?_
    refine T.ifp rfl (fun c4 => ?_) (fun c4 => ?_)
    · -- c4 True
      refine T.region ?_ -- region 5
      refine Rg.move rfl rfl ?_
      refine Rg.move rfl rfl ?_
      refine Rg.move rfl rfl ?_
      refine Rg.lensl Tryd.underlying22 rfl hvb rfl ?_
      refine Rg.isub rfl rfl rfl (by omega) ?_
      obtain ⟨⟨e2, t2⟩, hx2⟩ : ∃ x, b[b.length - 1]? = some x := ⟨_, List.getElem?_eq_getElem (by omega)⟩
      have re2 := rb.rng _ (List.mem_of_getElem? hx2)
      simp only at re2
      refine Rg.idx (M := M) Tryd.underlying22 I26 rfl rfl rfl (hvb) (Le.refl _ _) (by omega) (fun u5_5 a5_5 hg5_5 hu5_5 => ?_)
      obtain rfl : (e2, t2) = a5_5 := Eq.symm (Option.some.inj (hg5_5.symm.trans (by rw [show ((b.length : Int) - 1).toNat = b.length - 1 from by omega]; exact hx2)))
      refine Rg.fieldAddr (M := M) (A := RT.fo) (B := RT.int .i64) Tryd.underlying26 rfl rfl I3 (by decide) (fo0) rfl rfl (by decide) (by assumption) (by repeat (first | exact Le.refl _ _ | refine Le.trans (Step.le (by assumption)) ?_)) (fun u5_6 hu5_6 => ?_)
      refine Rg.loadi64 (M := M) Tryd.underlying3 rfl rfl (by assumption) (by repeat (first | exact Le.refl _ _ | refine Le.trans (Step.le (by assumption)) ?_)) (fun in5_7 => ?_)
      refine Rg.eqv (v' := .int .i64 (e2)) rfl ?_
      replace in5_7 : -9223372036854775808 ≤ (e2 : Int) ∧ e2 ≤ 9223372036854775807 := in5_7
      refine Rg.iadd rfl rfl rfl (by omega) ?_
      refine Rg.max2 rfl rfl rfl ?_
      obtain ⟨mo, hmo⟩ : ∃ mo : Nat, (mo : Int) = max (m1 : Int) (e2 + 1) := ⟨(max (m1 : Int) (e2 + 1)).toNat, by omega⟩
      refine Rg.assign rfl rfl ?_
      refine Rg.eqv (v' := .int .i64 mo) (by first | (rw [hmo]; done) | (rw [hmo, hm1]; rfl)) ?_
      have ha2 : ∀ p ∈ a, p.1 < (mo : Nat) := fun p hp => by have := ha1 p hp; omega
      have hb2 : ∀ p ∈ b, p.1 < (mo : Nat) := fun p hp => by have := last_all rb hx2 p hp; simp only at this; omega
      have hmok : mo ≤ 1000 := by omega
      refine Rg.nil ?_
      refine T.seq ?_
      refine T.region ?_ -- region 6
      refine Rg.assign rfl rfl ?_
      refine Rg.nil ?_
      refine T.seq ?_
      refine T.seq ?_
      refine T.region ?_ -- region 7
      refine Rg.assign rfl rfl ?_
      refine Rg.nil ?_
      refine T.block ?_
      refine T.loop (σ := Nat × Value) (fun s => [(0, va), (1, vb), (2, .bool orr), (7, .int .i64 mo), (8, s.2), (9, .int .i64 s.1)]) (fun s w => s.1 ≤ mo ∧ ∃ M1, Lt M1 w ∧ Step M w0 M1 w none' ∧ Own RT.fo 26 M1 w w0.heap.size s.2 (outL (if orr = true then (1 : Int) else 2) a b 0 s.1)) (fun s => mo - s.1) (0, _) (.cons rfl (.cons rfl (.cons rfl (.cons (by first | rfl | (rw [hmo]; rfl) | (rw [hmo, hm1]; rfl)) (.cons rfl (.cons rfl .nil)))))) ?_ ?_ -- loop 0
      · exact ⟨Nat.zero_le _, M, hM, Step.refl _ _, Own.nil _ _ _ _ _⟩
      · rintro ⟨k, u0⟩ w1 ⟨hk, M1, hM1, S, ho⟩
        dsimp only at hk ho ⊢
        refine T.seq ?_
        refine T.seq ?_
        refine T.region ?_ -- region 8
        refine Rg.move rfl rfl ?_
        refine Rg.move rfl rfl ?_
        refine Rg.ilt rfl rfl rfl ?_
        refine Rg.nil ?_
        refine T.ifp rfl (fun c8 => ?_) (fun c8 => ?_)
        · -- c8 True
          refine T.skip ?_
          refine T.seq ?_
          refine T.block ?_
          refine T.seq ?_
          refine T.region ?_ -- region 10
          refine Rg.move rfl rfl ?_
          refine Rg.move rfl rfl ?_
          refine Rg.call rfl rfl E19 (at13_spec (hva.le S.le)) (fun r wc h => ?_)
          obtain ⟨⟨r1, rfl, har1, h1a, h1b⟩, rfl⟩ := h
          refine Rg.assign rfl rfl ?_
          refine Rg.nil ?_
          refine T.seq ?_
          refine T.region ?_ -- region 11
          refine Rg.move rfl rfl ?_
          refine Rg.move rfl rfl ?_
          refine Rg.call rfl rfl E19 (at13_spec (hvb.le S.le)) (fun r wc h => ?_)
          obtain ⟨⟨r2, rfl, har2, h2a, h2b⟩, rfl⟩ := h
          refine Rg.assign rfl rfl ?_
          refine Rg.nil ?_
          refine T.seq ?_
          refine T.region ?_ -- region 12
          refine Rg.assign rfl rfl ?_
          refine Rg.nil ?_
          refine T.seq ?_
          refine T.seq ?_
          refine T.region ?_ -- region 13
          refine Rg.move rfl rfl ?_
          refine Rg.ige rfl rfl rfl ?_
          refine Rg.nil ?_
          refine T.ifp rfl (fun c13 => ?_) (fun c13 => ?_)
          · -- c13 True
            obtain ⟨i1, rfl, hf1, hi1⟩ : ∃ i1 : Nat, r1 = i1 ∧ hasF a (k : Int) = true ∧ a[i1]? = some ((k : Int), scoreF a (k : Int)) := by
              rcases har1 with h | h
              · exact h
              · omega
            have hk1 : (if hasF a (k : Int) = true then (1 : Int) else 0) = 1 := by rw [if_pos hf1]
            have hs1 := ra.sc _ (List.mem_of_getElem? hi1)
            simp only at hs1
            refine T.region ?_ -- region 14
            refine Rg.move rfl rfl ?_
            refine Rg.move rfl rfl ?_
            refine Rg.move rfl rfl ?_
            have hil := (List.getElem?_eq_some_iff.1 hi1).1
            refine Rg.idx (M := M1) Tryd.underlying22 I26 rfl rfl rfl (hva.le S.le) (Le.refl _ _) (by omega) (fun u14_3 a14_3 hg14_3 hu14_3 => ?_)
            obtain rfl : ((k : Int), scoreF a (k : Int)) = a14_3 := Eq.symm (Option.some.inj (hg14_3.symm.trans (by rw [Int.toNat_natCast]; exact hi1)))
            refine Rg.fieldAddr (M := M1) (A := RT.fo) (B := RT.int .i64) Tryd.underlying26 rfl rfl I3 (by decide) (fo1) rfl rfl (by decide) (by assumption) (by repeat (first | exact Le.refl _ _ | refine Le.trans (Step.le (by assumption)) ?_)) (fun u14_4 hu14_4 => ?_)
            refine Rg.loadi64 (M := M1) Tryd.underlying3 rfl rfl (by assumption) (by repeat (first | exact Le.refl _ _ | refine Le.trans (Step.le (by assumption)) ?_)) (fun in14_5 => ?_)
            refine Rg.eqv (v' := .int .i64 (scoreF a (k : Int))) rfl ?_
            replace in14_5 : -9223372036854775808 ≤ (scoreF a (k : Int) : Int) ∧ scoreF a (k : Int) ≤ 9223372036854775807 := in14_5
            refine Rg.iadd rfl rfl rfl (by omega) ?_
            refine Rg.assign rfl rfl ?_
            refine Rg.nil ?_
            refine T.seq ?_
            refine T.seq ?_
            refine T.region ?_ -- region 15
            refine Rg.move rfl rfl ?_
            refine Rg.ige rfl rfl rfl ?_
            refine Rg.nil ?_
            refine T.ifp rfl (fun c15 => ?_) (fun c15 => ?_)
            · -- c15 True
              obtain ⟨i2, rfl, hf2, hi2⟩ : ∃ i2 : Nat, r2 = i2 ∧ hasF b (k : Int) = true ∧ b[i2]? = some ((k : Int), scoreF b (k : Int)) := by
                rcases har2 with h | h
                · exact h
                · omega
              have hk2 : (if hasF b (k : Int) = true then (1 : Int) else 0) = 1 := by rw [if_pos hf2]
              have hs2 := rb.sc _ (List.mem_of_getElem? hi2)
              simp only at hs2
              refine T.region ?_ -- region 16
              refine Rg.move rfl rfl ?_
              refine Rg.move rfl rfl ?_
              refine Rg.move rfl rfl ?_
              have hil2 := (List.getElem?_eq_some_iff.1 hi2).1
              refine Rg.idx (M := M1) Tryd.underlying22 I26 rfl rfl rfl (hvb.le S.le) (Le.refl _ _) (by omega) (fun u16_3 a16_3 hg16_3 hu16_3 => ?_)
              obtain rfl : ((k : Int), scoreF b (k : Int)) = a16_3 := Eq.symm (Option.some.inj (hg16_3.symm.trans (by rw [Int.toNat_natCast]; exact hi2)))
              refine Rg.fieldAddr (M := M1) (A := RT.fo) (B := RT.int .i64) Tryd.underlying26 rfl rfl I3 (by decide) (fo1) rfl rfl (by decide) (by assumption) (by repeat (first | exact Le.refl _ _ | refine Le.trans (Step.le (by assumption)) ?_)) (fun u16_4 hu16_4 => ?_)
              refine Rg.loadi64 (M := M1) Tryd.underlying3 rfl rfl (by assumption) (by repeat (first | exact Le.refl _ _ | refine Le.trans (Step.le (by assumption)) ?_)) (fun in16_5 => ?_)
              refine Rg.eqv (v' := .int .i64 (scoreF b (k : Int))) rfl ?_
              replace in16_5 : -9223372036854775808 ≤ (scoreF b (k : Int) : Int) ∧ scoreF b (k : Int) ≤ 9223372036854775807 := in16_5
              refine Rg.iadd rfl rfl rfl (by omega) ?_
              refine Rg.assign rfl rfl ?_
              refine Rg.nil ?_
              refine T.seq ?_
              refine T.region ?_ -- region 17
              refine Rg.move rfl rfl ?_
              refine Rg.ige rfl rfl rfl ?_
              refine Rg.move rfl rfl ?_
              refine Rg.gsplitp (g := 68) rfl (fun g17_2 => ?_) (fun g17_2 => ?_)
              · -- g17_2 True
                refine Rg.gyes rfl rfl ?_
                refine Rg.move rfl rfl ?_
                refine Rg.gyes rfl rfl ?_
                refine Rg.ige rfl rfl rfl ?_
                refine Rg.pickt rfl rfl rfl ?_
                refine Rg.move rfl rfl ?_
                refine Rg.gsplitp (g := 72) rfl (fun g17_6 => ?_) (fun g17_6 => ?_)
                · -- g17_6 True
                  refine Rg.gno rfl rfl rfl rfl ?_
                  refine Rg.gno rfl rfl rfl rfl ?_
                  refine Rg.gnox rfl rfl rfl ?_
                  refine Rg.gnox rfl rfl rfl ?_
                  refine Rg.gnox rfl rfl rfl ?_
                  refine Rg.gnox rfl rfl rfl ?_
                  refine Rg.gnox rfl rfl rfl ?_
                  refine Rg.gnox rfl rfl rfl ?_
                  refine Rg.gno rfl rfl rfl rfl ?_
                  refine Rg.pickt rfl rfl rfl ?_
                  refine Rg.nil ?_
                  refine T.ift rfl ?_
                  refine T.region ?_ -- region 18
                  refine Rg.move rfl rfl ?_
                  refine Rg.move rfl rfl ?_
                  refine Rg.move rfl rfl ?_
                  refine Rg.eqv (v' := .int .i64 (scoreF a (k : Int) + scoreF b (k : Int))) (by congr 1; omega) ?_
                  refine Rg.build (places := [(0, 1), (1, 1)]) Tryd.underlying26 I26 B26 rfl ⟨_, _, rfl, rfl, _, _, rfl, rfl, rfl⟩ (out := [_, _]) ⟨0, [_], rfl, rfl, by simp [Value.cells], 1, [_], rfl, rfl, by simp [Value.cells], rfl⟩ ?_
                  refine Rg.sl1 (A := RT.fo) (hn := by decide) (M := M1) Tryd.underlying22 I26 (by decide) rfl rfl hM1 (V_fo (a := (k : Int)) (b := scoreF a (k : Int) + scoreF b (k : Int)) (by omega) (by omega)) (.inl rfl) (fun u5 w5 hu5 s5 => ?_)
                  have hol := outL_len (if orr = true then (1 : Int) else 2) a b k
                  refine Rg.append (M := M1) (base := w0.heap.size) Tryd.underlying22 I26 rfl rfl rfl rfl (ho.step0 s5) hu5 (Le.refl _ _) (by simp; omega) (by simp; omega) (Nat.le_trans S.size s5.size) (fun v6 M3 w6 ho6 s6 => ?_)
                  refine Rg.assign rfl rfl ?_
                  refine Rg.nil ?_
                  refine T.region ?_ -- region 9
                  refine Rg.move rfl rfl ?_
                  refine Rg.iadd rfl rfl rfl (by omega) ?_
                  refine Rg.assign rfl rfl ?_
                  refine Rg.nil ?_
                  refine ⟨rfl, (k + 1, _), (.cons rfl (.cons rfl (.cons rfl (.cons rfl (.cons rfl (.cons rfl .nil)))))), ?_, ?_⟩
                  · first
                    | exact ⟨by simp only; omega, M3, s6.lt (s5.lt hM1), (S.trans0 s5).transBlk s6 (ho.step0 s5) (Nat.le_refl _), by simp only; rw [outL_succ, jl_y (by unfold cnt; rw [hk1, hk2]; first | omega | (rw [if_pos g17_8]; omega) | (split <;> omega))]; exact ho6⟩
                    | exact ⟨by simp only; omega, M1, hM1, S, by simp only; rw [outL_succ, jl_n (by unfold cnt; rw [hk1, hk2]; first | omega | (rw [if_neg g17_8]; omega) | (split <;> omega)), List.append_nil]; exact ho⟩
                    | (exfalso; omega)
                  · simp only; omega
                · -- g17_6 False

                  refine Rg.gyes rfl rfl ?_
                  refine Rg.move rfl rfl ?_
                  refine Rg.gyes rfl rfl ?_
                  refine Rg.move rfl rfl ?_
                  refine Rg.eqv (v' := .bool (decide (orr = true))) (by simp) ?_
                  refine Rg.gsplitp (g := 74) rfl (fun g17_8 => ?_) (fun g17_8 => ?_)
                  · -- g17_8 True
                    refine Rg.gyes rfl rfl ?_
                    refine Rg.move rfl rfl ?_
                    refine Rg.gyes rfl rfl ?_
                    refine Rg.ige rfl rfl rfl ?_
                    refine Rg.gyes rfl rfl ?_
                    refine Rg.move rfl rfl ?_
                    refine Rg.gsplitp (g := 77) rfl (fun g17_11 => ?_) (fun g17_11 => ?_)
                    · -- g17_11 True
                      refine Rg.gno rfl rfl rfl rfl ?_
                      refine Rg.gno rfl rfl rfl rfl ?_
                      refine Rg.gyes rfl rfl ?_
                      refine Rg.pickt rfl rfl rfl ?_
                      refine Rg.gyes rfl rfl ?_
                      refine Rg.pickt rfl rfl rfl ?_
                      refine Rg.pickf rfl rfl rfl ?_
                      refine Rg.nil ?_
                      refine T.ift rfl ?_
                      refine T.region ?_ -- region 18
                      refine Rg.move rfl rfl ?_
                      refine Rg.move rfl rfl ?_
                      refine Rg.move rfl rfl ?_
                      refine Rg.eqv (v' := .int .i64 (scoreF a (k : Int) + scoreF b (k : Int))) (by congr 1; omega) ?_
                      refine Rg.build (places := [(0, 1), (1, 1)]) Tryd.underlying26 I26 B26 rfl ⟨_, _, rfl, rfl, _, _, rfl, rfl, rfl⟩ (out := [_, _]) ⟨0, [_], rfl, rfl, by simp [Value.cells], 1, [_], rfl, rfl, by simp [Value.cells], rfl⟩ ?_
                      refine Rg.sl1 (A := RT.fo) (hn := by decide) (M := M1) Tryd.underlying22 I26 (by decide) rfl rfl hM1 (V_fo (a := (k : Int)) (b := scoreF a (k : Int) + scoreF b (k : Int)) (by omega) (by omega)) (.inl rfl) (fun u5 w5 hu5 s5 => ?_)
                      have hol := outL_len (if orr = true then (1 : Int) else 2) a b k
                      refine Rg.append (M := M1) (base := w0.heap.size) Tryd.underlying22 I26 rfl rfl rfl rfl (ho.step0 s5) hu5 (Le.refl _ _) (by simp; omega) (by simp; omega) (Nat.le_trans S.size s5.size) (fun v6 M3 w6 ho6 s6 => ?_)
                      refine Rg.assign rfl rfl ?_
                      refine Rg.nil ?_
                      refine T.region ?_ -- region 9
                      refine Rg.move rfl rfl ?_
                      refine Rg.iadd rfl rfl rfl (by omega) ?_
                      refine Rg.assign rfl rfl ?_
                      refine Rg.nil ?_
                      refine ⟨rfl, (k + 1, _), (.cons rfl (.cons rfl (.cons rfl (.cons rfl (.cons rfl (.cons rfl .nil)))))), ?_, ?_⟩
                      · first
                        | exact ⟨by simp only; omega, M3, s6.lt (s5.lt hM1), (S.trans0 s5).transBlk s6 (ho.step0 s5) (Nat.le_refl _), by simp only; rw [outL_succ, jl_y (by unfold cnt; rw [hk1, hk2]; first | omega | (rw [if_pos g17_8]; omega) | (split <;> omega))]; exact ho6⟩
                        | exact ⟨by simp only; omega, M1, hM1, S, by simp only; rw [outL_succ, jl_n (by unfold cnt; rw [hk1, hk2]; first | omega | (rw [if_neg g17_8]; omega) | (split <;> omega)), List.append_nil]; exact ho⟩
                        | (exfalso; omega)
                      · simp only; omega
                    · -- g17_11 False
                      exfalso; omega
                  · -- g17_8 False
                    refine Rg.gno rfl rfl rfl rfl ?_
                    refine Rg.gno rfl rfl rfl rfl ?_
                    refine Rg.gno rfl rfl rfl rfl ?_
                    refine Rg.gnox rfl rfl rfl ?_
                    refine Rg.gnox rfl rfl rfl ?_
                    refine Rg.gno rfl rfl rfl rfl ?_
                    refine Rg.gyes rfl rfl ?_
                    refine Rg.pickf rfl rfl rfl ?_
                    refine Rg.pickf rfl rfl rfl ?_
                    refine Rg.nil ?_
                    refine T.iff rfl ?_
                    refine T.skip ?_
                    refine T.region ?_ -- region 9
                    refine Rg.move rfl rfl ?_
                    refine Rg.iadd rfl rfl rfl (by omega) ?_
                    refine Rg.assign rfl rfl ?_
                    refine Rg.nil ?_
                    refine ⟨rfl, (k + 1, _), (.cons rfl (.cons rfl (.cons rfl (.cons rfl (.cons rfl (.cons rfl .nil)))))), ?_, ?_⟩
                    · first
                      | exact ⟨by simp only; omega, M3, s6.lt (s5.lt hM1), (S.trans0 s5).transBlk s6 (ho.step0 s5) (Nat.le_refl _), by simp only; rw [outL_succ, jl_y (by unfold cnt; rw [hk1, hk2]; first | omega | (rw [if_pos g17_8]; omega) | (split <;> omega))]; exact ho6⟩
                      | exact ⟨by simp only; omega, M1, hM1, S, by simp only; rw [outL_succ, jl_n (by unfold cnt; rw [hk1, hk2]; first | omega | (rw [if_neg g17_8]; omega) | (split <;> omega)), List.append_nil]; exact ho⟩
                      | (exfalso; omega)
                    · simp only; omega
              · -- g17_2 False
                exfalso; omega
            · -- c15 False
              have hf2 : hasF b (k : Int) = false := by
                rcases har2 with ⟨i, h, _⟩ | h
                · omega
                · exact h.2
              have hk2 : (if hasF b (k : Int) = true then (1 : Int) else 0) = 0 := by rw [if_neg (by rw [hf2]; decide)]
              have hs2 := scoreF_none hf2
              refine T.skip ?_
              refine T.seq ?_
              refine T.region ?_ -- region 17
              refine Rg.move rfl rfl ?_
              refine Rg.ige rfl rfl rfl ?_
              refine Rg.move rfl rfl ?_
              refine Rg.gsplitp (g := 68) rfl (fun g17_2 => ?_) (fun g17_2 => ?_)
              · -- g17_2 True
                refine Rg.gyes rfl rfl ?_
                refine Rg.move rfl rfl ?_
                refine Rg.gyes rfl rfl ?_
                refine Rg.ige rfl rfl rfl ?_
                refine Rg.pickt rfl rfl rfl ?_
                refine Rg.move rfl rfl ?_
                refine Rg.gsplitp (g := 72) rfl (fun g17_6 => ?_) (fun g17_6 => ?_)
                · -- g17_6 True
                  exfalso; omega
                · -- g17_6 False
                  refine Rg.gyes rfl rfl ?_
                  refine Rg.move rfl rfl ?_
                  refine Rg.gyes rfl rfl ?_
                  refine Rg.move rfl rfl ?_
                  refine Rg.eqv (v' := .bool (decide (orr = true))) (by simp) ?_
                  refine Rg.gsplitp (g := 74) rfl (fun g17_8 => ?_) (fun g17_8 => ?_)
                  · -- g17_8 True
                    refine Rg.gyes rfl rfl ?_
                    refine Rg.move rfl rfl ?_
                    refine Rg.gyes rfl rfl ?_
                    refine Rg.ige rfl rfl rfl ?_
                    refine Rg.gyes rfl rfl ?_
                    refine Rg.move rfl rfl ?_
                    refine Rg.gsplitp (g := 77) rfl (fun g17_11 => ?_) (fun g17_11 => ?_)
                    · -- g17_11 True
                      refine Rg.gno rfl rfl rfl rfl ?_
                      refine Rg.gno rfl rfl rfl rfl ?_
                      refine Rg.gyes rfl rfl ?_
                      refine Rg.pickt rfl rfl rfl ?_
                      refine Rg.gyes rfl rfl ?_
                      refine Rg.pickt rfl rfl rfl ?_
                      refine Rg.pickf rfl rfl rfl ?_
                      refine Rg.nil ?_
                      refine T.ift rfl ?_
                      refine T.region ?_ -- region 18
                      refine Rg.move rfl rfl ?_
                      refine Rg.move rfl rfl ?_
                      refine Rg.move rfl rfl ?_
                      refine Rg.eqv (v' := .int .i64 (scoreF a (k : Int) + scoreF b (k : Int))) (by congr 1; omega) ?_
                      refine Rg.build (places := [(0, 1), (1, 1)]) Tryd.underlying26 I26 B26 rfl ⟨_, _, rfl, rfl, _, _, rfl, rfl, rfl⟩ (out := [_, _]) ⟨0, [_], rfl, rfl, by simp [Value.cells], 1, [_], rfl, rfl, by simp [Value.cells], rfl⟩ ?_
                      refine Rg.sl1 (A := RT.fo) (hn := by decide) (M := M1) Tryd.underlying22 I26 (by decide) rfl rfl hM1 (V_fo (a := (k : Int)) (b := scoreF a (k : Int) + scoreF b (k : Int)) (by omega) (by omega)) (.inl rfl) (fun u5 w5 hu5 s5 => ?_)
                      have hol := outL_len (if orr = true then (1 : Int) else 2) a b k
                      refine Rg.append (M := M1) (base := w0.heap.size) Tryd.underlying22 I26 rfl rfl rfl rfl (ho.step0 s5) hu5 (Le.refl _ _) (by simp; omega) (by simp; omega) (Nat.le_trans S.size s5.size) (fun v6 M3 w6 ho6 s6 => ?_)
                      refine Rg.assign rfl rfl ?_
                      refine Rg.nil ?_
                      refine T.region ?_ -- region 9
                      refine Rg.move rfl rfl ?_
                      refine Rg.iadd rfl rfl rfl (by omega) ?_
                      refine Rg.assign rfl rfl ?_
                      refine Rg.nil ?_
                      refine ⟨rfl, (k + 1, _), (.cons rfl (.cons rfl (.cons rfl (.cons rfl (.cons rfl (.cons rfl .nil)))))), ?_, ?_⟩
                      · first
                        | exact ⟨by simp only; omega, M3, s6.lt (s5.lt hM1), (S.trans0 s5).transBlk s6 (ho.step0 s5) (Nat.le_refl _), by simp only; rw [outL_succ, jl_y (by unfold cnt; rw [hk1, hk2]; first | omega | (rw [if_pos g17_8]; omega) | (split <;> omega))]; exact ho6⟩
                        | exact ⟨by simp only; omega, M1, hM1, S, by simp only; rw [outL_succ, jl_n (by unfold cnt; rw [hk1, hk2]; first | omega | (rw [if_neg g17_8]; omega) | (split <;> omega)), List.append_nil]; exact ho⟩
                        | (exfalso; omega)
                      · simp only; omega
                    · -- g17_11 False
                      exfalso; omega
                  · -- g17_8 False
                    refine Rg.gno rfl rfl rfl rfl ?_
                    refine Rg.gno rfl rfl rfl rfl ?_
                    refine Rg.gno rfl rfl rfl rfl ?_
                    refine Rg.gnox rfl rfl rfl ?_
                    refine Rg.gnox rfl rfl rfl ?_
                    refine Rg.gno rfl rfl rfl rfl ?_
                    refine Rg.gyes rfl rfl ?_
                    refine Rg.pickf rfl rfl rfl ?_
                    refine Rg.pickf rfl rfl rfl ?_
                    refine Rg.nil ?_
                    refine T.iff rfl ?_
                    refine T.skip ?_
                    refine T.region ?_ -- region 9
                    refine Rg.move rfl rfl ?_
                    refine Rg.iadd rfl rfl rfl (by omega) ?_
                    refine Rg.assign rfl rfl ?_
                    refine Rg.nil ?_
                    refine ⟨rfl, (k + 1, _), (.cons rfl (.cons rfl (.cons rfl (.cons rfl (.cons rfl (.cons rfl .nil)))))), ?_, ?_⟩
                    · first
                      | exact ⟨by simp only; omega, M3, s6.lt (s5.lt hM1), (S.trans0 s5).transBlk s6 (ho.step0 s5) (Nat.le_refl _), by simp only; rw [outL_succ, jl_y (by unfold cnt; rw [hk1, hk2]; first | omega | (rw [if_pos g17_8]; omega) | (split <;> omega))]; exact ho6⟩
                      | exact ⟨by simp only; omega, M1, hM1, S, by simp only; rw [outL_succ, jl_n (by unfold cnt; rw [hk1, hk2]; first | omega | (rw [if_neg g17_8]; omega) | (split <;> omega)), List.append_nil]; exact ho⟩
                      | (exfalso; omega)
                    · simp only; omega
              · -- g17_2 False
                exfalso; omega
          · -- c13 False
            have hf1 : hasF a (k : Int) = false := by
              rcases har1 with ⟨i, h, _⟩ | h
              · omega
              · exact h.2
            have hk1 : (if hasF a (k : Int) = true then (1 : Int) else 0) = 0 := by rw [if_neg (by rw [hf1]; decide)]
            have hs1 := scoreF_none hf1
            refine T.skip ?_
            refine T.seq ?_
            refine T.seq ?_
            refine T.region ?_ -- region 15
            refine Rg.move rfl rfl ?_
            refine Rg.ige rfl rfl rfl ?_
            refine Rg.nil ?_
            refine T.ifp rfl (fun c15 => ?_) (fun c15 => ?_)
            · -- c15 True
              obtain ⟨i2, rfl, hf2, hi2⟩ : ∃ i2 : Nat, r2 = i2 ∧ hasF b (k : Int) = true ∧ b[i2]? = some ((k : Int), scoreF b (k : Int)) := by
                rcases har2 with h | h
                · exact h
                · omega
              have hk2 : (if hasF b (k : Int) = true then (1 : Int) else 0) = 1 := by rw [if_pos hf2]
              have hs2 := rb.sc _ (List.mem_of_getElem? hi2)
              simp only at hs2
              refine T.region ?_ -- region 16
              refine Rg.move rfl rfl ?_
              refine Rg.move rfl rfl ?_
              refine Rg.move rfl rfl ?_
              have hil2 := (List.getElem?_eq_some_iff.1 hi2).1
              refine Rg.idx (M := M1) Tryd.underlying22 I26 rfl rfl rfl (hvb.le S.le) (Le.refl _ _) (by omega) (fun u16_3 a16_3 hg16_3 hu16_3 => ?_)
              obtain rfl : ((k : Int), scoreF b (k : Int)) = a16_3 := Eq.symm (Option.some.inj (hg16_3.symm.trans (by rw [Int.toNat_natCast]; exact hi2)))
              refine Rg.fieldAddr (M := M1) (A := RT.fo) (B := RT.int .i64) Tryd.underlying26 rfl rfl I3 (by decide) (fo1) rfl rfl (by decide) (by assumption) (by repeat (first | exact Le.refl _ _ | refine Le.trans (Step.le (by assumption)) ?_)) (fun u16_4 hu16_4 => ?_)
              refine Rg.loadi64 (M := M1) Tryd.underlying3 rfl rfl (by assumption) (by repeat (first | exact Le.refl _ _ | refine Le.trans (Step.le (by assumption)) ?_)) (fun in16_5 => ?_)
              refine Rg.eqv (v' := .int .i64 (scoreF b (k : Int))) rfl ?_
              replace in16_5 : -9223372036854775808 ≤ (scoreF b (k : Int) : Int) ∧ scoreF b (k : Int) ≤ 9223372036854775807 := in16_5
              refine Rg.iadd rfl rfl rfl (by omega) ?_
              refine Rg.assign rfl rfl ?_
              refine Rg.nil ?_
              refine T.seq ?_
              refine T.region ?_ -- region 17
              refine Rg.move rfl rfl ?_
              refine Rg.ige rfl rfl rfl ?_
              refine Rg.move rfl rfl ?_
              refine Rg.gsplitp (g := 68) rfl (fun g17_2 => ?_) (fun g17_2 => ?_)
              · -- g17_2 True
                exfalso; omega
              · -- g17_2 False
                refine Rg.gno rfl rfl rfl rfl ?_
                refine Rg.gno rfl rfl rfl rfl ?_
                refine Rg.pickf rfl rfl rfl ?_
                refine Rg.move rfl rfl ?_
                refine Rg.gyes rfl rfl ?_
                refine Rg.move rfl rfl ?_
                refine Rg.gyes rfl rfl ?_
                refine Rg.move rfl rfl ?_
                refine Rg.eqv (v' := .bool (decide (orr = true))) (by simp) ?_
                refine Rg.gsplitp (g := 74) rfl (fun g17_8 => ?_) (fun g17_8 => ?_)
                · -- g17_8 True
                  refine Rg.gyes rfl rfl ?_
                  refine Rg.move rfl rfl ?_
                  refine Rg.gyes rfl rfl ?_
                  refine Rg.ige rfl rfl rfl ?_
                  refine Rg.gyes rfl rfl ?_
                  refine Rg.move rfl rfl ?_
                  refine Rg.gsplitp (g := 77) rfl (fun g17_11 => ?_) (fun g17_11 => ?_)
                  · -- g17_11 True
                    exfalso; omega
                  · -- g17_11 False
                    refine Rg.gyes rfl rfl ?_
                    refine Rg.move rfl rfl ?_
                    refine Rg.gyes rfl rfl ?_
                    refine Rg.ige rfl rfl rfl ?_
                    refine Rg.gyes rfl rfl ?_
                    refine Rg.pickf rfl rfl rfl ?_
                    refine Rg.gyes rfl rfl ?_
                    refine Rg.pickt rfl rfl rfl ?_
                    refine Rg.pickf rfl rfl rfl ?_
                    refine Rg.nil ?_
                    refine T.ifp rfl (fun c17 => ?_) (fun c17 => ?_)
                    · -- c17 True

                      refine T.region ?_ -- region 18
                      refine Rg.move rfl rfl ?_
                      refine Rg.move rfl rfl ?_
                      refine Rg.move rfl rfl ?_
                      refine Rg.eqv (v' := .int .i64 (scoreF a (k : Int) + scoreF b (k : Int))) (by congr 1; omega) ?_
                      refine Rg.build (places := [(0, 1), (1, 1)]) Tryd.underlying26 I26 B26 rfl ⟨_, _, rfl, rfl, _, _, rfl, rfl, rfl⟩ (out := [_, _]) ⟨0, [_], rfl, rfl, by simp [Value.cells], 1, [_], rfl, rfl, by simp [Value.cells], rfl⟩ ?_
                      refine Rg.sl1 (A := RT.fo) (hn := by decide) (M := M1) Tryd.underlying22 I26 (by decide) rfl rfl hM1 (V_fo (a := (k : Int)) (b := scoreF a (k : Int) + scoreF b (k : Int)) (by omega) (by omega)) (.inl rfl) (fun u5 w5 hu5 s5 => ?_)
                      have hol := outL_len (if orr = true then (1 : Int) else 2) a b k
                      refine Rg.append (M := M1) (base := w0.heap.size) Tryd.underlying22 I26 rfl rfl rfl rfl (ho.step0 s5) hu5 (Le.refl _ _) (by simp; omega) (by simp; omega) (Nat.le_trans S.size s5.size) (fun v6 M3 w6 ho6 s6 => ?_)
                      refine Rg.assign rfl rfl ?_
                      refine Rg.nil ?_
                      refine T.region ?_ -- region 9
                      refine Rg.move rfl rfl ?_
                      refine Rg.iadd rfl rfl rfl (by omega) ?_
                      refine Rg.assign rfl rfl ?_
                      refine Rg.nil ?_
                      refine ⟨rfl, (k + 1, _), (.cons rfl (.cons rfl (.cons rfl (.cons rfl (.cons rfl (.cons rfl .nil)))))), ?_, ?_⟩
                      · first
                        | exact ⟨by simp only; omega, M3, s6.lt (s5.lt hM1), (S.trans0 s5).transBlk s6 (ho.step0 s5) (Nat.le_refl _), by simp only; rw [outL_succ, jl_y (by unfold cnt; rw [hk1, hk2]; first | omega | (rw [if_pos g17_8]; omega) | (split <;> omega))]; exact ho6⟩
                        | exact ⟨by simp only; omega, M1, hM1, S, by simp only; rw [outL_succ, jl_n (by unfold cnt; rw [hk1, hk2]; first | omega | (rw [if_neg g17_8]; omega) | (split <;> omega)), List.append_nil]; exact ho⟩
                        | (exfalso; omega)
                      · simp only; omega
                    · -- c17 False

                      refine T.skip ?_
                      refine T.region ?_ -- region 9
                      refine Rg.move rfl rfl ?_
                      refine Rg.iadd rfl rfl rfl (by omega) ?_
                      refine Rg.assign rfl rfl ?_
                      refine Rg.nil ?_
                      refine ⟨rfl, (k + 1, _), (.cons rfl (.cons rfl (.cons rfl (.cons rfl (.cons rfl (.cons rfl .nil)))))), ?_, ?_⟩
                      · first
                        | exact ⟨by simp only; omega, M3, s6.lt (s5.lt hM1), (S.trans0 s5).transBlk s6 (ho.step0 s5) (Nat.le_refl _), by simp only; rw [outL_succ, jl_y (by unfold cnt; rw [hk1, hk2]; first | omega | (rw [if_pos g17_8]; omega) | (split <;> omega))]; exact ho6⟩
                        | exact ⟨by simp only; omega, M1, hM1, S, by simp only; rw [outL_succ, jl_n (by unfold cnt; rw [hk1, hk2]; first | omega | (rw [if_neg g17_8]; omega) | (split <;> omega)), List.append_nil]; exact ho⟩
                        | (exfalso; omega)
                      · simp only; omega
                · -- g17_8 False
                  refine Rg.gno rfl rfl rfl rfl ?_
                  refine Rg.gno rfl rfl rfl rfl ?_
                  refine Rg.gno rfl rfl rfl rfl ?_
                  refine Rg.gnox rfl rfl rfl ?_
                  refine Rg.gnox rfl rfl rfl ?_
                  refine Rg.gno rfl rfl rfl rfl ?_
                  refine Rg.gyes rfl rfl ?_
                  refine Rg.pickf rfl rfl rfl ?_
                  refine Rg.pickf rfl rfl rfl ?_
                  refine Rg.nil ?_
                  refine T.iff rfl ?_
                  refine T.skip ?_
                  refine T.region ?_ -- region 9
                  refine Rg.move rfl rfl ?_
                  refine Rg.iadd rfl rfl rfl (by omega) ?_
                  refine Rg.assign rfl rfl ?_
                  refine Rg.nil ?_
                  refine ⟨rfl, (k + 1, _), (.cons rfl (.cons rfl (.cons rfl (.cons rfl (.cons rfl (.cons rfl .nil)))))), ?_, ?_⟩
                  · first
                    | exact ⟨by simp only; omega, M3, s6.lt (s5.lt hM1), (S.trans0 s5).transBlk s6 (ho.step0 s5) (Nat.le_refl _), by simp only; rw [outL_succ, jl_y (by unfold cnt; rw [hk1, hk2]; first | omega | (rw [if_pos g17_8]; omega) | (split <;> omega))]; exact ho6⟩
                    | exact ⟨by simp only; omega, M1, hM1, S, by simp only; rw [outL_succ, jl_n (by unfold cnt; rw [hk1, hk2]; first | omega | (rw [if_neg g17_8]; omega) | (split <;> omega)), List.append_nil]; exact ho⟩
                    | (exfalso; omega)
                  · simp only; omega
            · -- c15 False
              have hf2 : hasF b (k : Int) = false := by
                rcases har2 with ⟨i, h, _⟩ | h
                · omega
                · exact h.2
              have hk2 : (if hasF b (k : Int) = true then (1 : Int) else 0) = 0 := by rw [if_neg (by rw [hf2]; decide)]
              have hs2 := scoreF_none hf2
              refine T.skip ?_
              refine T.seq ?_
              refine T.region ?_ -- region 17
              refine Rg.move rfl rfl ?_
              refine Rg.ige rfl rfl rfl ?_
              refine Rg.move rfl rfl ?_
              refine Rg.gsplitp (g := 68) rfl (fun g17_2 => ?_) (fun g17_2 => ?_)
              · -- g17_2 True
                exfalso; omega
              · -- g17_2 False
                refine Rg.gno rfl rfl rfl rfl ?_
                refine Rg.gno rfl rfl rfl rfl ?_
                refine Rg.pickf rfl rfl rfl ?_
                refine Rg.move rfl rfl ?_
                refine Rg.gyes rfl rfl ?_
                refine Rg.move rfl rfl ?_
                refine Rg.gyes rfl rfl ?_
                refine Rg.move rfl rfl ?_
                refine Rg.eqv (v' := .bool (decide (orr = true))) (by simp) ?_
                refine Rg.gsplitp (g := 74) rfl (fun g17_8 => ?_) (fun g17_8 => ?_)
                · -- g17_8 True
                  refine Rg.gyes rfl rfl ?_
                  refine Rg.move rfl rfl ?_
                  refine Rg.gyes rfl rfl ?_
                  refine Rg.ige rfl rfl rfl ?_
                  refine Rg.gyes rfl rfl ?_
                  refine Rg.move rfl rfl ?_
                  refine Rg.gsplitp (g := 77) rfl (fun g17_11 => ?_) (fun g17_11 => ?_)
                  · -- g17_11 True
                    exfalso; omega
                  · -- g17_11 False
                    refine Rg.gyes rfl rfl ?_
                    refine Rg.move rfl rfl ?_
                    refine Rg.gyes rfl rfl ?_
                    refine Rg.ige rfl rfl rfl ?_
                    refine Rg.gyes rfl rfl ?_
                    refine Rg.pickf rfl rfl rfl ?_
                    refine Rg.gyes rfl rfl ?_
                    refine Rg.pickt rfl rfl rfl ?_
                    refine Rg.pickf rfl rfl rfl ?_
                    refine Rg.nil ?_
                    refine T.ifp rfl (fun c17 => ?_) (fun c17 => ?_)
                    · -- c17 True

                      refine T.region ?_ -- region 18
                      refine Rg.move rfl rfl ?_
                      refine Rg.move rfl rfl ?_
                      refine Rg.move rfl rfl ?_
                      refine Rg.eqv (v' := .int .i64 (scoreF a (k : Int) + scoreF b (k : Int))) (by congr 1; omega) ?_
                      refine Rg.build (places := [(0, 1), (1, 1)]) Tryd.underlying26 I26 B26 rfl ⟨_, _, rfl, rfl, _, _, rfl, rfl, rfl⟩ (out := [_, _]) ⟨0, [_], rfl, rfl, by simp [Value.cells], 1, [_], rfl, rfl, by simp [Value.cells], rfl⟩ ?_
                      refine Rg.sl1 (A := RT.fo) (hn := by decide) (M := M1) Tryd.underlying22 I26 (by decide) rfl rfl hM1 (V_fo (a := (k : Int)) (b := scoreF a (k : Int) + scoreF b (k : Int)) (by omega) (by omega)) (.inl rfl) (fun u5 w5 hu5 s5 => ?_)
                      have hol := outL_len (if orr = true then (1 : Int) else 2) a b k
                      refine Rg.append (M := M1) (base := w0.heap.size) Tryd.underlying22 I26 rfl rfl rfl rfl (ho.step0 s5) hu5 (Le.refl _ _) (by simp; omega) (by simp; omega) (Nat.le_trans S.size s5.size) (fun v6 M3 w6 ho6 s6 => ?_)
                      refine Rg.assign rfl rfl ?_
                      refine Rg.nil ?_
                      refine T.region ?_ -- region 9
                      refine Rg.move rfl rfl ?_
                      refine Rg.iadd rfl rfl rfl (by omega) ?_
                      refine Rg.assign rfl rfl ?_
                      refine Rg.nil ?_
                      refine ⟨rfl, (k + 1, _), (.cons rfl (.cons rfl (.cons rfl (.cons rfl (.cons rfl (.cons rfl .nil)))))), ?_, ?_⟩
                      · first
                        | exact ⟨by simp only; omega, M3, s6.lt (s5.lt hM1), (S.trans0 s5).transBlk s6 (ho.step0 s5) (Nat.le_refl _), by simp only; rw [outL_succ, jl_y (by unfold cnt; rw [hk1, hk2]; first | omega | (rw [if_pos g17_8]; omega) | (split <;> omega))]; exact ho6⟩
                        | exact ⟨by simp only; omega, M1, hM1, S, by simp only; rw [outL_succ, jl_n (by unfold cnt; rw [hk1, hk2]; first | omega | (rw [if_neg g17_8]; omega) | (split <;> omega)), List.append_nil]; exact ho⟩
                        | (exfalso; omega)
                      · simp only; omega
                    · -- c17 False

                      refine T.skip ?_
                      refine T.region ?_ -- region 9
                      refine Rg.move rfl rfl ?_
                      refine Rg.iadd rfl rfl rfl (by omega) ?_
                      refine Rg.assign rfl rfl ?_
                      refine Rg.nil ?_
                      refine ⟨rfl, (k + 1, _), (.cons rfl (.cons rfl (.cons rfl (.cons rfl (.cons rfl (.cons rfl .nil)))))), ?_, ?_⟩
                      · first
                        | exact ⟨by simp only; omega, M3, s6.lt (s5.lt hM1), (S.trans0 s5).transBlk s6 (ho.step0 s5) (Nat.le_refl _), by simp only; rw [outL_succ, jl_y (by unfold cnt; rw [hk1, hk2]; first | omega | (rw [if_pos g17_8]; omega) | (split <;> omega))]; exact ho6⟩
                        | exact ⟨by simp only; omega, M1, hM1, S, by simp only; rw [outL_succ, jl_n (by unfold cnt; rw [hk1, hk2]; first | omega | (rw [if_neg g17_8]; omega) | (split <;> omega)), List.append_nil]; exact ho⟩
                        | (exfalso; omega)
                      · simp only; omega
                · -- g17_8 False
                  refine Rg.gno rfl rfl rfl rfl ?_
                  refine Rg.gno rfl rfl rfl rfl ?_
                  refine Rg.gno rfl rfl rfl rfl ?_
                  refine Rg.gnox rfl rfl rfl ?_
                  refine Rg.gnox rfl rfl rfl ?_
                  refine Rg.gno rfl rfl rfl rfl ?_
                  refine Rg.gyes rfl rfl ?_
                  refine Rg.pickf rfl rfl rfl ?_
                  refine Rg.pickf rfl rfl rfl ?_
                  refine Rg.nil ?_
                  refine T.iff rfl ?_
                  refine T.skip ?_
                  refine T.region ?_ -- region 9
                  refine Rg.move rfl rfl ?_
                  refine Rg.iadd rfl rfl rfl (by omega) ?_
                  refine Rg.assign rfl rfl ?_
                  refine Rg.nil ?_
                  refine ⟨rfl, (k + 1, _), (.cons rfl (.cons rfl (.cons rfl (.cons rfl (.cons rfl (.cons rfl .nil)))))), ?_, ?_⟩
                  · first
                    | exact ⟨by simp only; omega, M3, s6.lt (s5.lt hM1), (S.trans0 s5).transBlk s6 (ho.step0 s5) (Nat.le_refl _), by simp only; rw [outL_succ, jl_y (by unfold cnt; rw [hk1, hk2]; first | omega | (rw [if_pos g17_8]; omega) | (split <;> omega))]; exact ho6⟩
                    | exact ⟨by simp only; omega, M1, hM1, S, by simp only; rw [outL_succ, jl_n (by unfold cnt; rw [hk1, hk2]; first | omega | (rw [if_neg g17_8]; omega) | (split <;> omega)), List.append_nil]; exact ho⟩
                    | (exfalso; omega)
                  · simp only; omega
        · -- c8 False
          refine T.exit ?_
          refine T.seq ?_
          refine T.region ?_ -- region 19
          refine Rg.move rfl rfl ?_
          refine Rg.assign rfl rfl ?_
          refine Rg.nil ?_
          refine T.ret ?_
          obtain rfl : k = mo := by omega
          exact Kret1 rfl rfl ⟨⟨k, ha2, hb2, hmok, Own.close hM S ho (by have := outL_len (if orr = true then (1 : Int) else 2) a b k; omega)⟩, S.back⟩
    · -- c4 False
      obtain ⟨mo, hmo⟩ : ∃ mo : Nat, mo = m1 := ⟨_, rfl⟩
      have hbe : b = [] := List.length_eq_zero_iff.1 (by omega)
      have ha2 : ∀ p ∈ a, p.1 < (mo : Nat) := fun p hp => by rw [hmo]; exact ha1 p hp
      have hb2 : ∀ p ∈ b, p.1 < (mo : Nat) := fun p hp => by rw [hbe] at hp; cases hp
      have hmok : mo ≤ 1000 := by omega
      refine T.skip ?_
      refine T.seq ?_
      refine T.region ?_ -- region 6
      refine Rg.assign rfl rfl ?_
      refine Rg.nil ?_
      refine T.seq ?_
      refine T.seq ?_
      refine T.region ?_ -- region 7
      refine Rg.assign rfl rfl ?_
      refine Rg.nil ?_
      refine T.block ?_
      refine T.loop (σ := Nat × Value) (fun s => [(0, va), (1, vb), (2, .bool orr), (7, .int .i64 mo), (8, s.2), (9, .int .i64 s.1)]) (fun s w => s.1 ≤ mo ∧ ∃ M1, Lt M1 w ∧ Step M w0 M1 w none' ∧ Own RT.fo 26 M1 w w0.heap.size s.2 (outL (if orr = true then (1 : Int) else 2) a b 0 s.1)) (fun s => mo - s.1) (0, _) (.cons rfl (.cons rfl (.cons rfl (.cons (by first | rfl | (rw [hmo]; rfl) | (rw [hmo, hm1]; rfl)) (.cons rfl (.cons rfl .nil)))))) ?_ ?_ -- loop 0
      · exact ⟨Nat.zero_le _, M, hM, Step.refl _ _, Own.nil _ _ _ _ _⟩
      · rintro ⟨k, u0⟩ w1 ⟨hk, M1, hM1, S, ho⟩
        dsimp only at hk ho ⊢
        refine T.seq ?_
        refine T.seq ?_
        refine T.region ?_ -- region 8
        refine Rg.move rfl rfl ?_
        refine Rg.move rfl rfl ?_
        refine Rg.ilt rfl rfl rfl ?_
        refine Rg.nil ?_
        refine T.ifp rfl (fun c8 => ?_) (fun c8 => ?_)
        · -- c8 True
          refine T.skip ?_
          refine T.seq ?_
          refine T.block ?_
          refine T.seq ?_
          refine T.region ?_ -- region 10
          refine Rg.move rfl rfl ?_
          refine Rg.move rfl rfl ?_
          refine Rg.call rfl rfl E19 (at13_spec (hva.le S.le)) (fun r wc h => ?_)
          obtain ⟨⟨r1, rfl, har1, h1a, h1b⟩, rfl⟩ := h
          refine Rg.assign rfl rfl ?_
          refine Rg.nil ?_
          refine T.seq ?_
          refine T.region ?_ -- region 11
          refine Rg.move rfl rfl ?_
          refine Rg.move rfl rfl ?_
          refine Rg.call rfl rfl E19 (at13_spec (hvb.le S.le)) (fun r wc h => ?_)
          obtain ⟨⟨r2, rfl, har2, h2a, h2b⟩, rfl⟩ := h
          refine Rg.assign rfl rfl ?_
          refine Rg.nil ?_
          refine T.seq ?_
          refine T.region ?_ -- region 12
          refine Rg.assign rfl rfl ?_
          refine Rg.nil ?_
          refine T.seq ?_
          refine T.seq ?_
          refine T.region ?_ -- region 13
          refine Rg.move rfl rfl ?_
          refine Rg.ige rfl rfl rfl ?_
          refine Rg.nil ?_
          refine T.ifp rfl (fun c13 => ?_) (fun c13 => ?_)
          · -- c13 True
            obtain ⟨i1, rfl, hf1, hi1⟩ : ∃ i1 : Nat, r1 = i1 ∧ hasF a (k : Int) = true ∧ a[i1]? = some ((k : Int), scoreF a (k : Int)) := by
              rcases har1 with h | h
              · exact h
              · omega
            have hk1 : (if hasF a (k : Int) = true then (1 : Int) else 0) = 1 := by rw [if_pos hf1]
            have hs1 := ra.sc _ (List.mem_of_getElem? hi1)
            simp only at hs1
            refine T.region ?_ -- region 14
            refine Rg.move rfl rfl ?_
            refine Rg.move rfl rfl ?_
            refine Rg.move rfl rfl ?_
            have hil := (List.getElem?_eq_some_iff.1 hi1).1
            refine Rg.idx (M := M1) Tryd.underlying22 I26 rfl rfl rfl (hva.le S.le) (Le.refl _ _) (by omega) (fun u14_3 a14_3 hg14_3 hu14_3 => ?_)
            obtain rfl : ((k : Int), scoreF a (k : Int)) = a14_3 := Eq.symm (Option.some.inj (hg14_3.symm.trans (by rw [Int.toNat_natCast]; exact hi1)))
            refine Rg.fieldAddr (M := M1) (A := RT.fo) (B := RT.int .i64) Tryd.underlying26 rfl rfl I3 (by decide) (fo1) rfl rfl (by decide) (by assumption) (by repeat (first | exact Le.refl _ _ | refine Le.trans (Step.le (by assumption)) ?_)) (fun u14_4 hu14_4 => ?_)
            refine Rg.loadi64 (M := M1) Tryd.underlying3 rfl rfl (by assumption) (by repeat (first | exact Le.refl _ _ | refine Le.trans (Step.le (by assumption)) ?_)) (fun in14_5 => ?_)
            refine Rg.eqv (v' := .int .i64 (scoreF a (k : Int))) rfl ?_
            replace in14_5 : -9223372036854775808 ≤ (scoreF a (k : Int) : Int) ∧ scoreF a (k : Int) ≤ 9223372036854775807 := in14_5
            refine Rg.iadd rfl rfl rfl (by omega) ?_
            refine Rg.assign rfl rfl ?_
            refine Rg.nil ?_
            refine T.seq ?_
            refine T.seq ?_
            refine T.region ?_ -- region 15
            refine Rg.move rfl rfl ?_
            refine Rg.ige rfl rfl rfl ?_
            refine Rg.nil ?_
            refine T.ifp rfl (fun c15 => ?_) (fun c15 => ?_)
            · -- c15 True
              obtain ⟨i2, rfl, hf2, hi2⟩ : ∃ i2 : Nat, r2 = i2 ∧ hasF b (k : Int) = true ∧ b[i2]? = some ((k : Int), scoreF b (k : Int)) := by
                rcases har2 with h | h
                · exact h
                · omega
              have hk2 : (if hasF b (k : Int) = true then (1 : Int) else 0) = 1 := by rw [if_pos hf2]
              have hs2 := rb.sc _ (List.mem_of_getElem? hi2)
              simp only at hs2
              refine T.region ?_ -- region 16
              refine Rg.move rfl rfl ?_
              refine Rg.move rfl rfl ?_
              refine Rg.move rfl rfl ?_
              have hil2 := (List.getElem?_eq_some_iff.1 hi2).1
              refine Rg.idx (M := M1) Tryd.underlying22 I26 rfl rfl rfl (hvb.le S.le) (Le.refl _ _) (by omega) (fun u16_3 a16_3 hg16_3 hu16_3 => ?_)
              obtain rfl : ((k : Int), scoreF b (k : Int)) = a16_3 := Eq.symm (Option.some.inj (hg16_3.symm.trans (by rw [Int.toNat_natCast]; exact hi2)))
              refine Rg.fieldAddr (M := M1) (A := RT.fo) (B := RT.int .i64) Tryd.underlying26 rfl rfl I3 (by decide) (fo1) rfl rfl (by decide) (by assumption) (by repeat (first | exact Le.refl _ _ | refine Le.trans (Step.le (by assumption)) ?_)) (fun u16_4 hu16_4 => ?_)
              refine Rg.loadi64 (M := M1) Tryd.underlying3 rfl rfl (by assumption) (by repeat (first | exact Le.refl _ _ | refine Le.trans (Step.le (by assumption)) ?_)) (fun in16_5 => ?_)
              refine Rg.eqv (v' := .int .i64 (scoreF b (k : Int))) rfl ?_
              replace in16_5 : -9223372036854775808 ≤ (scoreF b (k : Int) : Int) ∧ scoreF b (k : Int) ≤ 9223372036854775807 := in16_5
              refine Rg.iadd rfl rfl rfl (by omega) ?_
              refine Rg.assign rfl rfl ?_
              refine Rg.nil ?_
              refine T.seq ?_
              refine T.region ?_ -- region 17
              refine Rg.move rfl rfl ?_
              refine Rg.ige rfl rfl rfl ?_
              refine Rg.move rfl rfl ?_
              refine Rg.gsplitp (g := 68) rfl (fun g17_2 => ?_) (fun g17_2 => ?_)
              · -- g17_2 True
                refine Rg.gyes rfl rfl ?_
                refine Rg.move rfl rfl ?_
                refine Rg.gyes rfl rfl ?_
                refine Rg.ige rfl rfl rfl ?_
                refine Rg.pickt rfl rfl rfl ?_
                refine Rg.move rfl rfl ?_
                refine Rg.gsplitp (g := 72) rfl (fun g17_6 => ?_) (fun g17_6 => ?_)
                · -- g17_6 True
                  refine Rg.gno rfl rfl rfl rfl ?_
                  refine Rg.gno rfl rfl rfl rfl ?_
                  refine Rg.gnox rfl rfl rfl ?_
                  refine Rg.gnox rfl rfl rfl ?_
                  refine Rg.gnox rfl rfl rfl ?_
                  refine Rg.gnox rfl rfl rfl ?_
                  refine Rg.gnox rfl rfl rfl ?_
                  refine Rg.gnox rfl rfl rfl ?_
                  refine Rg.gno rfl rfl rfl rfl ?_
                  refine Rg.pickt rfl rfl rfl ?_
                  refine Rg.nil ?_
                  refine T.ift rfl ?_
                  refine T.region ?_ -- region 18
                  refine Rg.move rfl rfl ?_
                  refine Rg.move rfl rfl ?_
                  refine Rg.move rfl rfl ?_
                  refine Rg.eqv (v' := .int .i64 (scoreF a (k : Int) + scoreF b (k : Int))) (by congr 1; omega) ?_
                  refine Rg.build (places := [(0, 1), (1, 1)]) Tryd.underlying26 I26 B26 rfl ⟨_, _, rfl, rfl, _, _, rfl, rfl, rfl⟩ (out := [_, _]) ⟨0, [_], rfl, rfl, by simp [Value.cells], 1, [_], rfl, rfl, by simp [Value.cells], rfl⟩ ?_
                  refine Rg.sl1 (A := RT.fo) (hn := by decide) (M := M1) Tryd.underlying22 I26 (by decide) rfl rfl hM1 (V_fo (a := (k : Int)) (b := scoreF a (k : Int) + scoreF b (k : Int)) (by omega) (by omega)) (.inl rfl) (fun u5 w5 hu5 s5 => ?_)
                  have hol := outL_len (if orr = true then (1 : Int) else 2) a b k
                  refine Rg.append (M := M1) (base := w0.heap.size) Tryd.underlying22 I26 rfl rfl rfl rfl (ho.step0 s5) hu5 (Le.refl _ _) (by simp; omega) (by simp; omega) (Nat.le_trans S.size s5.size) (fun v6 M3 w6 ho6 s6 => ?_)
                  refine Rg.assign rfl rfl ?_
                  refine Rg.nil ?_
                  refine T.region ?_ -- region 9
                  refine Rg.move rfl rfl ?_
                  refine Rg.iadd rfl rfl rfl (by omega) ?_
                  refine Rg.assign rfl rfl ?_
                  refine Rg.nil ?_
                  refine ⟨rfl, (k + 1, _), (.cons rfl (.cons rfl (.cons rfl (.cons rfl (.cons rfl (.cons rfl .nil)))))), ?_, ?_⟩
                  · first
                    | exact ⟨by simp only; omega, M3, s6.lt (s5.lt hM1), (S.trans0 s5).transBlk s6 (ho.step0 s5) (Nat.le_refl _), by simp only; rw [outL_succ, jl_y (by unfold cnt; rw [hk1, hk2]; first | omega | (rw [if_pos g17_8]; omega) | (split <;> omega))]; exact ho6⟩
                    | exact ⟨by simp only; omega, M1, hM1, S, by simp only; rw [outL_succ, jl_n (by unfold cnt; rw [hk1, hk2]; first | omega | (rw [if_neg g17_8]; omega) | (split <;> omega)), List.append_nil]; exact ho⟩
                    | (exfalso; omega)
                  · simp only; omega
                · -- g17_6 False

                  refine Rg.gyes rfl rfl ?_
                  refine Rg.move rfl rfl ?_
                  refine Rg.gyes rfl rfl ?_
                  refine Rg.move rfl rfl ?_
                  refine Rg.eqv (v' := .bool (decide (orr = true))) (by simp) ?_
                  refine Rg.gsplitp (g := 74) rfl (fun g17_8 => ?_) (fun g17_8 => ?_)
                  · -- g17_8 True
                    refine Rg.gyes rfl rfl ?_
                    refine Rg.move rfl rfl ?_
                    refine Rg.gyes rfl rfl ?_
                    refine Rg.ige rfl rfl rfl ?_
                    refine Rg.gyes rfl rfl ?_
                    refine Rg.move rfl rfl ?_
                    refine Rg.gsplitp (g := 77) rfl (fun g17_11 => ?_) (fun g17_11 => ?_)
                    · -- g17_11 True
                      refine Rg.gno rfl rfl rfl rfl ?_
                      refine Rg.gno rfl rfl rfl rfl ?_
                      refine Rg.gyes rfl rfl ?_
                      refine Rg.pickt rfl rfl rfl ?_
                      refine Rg.gyes rfl rfl ?_
                      refine Rg.pickt rfl rfl rfl ?_
                      refine Rg.pickf rfl rfl rfl ?_
                      refine Rg.nil ?_
                      refine T.ift rfl ?_
                      refine T.region ?_ -- region 18
                      refine Rg.move rfl rfl ?_
                      refine Rg.move rfl rfl ?_
                      refine Rg.move rfl rfl ?_
                      refine Rg.eqv (v' := .int .i64 (scoreF a (k : Int) + scoreF b (k : Int))) (by congr 1; omega) ?_
                      refine Rg.build (places := [(0, 1), (1, 1)]) Tryd.underlying26 I26 B26 rfl ⟨_, _, rfl, rfl, _, _, rfl, rfl, rfl⟩ (out := [_, _]) ⟨0, [_], rfl, rfl, by simp [Value.cells], 1, [_], rfl, rfl, by simp [Value.cells], rfl⟩ ?_
                      refine Rg.sl1 (A := RT.fo) (hn := by decide) (M := M1) Tryd.underlying22 I26 (by decide) rfl rfl hM1 (V_fo (a := (k : Int)) (b := scoreF a (k : Int) + scoreF b (k : Int)) (by omega) (by omega)) (.inl rfl) (fun u5 w5 hu5 s5 => ?_)
                      have hol := outL_len (if orr = true then (1 : Int) else 2) a b k
                      refine Rg.append (M := M1) (base := w0.heap.size) Tryd.underlying22 I26 rfl rfl rfl rfl (ho.step0 s5) hu5 (Le.refl _ _) (by simp; omega) (by simp; omega) (Nat.le_trans S.size s5.size) (fun v6 M3 w6 ho6 s6 => ?_)
                      refine Rg.assign rfl rfl ?_
                      refine Rg.nil ?_
                      refine T.region ?_ -- region 9
                      refine Rg.move rfl rfl ?_
                      refine Rg.iadd rfl rfl rfl (by omega) ?_
                      refine Rg.assign rfl rfl ?_
                      refine Rg.nil ?_
                      refine ⟨rfl, (k + 1, _), (.cons rfl (.cons rfl (.cons rfl (.cons rfl (.cons rfl (.cons rfl .nil)))))), ?_, ?_⟩
                      · first
                        | exact ⟨by simp only; omega, M3, s6.lt (s5.lt hM1), (S.trans0 s5).transBlk s6 (ho.step0 s5) (Nat.le_refl _), by simp only; rw [outL_succ, jl_y (by unfold cnt; rw [hk1, hk2]; first | omega | (rw [if_pos g17_8]; omega) | (split <;> omega))]; exact ho6⟩
                        | exact ⟨by simp only; omega, M1, hM1, S, by simp only; rw [outL_succ, jl_n (by unfold cnt; rw [hk1, hk2]; first | omega | (rw [if_neg g17_8]; omega) | (split <;> omega)), List.append_nil]; exact ho⟩
                        | (exfalso; omega)
                      · simp only; omega
                    · -- g17_11 False
                      exfalso; omega
                  · -- g17_8 False
                    refine Rg.gno rfl rfl rfl rfl ?_
                    refine Rg.gno rfl rfl rfl rfl ?_
                    refine Rg.gno rfl rfl rfl rfl ?_
                    refine Rg.gnox rfl rfl rfl ?_
                    refine Rg.gnox rfl rfl rfl ?_
                    refine Rg.gno rfl rfl rfl rfl ?_
                    refine Rg.gyes rfl rfl ?_
                    refine Rg.pickf rfl rfl rfl ?_
                    refine Rg.pickf rfl rfl rfl ?_
                    refine Rg.nil ?_
                    refine T.iff rfl ?_
                    refine T.skip ?_
                    refine T.region ?_ -- region 9
                    refine Rg.move rfl rfl ?_
                    refine Rg.iadd rfl rfl rfl (by omega) ?_
                    refine Rg.assign rfl rfl ?_
                    refine Rg.nil ?_
                    refine ⟨rfl, (k + 1, _), (.cons rfl (.cons rfl (.cons rfl (.cons rfl (.cons rfl (.cons rfl .nil)))))), ?_, ?_⟩
                    · first
                      | exact ⟨by simp only; omega, M3, s6.lt (s5.lt hM1), (S.trans0 s5).transBlk s6 (ho.step0 s5) (Nat.le_refl _), by simp only; rw [outL_succ, jl_y (by unfold cnt; rw [hk1, hk2]; first | omega | (rw [if_pos g17_8]; omega) | (split <;> omega))]; exact ho6⟩
                      | exact ⟨by simp only; omega, M1, hM1, S, by simp only; rw [outL_succ, jl_n (by unfold cnt; rw [hk1, hk2]; first | omega | (rw [if_neg g17_8]; omega) | (split <;> omega)), List.append_nil]; exact ho⟩
                      | (exfalso; omega)
                    · simp only; omega
              · -- g17_2 False
                exfalso; omega
            · -- c15 False
              have hf2 : hasF b (k : Int) = false := by
                rcases har2 with ⟨i, h, _⟩ | h
                · omega
                · exact h.2
              have hk2 : (if hasF b (k : Int) = true then (1 : Int) else 0) = 0 := by rw [if_neg (by rw [hf2]; decide)]
              have hs2 := scoreF_none hf2
              refine T.skip ?_
              refine T.seq ?_
              refine T.region ?_ -- region 17
              refine Rg.move rfl rfl ?_
              refine Rg.ige rfl rfl rfl ?_
              refine Rg.move rfl rfl ?_
              refine Rg.gsplitp (g := 68) rfl (fun g17_2 => ?_) (fun g17_2 => ?_)
              · -- g17_2 True
                refine Rg.gyes rfl rfl ?_
                refine Rg.move rfl rfl ?_
                refine Rg.gyes rfl rfl ?_
                refine Rg.ige rfl rfl rfl ?_
                refine Rg.pickt rfl rfl rfl ?_
                refine Rg.move rfl rfl ?_
                refine Rg.gsplitp (g := 72) rfl (fun g17_6 => ?_) (fun g17_6 => ?_)
                · -- g17_6 True
                  exfalso; omega
                · -- g17_6 False
                  refine Rg.gyes rfl rfl ?_
                  refine Rg.move rfl rfl ?_
                  refine Rg.gyes rfl rfl ?_
                  refine Rg.move rfl rfl ?_
                  refine Rg.eqv (v' := .bool (decide (orr = true))) (by simp) ?_
                  refine Rg.gsplitp (g := 74) rfl (fun g17_8 => ?_) (fun g17_8 => ?_)
                  · -- g17_8 True
                    refine Rg.gyes rfl rfl ?_
                    refine Rg.move rfl rfl ?_
                    refine Rg.gyes rfl rfl ?_
                    refine Rg.ige rfl rfl rfl ?_
                    refine Rg.gyes rfl rfl ?_
                    refine Rg.move rfl rfl ?_
                    refine Rg.gsplitp (g := 77) rfl (fun g17_11 => ?_) (fun g17_11 => ?_)
                    · -- g17_11 True
                      refine Rg.gno rfl rfl rfl rfl ?_
                      refine Rg.gno rfl rfl rfl rfl ?_
                      refine Rg.gyes rfl rfl ?_
                      refine Rg.pickt rfl rfl rfl ?_
                      refine Rg.gyes rfl rfl ?_
                      refine Rg.pickt rfl rfl rfl ?_
                      refine Rg.pickf rfl rfl rfl ?_
                      refine Rg.nil ?_
                      refine T.ift rfl ?_
                      refine T.region ?_ -- region 18
                      refine Rg.move rfl rfl ?_
                      refine Rg.move rfl rfl ?_
                      refine Rg.move rfl rfl ?_
                      refine Rg.eqv (v' := .int .i64 (scoreF a (k : Int) + scoreF b (k : Int))) (by congr 1; omega) ?_
                      refine Rg.build (places := [(0, 1), (1, 1)]) Tryd.underlying26 I26 B26 rfl ⟨_, _, rfl, rfl, _, _, rfl, rfl, rfl⟩ (out := [_, _]) ⟨0, [_], rfl, rfl, by simp [Value.cells], 1, [_], rfl, rfl, by simp [Value.cells], rfl⟩ ?_
                      refine Rg.sl1 (A := RT.fo) (hn := by decide) (M := M1) Tryd.underlying22 I26 (by decide) rfl rfl hM1 (V_fo (a := (k : Int)) (b := scoreF a (k : Int) + scoreF b (k : Int)) (by omega) (by omega)) (.inl rfl) (fun u5 w5 hu5 s5 => ?_)
                      have hol := outL_len (if orr = true then (1 : Int) else 2) a b k
                      refine Rg.append (M := M1) (base := w0.heap.size) Tryd.underlying22 I26 rfl rfl rfl rfl (ho.step0 s5) hu5 (Le.refl _ _) (by simp; omega) (by simp; omega) (Nat.le_trans S.size s5.size) (fun v6 M3 w6 ho6 s6 => ?_)
                      refine Rg.assign rfl rfl ?_
                      refine Rg.nil ?_
                      refine T.region ?_ -- region 9
                      refine Rg.move rfl rfl ?_
                      refine Rg.iadd rfl rfl rfl (by omega) ?_
                      refine Rg.assign rfl rfl ?_
                      refine Rg.nil ?_
                      refine ⟨rfl, (k + 1, _), (.cons rfl (.cons rfl (.cons rfl (.cons rfl (.cons rfl (.cons rfl .nil)))))), ?_, ?_⟩
                      · first
                        | exact ⟨by simp only; omega, M3, s6.lt (s5.lt hM1), (S.trans0 s5).transBlk s6 (ho.step0 s5) (Nat.le_refl _), by simp only; rw [outL_succ, jl_y (by unfold cnt; rw [hk1, hk2]; first | omega | (rw [if_pos g17_8]; omega) | (split <;> omega))]; exact ho6⟩
                        | exact ⟨by simp only; omega, M1, hM1, S, by simp only; rw [outL_succ, jl_n (by unfold cnt; rw [hk1, hk2]; first | omega | (rw [if_neg g17_8]; omega) | (split <;> omega)), List.append_nil]; exact ho⟩
                        | (exfalso; omega)
                      · simp only; omega
                    · -- g17_11 False
                      exfalso; omega
                  · -- g17_8 False
                    refine Rg.gno rfl rfl rfl rfl ?_
                    refine Rg.gno rfl rfl rfl rfl ?_
                    refine Rg.gno rfl rfl rfl rfl ?_
                    refine Rg.gnox rfl rfl rfl ?_
                    refine Rg.gnox rfl rfl rfl ?_
                    refine Rg.gno rfl rfl rfl rfl ?_
                    refine Rg.gyes rfl rfl ?_
                    refine Rg.pickf rfl rfl rfl ?_
                    refine Rg.pickf rfl rfl rfl ?_
                    refine Rg.nil ?_
                    refine T.iff rfl ?_
                    refine T.skip ?_
                    refine T.region ?_ -- region 9
                    refine Rg.move rfl rfl ?_
                    refine Rg.iadd rfl rfl rfl (by omega) ?_
                    refine Rg.assign rfl rfl ?_
                    refine Rg.nil ?_
                    refine ⟨rfl, (k + 1, _), (.cons rfl (.cons rfl (.cons rfl (.cons rfl (.cons rfl (.cons rfl .nil)))))), ?_, ?_⟩
                    · first
                      | exact ⟨by simp only; omega, M3, s6.lt (s5.lt hM1), (S.trans0 s5).transBlk s6 (ho.step0 s5) (Nat.le_refl _), by simp only; rw [outL_succ, jl_y (by unfold cnt; rw [hk1, hk2]; first | omega | (rw [if_pos g17_8]; omega) | (split <;> omega))]; exact ho6⟩
                      | exact ⟨by simp only; omega, M1, hM1, S, by simp only; rw [outL_succ, jl_n (by unfold cnt; rw [hk1, hk2]; first | omega | (rw [if_neg g17_8]; omega) | (split <;> omega)), List.append_nil]; exact ho⟩
                      | (exfalso; omega)
                    · simp only; omega
              · -- g17_2 False
                exfalso; omega
          · -- c13 False
            have hf1 : hasF a (k : Int) = false := by
              rcases har1 with ⟨i, h, _⟩ | h
              · omega
              · exact h.2
            have hk1 : (if hasF a (k : Int) = true then (1 : Int) else 0) = 0 := by rw [if_neg (by rw [hf1]; decide)]
            have hs1 := scoreF_none hf1
            refine T.skip ?_
            refine T.seq ?_
            refine T.seq ?_
            refine T.region ?_ -- region 15
            refine Rg.move rfl rfl ?_
            refine Rg.ige rfl rfl rfl ?_
            refine Rg.nil ?_
            refine T.ifp rfl (fun c15 => ?_) (fun c15 => ?_)
            · -- c15 True
              obtain ⟨i2, rfl, hf2, hi2⟩ : ∃ i2 : Nat, r2 = i2 ∧ hasF b (k : Int) = true ∧ b[i2]? = some ((k : Int), scoreF b (k : Int)) := by
                rcases har2 with h | h
                · exact h
                · omega
              have hk2 : (if hasF b (k : Int) = true then (1 : Int) else 0) = 1 := by rw [if_pos hf2]
              have hs2 := rb.sc _ (List.mem_of_getElem? hi2)
              simp only at hs2
              refine T.region ?_ -- region 16
              refine Rg.move rfl rfl ?_
              refine Rg.move rfl rfl ?_
              refine Rg.move rfl rfl ?_
              have hil2 := (List.getElem?_eq_some_iff.1 hi2).1
              refine Rg.idx (M := M1) Tryd.underlying22 I26 rfl rfl rfl (hvb.le S.le) (Le.refl _ _) (by omega) (fun u16_3 a16_3 hg16_3 hu16_3 => ?_)
              obtain rfl : ((k : Int), scoreF b (k : Int)) = a16_3 := Eq.symm (Option.some.inj (hg16_3.symm.trans (by rw [Int.toNat_natCast]; exact hi2)))
              refine Rg.fieldAddr (M := M1) (A := RT.fo) (B := RT.int .i64) Tryd.underlying26 rfl rfl I3 (by decide) (fo1) rfl rfl (by decide) (by assumption) (by repeat (first | exact Le.refl _ _ | refine Le.trans (Step.le (by assumption)) ?_)) (fun u16_4 hu16_4 => ?_)
              refine Rg.loadi64 (M := M1) Tryd.underlying3 rfl rfl (by assumption) (by repeat (first | exact Le.refl _ _ | refine Le.trans (Step.le (by assumption)) ?_)) (fun in16_5 => ?_)
              refine Rg.eqv (v' := .int .i64 (scoreF b (k : Int))) rfl ?_
              replace in16_5 : -9223372036854775808 ≤ (scoreF b (k : Int) : Int) ∧ scoreF b (k : Int) ≤ 9223372036854775807 := in16_5
              refine Rg.iadd rfl rfl rfl (by omega) ?_
              refine Rg.assign rfl rfl ?_
              refine Rg.nil ?_
              refine T.seq ?_
              refine T.region ?_ -- region 17
              refine Rg.move rfl rfl ?_
              refine Rg.ige rfl rfl rfl ?_
              refine Rg.move rfl rfl ?_
              refine Rg.gsplitp (g := 68) rfl (fun g17_2 => ?_) (fun g17_2 => ?_)
              · -- g17_2 True
                exfalso; omega
              · -- g17_2 False
                refine Rg.gno rfl rfl rfl rfl ?_
                refine Rg.gno rfl rfl rfl rfl ?_
                refine Rg.pickf rfl rfl rfl ?_
                refine Rg.move rfl rfl ?_
                refine Rg.gyes rfl rfl ?_
                refine Rg.move rfl rfl ?_
                refine Rg.gyes rfl rfl ?_
                refine Rg.move rfl rfl ?_
                refine Rg.eqv (v' := .bool (decide (orr = true))) (by simp) ?_
                refine Rg.gsplitp (g := 74) rfl (fun g17_8 => ?_) (fun g17_8 => ?_)
                · -- g17_8 True
                  refine Rg.gyes rfl rfl ?_
                  refine Rg.move rfl rfl ?_
                  refine Rg.gyes rfl rfl ?_
                  refine Rg.ige rfl rfl rfl ?_
                  refine Rg.gyes rfl rfl ?_
                  refine Rg.move rfl rfl ?_
                  refine Rg.gsplitp (g := 77) rfl (fun g17_11 => ?_) (fun g17_11 => ?_)
                  · -- g17_11 True
                    exfalso; omega
                  · -- g17_11 False
                    refine Rg.gyes rfl rfl ?_
                    refine Rg.move rfl rfl ?_
                    refine Rg.gyes rfl rfl ?_
                    refine Rg.ige rfl rfl rfl ?_
                    refine Rg.gyes rfl rfl ?_
                    refine Rg.pickf rfl rfl rfl ?_
                    refine Rg.gyes rfl rfl ?_
                    refine Rg.pickt rfl rfl rfl ?_
                    refine Rg.pickf rfl rfl rfl ?_
                    refine Rg.nil ?_
                    refine T.ifp rfl (fun c17 => ?_) (fun c17 => ?_)
                    · -- c17 True

                      refine T.region ?_ -- region 18
                      refine Rg.move rfl rfl ?_
                      refine Rg.move rfl rfl ?_
                      refine Rg.move rfl rfl ?_
                      refine Rg.eqv (v' := .int .i64 (scoreF a (k : Int) + scoreF b (k : Int))) (by congr 1; omega) ?_
                      refine Rg.build (places := [(0, 1), (1, 1)]) Tryd.underlying26 I26 B26 rfl ⟨_, _, rfl, rfl, _, _, rfl, rfl, rfl⟩ (out := [_, _]) ⟨0, [_], rfl, rfl, by simp [Value.cells], 1, [_], rfl, rfl, by simp [Value.cells], rfl⟩ ?_
                      refine Rg.sl1 (A := RT.fo) (hn := by decide) (M := M1) Tryd.underlying22 I26 (by decide) rfl rfl hM1 (V_fo (a := (k : Int)) (b := scoreF a (k : Int) + scoreF b (k : Int)) (by omega) (by omega)) (.inl rfl) (fun u5 w5 hu5 s5 => ?_)
                      have hol := outL_len (if orr = true then (1 : Int) else 2) a b k
                      refine Rg.append (M := M1) (base := w0.heap.size) Tryd.underlying22 I26 rfl rfl rfl rfl (ho.step0 s5) hu5 (Le.refl _ _) (by simp; omega) (by simp; omega) (Nat.le_trans S.size s5.size) (fun v6 M3 w6 ho6 s6 => ?_)
                      refine Rg.assign rfl rfl ?_
                      refine Rg.nil ?_
                      refine T.region ?_ -- region 9
                      refine Rg.move rfl rfl ?_
                      refine Rg.iadd rfl rfl rfl (by omega) ?_
                      refine Rg.assign rfl rfl ?_
                      refine Rg.nil ?_
                      refine ⟨rfl, (k + 1, _), (.cons rfl (.cons rfl (.cons rfl (.cons rfl (.cons rfl (.cons rfl .nil)))))), ?_, ?_⟩
                      · first
                        | exact ⟨by simp only; omega, M3, s6.lt (s5.lt hM1), (S.trans0 s5).transBlk s6 (ho.step0 s5) (Nat.le_refl _), by simp only; rw [outL_succ, jl_y (by unfold cnt; rw [hk1, hk2]; first | omega | (rw [if_pos g17_8]; omega) | (split <;> omega))]; exact ho6⟩
                        | exact ⟨by simp only; omega, M1, hM1, S, by simp only; rw [outL_succ, jl_n (by unfold cnt; rw [hk1, hk2]; first | omega | (rw [if_neg g17_8]; omega) | (split <;> omega)), List.append_nil]; exact ho⟩
                        | (exfalso; omega)
                      · simp only; omega
                    · -- c17 False

                      refine T.skip ?_
                      refine T.region ?_ -- region 9
                      refine Rg.move rfl rfl ?_
                      refine Rg.iadd rfl rfl rfl (by omega) ?_
                      refine Rg.assign rfl rfl ?_
                      refine Rg.nil ?_
                      refine ⟨rfl, (k + 1, _), (.cons rfl (.cons rfl (.cons rfl (.cons rfl (.cons rfl (.cons rfl .nil)))))), ?_, ?_⟩
                      · first
                        | exact ⟨by simp only; omega, M3, s6.lt (s5.lt hM1), (S.trans0 s5).transBlk s6 (ho.step0 s5) (Nat.le_refl _), by simp only; rw [outL_succ, jl_y (by unfold cnt; rw [hk1, hk2]; first | omega | (rw [if_pos g17_8]; omega) | (split <;> omega))]; exact ho6⟩
                        | exact ⟨by simp only; omega, M1, hM1, S, by simp only; rw [outL_succ, jl_n (by unfold cnt; rw [hk1, hk2]; first | omega | (rw [if_neg g17_8]; omega) | (split <;> omega)), List.append_nil]; exact ho⟩
                        | (exfalso; omega)
                      · simp only; omega
                · -- g17_8 False
                  refine Rg.gno rfl rfl rfl rfl ?_
                  refine Rg.gno rfl rfl rfl rfl ?_
                  refine Rg.gno rfl rfl rfl rfl ?_
                  refine Rg.gnox rfl rfl rfl ?_
                  refine Rg.gnox rfl rfl rfl ?_
                  refine Rg.gno rfl rfl rfl rfl ?_
                  refine Rg.gyes rfl rfl ?_
                  refine Rg.pickf rfl rfl rfl ?_
                  refine Rg.pickf rfl rfl rfl ?_
                  refine Rg.nil ?_
                  refine T.iff rfl ?_
                  refine T.skip ?_
                  refine T.region ?_ -- region 9
                  refine Rg.move rfl rfl ?_
                  refine Rg.iadd rfl rfl rfl (by omega) ?_
                  refine Rg.assign rfl rfl ?_
                  refine Rg.nil ?_
                  refine ⟨rfl, (k + 1, _), (.cons rfl (.cons rfl (.cons rfl (.cons rfl (.cons rfl (.cons rfl .nil)))))), ?_, ?_⟩
                  · first
                    | exact ⟨by simp only; omega, M3, s6.lt (s5.lt hM1), (S.trans0 s5).transBlk s6 (ho.step0 s5) (Nat.le_refl _), by simp only; rw [outL_succ, jl_y (by unfold cnt; rw [hk1, hk2]; first | omega | (rw [if_pos g17_8]; omega) | (split <;> omega))]; exact ho6⟩
                    | exact ⟨by simp only; omega, M1, hM1, S, by simp only; rw [outL_succ, jl_n (by unfold cnt; rw [hk1, hk2]; first | omega | (rw [if_neg g17_8]; omega) | (split <;> omega)), List.append_nil]; exact ho⟩
                    | (exfalso; omega)
                  · simp only; omega
            · -- c15 False
              have hf2 : hasF b (k : Int) = false := by
                rcases har2 with ⟨i, h, _⟩ | h
                · omega
                · exact h.2
              have hk2 : (if hasF b (k : Int) = true then (1 : Int) else 0) = 0 := by rw [if_neg (by rw [hf2]; decide)]
              have hs2 := scoreF_none hf2
              refine T.skip ?_
              refine T.seq ?_
              refine T.region ?_ -- region 17
              refine Rg.move rfl rfl ?_
              refine Rg.ige rfl rfl rfl ?_
              refine Rg.move rfl rfl ?_
              refine Rg.gsplitp (g := 68) rfl (fun g17_2 => ?_) (fun g17_2 => ?_)
              · -- g17_2 True
                exfalso; omega
              · -- g17_2 False
                refine Rg.gno rfl rfl rfl rfl ?_
                refine Rg.gno rfl rfl rfl rfl ?_
                refine Rg.pickf rfl rfl rfl ?_
                refine Rg.move rfl rfl ?_
                refine Rg.gyes rfl rfl ?_
                refine Rg.move rfl rfl ?_
                refine Rg.gyes rfl rfl ?_
                refine Rg.move rfl rfl ?_
                refine Rg.eqv (v' := .bool (decide (orr = true))) (by simp) ?_
                refine Rg.gsplitp (g := 74) rfl (fun g17_8 => ?_) (fun g17_8 => ?_)
                · -- g17_8 True
                  refine Rg.gyes rfl rfl ?_
                  refine Rg.move rfl rfl ?_
                  refine Rg.gyes rfl rfl ?_
                  refine Rg.ige rfl rfl rfl ?_
                  refine Rg.gyes rfl rfl ?_
                  refine Rg.move rfl rfl ?_
                  refine Rg.gsplitp (g := 77) rfl (fun g17_11 => ?_) (fun g17_11 => ?_)
                  · -- g17_11 True
                    exfalso; omega
                  · -- g17_11 False
                    refine Rg.gyes rfl rfl ?_
                    refine Rg.move rfl rfl ?_
                    refine Rg.gyes rfl rfl ?_
                    refine Rg.ige rfl rfl rfl ?_
                    refine Rg.gyes rfl rfl ?_
                    refine Rg.pickf rfl rfl rfl ?_
                    refine Rg.gyes rfl rfl ?_
                    refine Rg.pickt rfl rfl rfl ?_
                    refine Rg.pickf rfl rfl rfl ?_
                    refine Rg.nil ?_
                    refine T.ifp rfl (fun c17 => ?_) (fun c17 => ?_)
                    · -- c17 True

                      refine T.region ?_ -- region 18
                      refine Rg.move rfl rfl ?_
                      refine Rg.move rfl rfl ?_
                      refine Rg.move rfl rfl ?_
                      refine Rg.eqv (v' := .int .i64 (scoreF a (k : Int) + scoreF b (k : Int))) (by congr 1; omega) ?_
                      refine Rg.build (places := [(0, 1), (1, 1)]) Tryd.underlying26 I26 B26 rfl ⟨_, _, rfl, rfl, _, _, rfl, rfl, rfl⟩ (out := [_, _]) ⟨0, [_], rfl, rfl, by simp [Value.cells], 1, [_], rfl, rfl, by simp [Value.cells], rfl⟩ ?_
                      refine Rg.sl1 (A := RT.fo) (hn := by decide) (M := M1) Tryd.underlying22 I26 (by decide) rfl rfl hM1 (V_fo (a := (k : Int)) (b := scoreF a (k : Int) + scoreF b (k : Int)) (by omega) (by omega)) (.inl rfl) (fun u5 w5 hu5 s5 => ?_)
                      have hol := outL_len (if orr = true then (1 : Int) else 2) a b k
                      refine Rg.append (M := M1) (base := w0.heap.size) Tryd.underlying22 I26 rfl rfl rfl rfl (ho.step0 s5) hu5 (Le.refl _ _) (by simp; omega) (by simp; omega) (Nat.le_trans S.size s5.size) (fun v6 M3 w6 ho6 s6 => ?_)
                      refine Rg.assign rfl rfl ?_
                      refine Rg.nil ?_
                      refine T.region ?_ -- region 9
                      refine Rg.move rfl rfl ?_
                      refine Rg.iadd rfl rfl rfl (by omega) ?_
                      refine Rg.assign rfl rfl ?_
                      refine Rg.nil ?_
                      refine ⟨rfl, (k + 1, _), (.cons rfl (.cons rfl (.cons rfl (.cons rfl (.cons rfl (.cons rfl .nil)))))), ?_, ?_⟩
                      · first
                        | exact ⟨by simp only; omega, M3, s6.lt (s5.lt hM1), (S.trans0 s5).transBlk s6 (ho.step0 s5) (Nat.le_refl _), by simp only; rw [outL_succ, jl_y (by unfold cnt; rw [hk1, hk2]; first | omega | (rw [if_pos g17_8]; omega) | (split <;> omega))]; exact ho6⟩
                        | exact ⟨by simp only; omega, M1, hM1, S, by simp only; rw [outL_succ, jl_n (by unfold cnt; rw [hk1, hk2]; first | omega | (rw [if_neg g17_8]; omega) | (split <;> omega)), List.append_nil]; exact ho⟩
                        | (exfalso; omega)
                      · simp only; omega
                    · -- c17 False

                      refine T.skip ?_
                      refine T.region ?_ -- region 9
                      refine Rg.move rfl rfl ?_
                      refine Rg.iadd rfl rfl rfl (by omega) ?_
                      refine Rg.assign rfl rfl ?_
                      refine Rg.nil ?_
                      refine ⟨rfl, (k + 1, _), (.cons rfl (.cons rfl (.cons rfl (.cons rfl (.cons rfl (.cons rfl .nil)))))), ?_, ?_⟩
                      · first
                        | exact ⟨by simp only; omega, M3, s6.lt (s5.lt hM1), (S.trans0 s5).transBlk s6 (ho.step0 s5) (Nat.le_refl _), by simp only; rw [outL_succ, jl_y (by unfold cnt; rw [hk1, hk2]; first | omega | (rw [if_pos g17_8]; omega) | (split <;> omega))]; exact ho6⟩
                        | exact ⟨by simp only; omega, M1, hM1, S, by simp only; rw [outL_succ, jl_n (by unfold cnt; rw [hk1, hk2]; first | omega | (rw [if_neg g17_8]; omega) | (split <;> omega)), List.append_nil]; exact ho⟩
                        | (exfalso; omega)
                      · simp only; omega
                · -- g17_8 False
                  refine Rg.gno rfl rfl rfl rfl ?_
                  refine Rg.gno rfl rfl rfl rfl ?_
                  refine Rg.gno rfl rfl rfl rfl ?_
                  refine Rg.gnox rfl rfl rfl ?_
                  refine Rg.gnox rfl rfl rfl ?_
                  refine Rg.gno rfl rfl rfl rfl ?_
                  refine Rg.gyes rfl rfl ?_
                  refine Rg.pickf rfl rfl rfl ?_
                  refine Rg.pickf rfl rfl rfl ?_
                  refine Rg.nil ?_
                  refine T.iff rfl ?_
                  refine T.skip ?_
                  refine T.region ?_ -- region 9
                  refine Rg.move rfl rfl ?_
                  refine Rg.iadd rfl rfl rfl (by omega) ?_
                  refine Rg.assign rfl rfl ?_
                  refine Rg.nil ?_
                  refine ⟨rfl, (k + 1, _), (.cons rfl (.cons rfl (.cons rfl (.cons rfl (.cons rfl (.cons rfl .nil)))))), ?_, ?_⟩
                  · first
                    | exact ⟨by simp only; omega, M3, s6.lt (s5.lt hM1), (S.trans0 s5).transBlk s6 (ho.step0 s5) (Nat.le_refl _), by simp only; rw [outL_succ, jl_y (by unfold cnt; rw [hk1, hk2]; first | omega | (rw [if_pos g17_8]; omega) | (split <;> omega))]; exact ho6⟩
                    | exact ⟨by simp only; omega, M1, hM1, S, by simp only; rw [outL_succ, jl_n (by unfold cnt; rw [hk1, hk2]; first | omega | (rw [if_neg g17_8]; omega) | (split <;> omega)), List.append_nil]; exact ho⟩
                    | (exfalso; omega)
                  · simp only; omega
        · -- c8 False
          refine T.exit ?_
          refine T.seq ?_
          refine T.region ?_ -- region 19
          refine Rg.move rfl rfl ?_
          refine Rg.assign rfl rfl ?_
          refine Rg.nil ?_
          refine T.ret ?_
          obtain rfl : k = mo := by omega
          exact Kret1 rfl rfl ⟨⟨k, ha2, hb2, hmok, Own.close hM S ho (by have := outL_len (if orr = true then (1 : Int) else 2) a b k; omega)⟩, S.back⟩
  · -- c2 False
    obtain ⟨m1, hm1⟩ : ∃ m1 : Nat, m1 = 0 := ⟨_, rfl⟩
    have hae : a = [] := List.length_eq_zero_iff.1 (by omega)
    have ha1 : ∀ p ∈ a, p.1 < (m1 : Nat) := fun p hp => by rw [hae] at hp; cases hp
    have hm1k : m1 ≤ 1000 := by omega
    refine T.skip ?_
    refine T.seq ?_
    refine T.seq ?_
    refine T.region ?_ -- region 4
    refine Rg.move rfl rfl ?_
    refine Rg.lensl Tryd.underlying22 rfl hvb rfl ?_
    refine Rg.igt rfl rfl rfl ?_
    refine Rg.nil ?_
    refine T.ifp rfl (fun c4 => ?_) (fun c4 => ?_)
    · -- c4 True
      refine T.region ?_ -- region 5
      refine Rg.move rfl rfl ?_
      refine Rg.move rfl rfl ?_
      refine Rg.move rfl rfl ?_
      refine Rg.lensl Tryd.underlying22 rfl hvb rfl ?_
      refine Rg.isub rfl rfl rfl (by omega) ?_
      obtain ⟨⟨e2, t2⟩, hx2⟩ : ∃ x, b[b.length - 1]? = some x := ⟨_, List.getElem?_eq_getElem (by omega)⟩
      have re2 := rb.rng _ (List.mem_of_getElem? hx2)
      simp only at re2
      refine Rg.idx (M := M) Tryd.underlying22 I26 rfl rfl rfl (hvb) (Le.refl _ _) (by omega) (fun u5_5 a5_5 hg5_5 hu5_5 => ?_)
      obtain rfl : (e2, t2) = a5_5 := Eq.symm (Option.some.inj (hg5_5.symm.trans (by rw [show ((b.length : Int) - 1).toNat = b.length - 1 from by omega]; exact hx2)))
      refine Rg.fieldAddr (M := M) (A := RT.fo) (B := RT.int .i64) Tryd.underlying26 rfl rfl I3 (by decide) (fo0) rfl rfl (by decide) (by assumption) (by repeat (first | exact Le.refl _ _ | refine Le.trans (Step.le (by assumption)) ?_)) (fun u5_6 hu5_6 => ?_)
      refine Rg.loadi64 (M := M) Tryd.underlying3 rfl rfl (by assumption) (by repeat (first | exact Le.refl _ _ | refine Le.trans (Step.le (by assumption)) ?_)) (fun in5_7 => ?_)
      refine Rg.eqv (v' := .int .i64 (e2)) rfl ?_
      replace in5_7 : -9223372036854775808 ≤ (e2 : Int) ∧ e2 ≤ 9223372036854775807 := in5_7
      refine Rg.iadd rfl rfl rfl (by omega) ?_
      refine Rg.max2 rfl rfl rfl ?_
      obtain ⟨mo, hmo⟩ : ∃ mo : Nat, (mo : Int) = max (m1 : Int) (e2 + 1) := ⟨(max (m1 : Int) (e2 + 1)).toNat, by omega⟩
      refine Rg.assign rfl rfl ?_
      refine Rg.eqv (v' := .int .i64 mo) (by first | (rw [hmo]; done) | (rw [hmo, hm1]; rfl)) ?_
      have ha2 : ∀ p ∈ a, p.1 < (mo : Nat) := fun p hp => by have := ha1 p hp; omega
      have hb2 : ∀ p ∈ b, p.1 < (mo : Nat) := fun p hp => by have := last_all rb hx2 p hp; simp only at this; omega
      have hmok : mo ≤ 1000 := by omega
      refine Rg.nil ?_
      refine T.seq ?_
      refine T.region ?_ -- region 6
      refine Rg.assign rfl rfl ?_
      refine Rg.nil ?_
      refine T.seq ?_
      refine T.seq ?_
      refine T.region ?_ -- region 7
      refine Rg.assign rfl rfl ?_
      refine Rg.nil ?_
      refine T.block ?_
      refine T.loop (σ := Nat × Value) (fun s => [(0, va), (1, vb), (2, .bool orr), (7, .int .i64 mo), (8, s.2), (9, .int .i64 s.1)]) (fun s w => s.1 ≤ mo ∧ ∃ M1, Lt M1 w ∧ Step M w0 M1 w none' ∧ Own RT.fo 26 M1 w w0.heap.size s.2 (outL (if orr = true then (1 : Int) else 2) a b 0 s.1)) (fun s => mo - s.1) (0, _) (.cons rfl (.cons rfl (.cons rfl (.cons (by first | rfl | (rw [hmo]; rfl) | (rw [hmo, hm1]; rfl)) (.cons rfl (.cons rfl .nil)))))) ?_ ?_ -- loop 0
      · exact ⟨Nat.zero_le _, M, hM, Step.refl _ _, Own.nil _ _ _ _ _⟩
      · rintro ⟨k, u0⟩ w1 ⟨hk, M1, hM1, S, ho⟩
        dsimp only at hk ho ⊢
        refine T.seq ?_
        refine T.seq ?_
        refine T.region ?_ -- region 8
        refine Rg.move rfl rfl ?_
        refine Rg.move rfl rfl ?_
        refine Rg.ilt rfl rfl rfl ?_
        refine Rg.nil ?_
        refine T.ifp rfl (fun c8 => ?_) (fun c8 => ?_)
        · -- c8 True
          refine T.skip ?_
          refine T.seq ?_
          refine T.block ?_
          refine T.seq ?_
          refine T.region ?_ -- region 10
          refine Rg.move rfl rfl ?_
          refine Rg.move rfl rfl ?_
          refine Rg.call rfl rfl E19 (at13_spec (hva.le S.le)) (fun r wc h => ?_)
          obtain ⟨⟨r1, rfl, har1, h1a, h1b⟩, rfl⟩ := h
          refine Rg.assign rfl rfl ?_
          refine Rg.nil ?_
          refine T.seq ?_
          refine T.region ?_ -- region 11
          refine Rg.move rfl rfl ?_
          refine Rg.move rfl rfl ?_
          refine Rg.call rfl rfl E19 (at13_spec (hvb.le S.le)) (fun r wc h => ?_)
          obtain ⟨⟨r2, rfl, har2, h2a, h2b⟩, rfl⟩ := h
          refine Rg.assign rfl rfl ?_
          refine Rg.nil ?_
          refine T.seq ?_
          refine T.region ?_ -- region 12
          refine Rg.assign rfl rfl ?_
          refine Rg.nil ?_
          refine T.seq ?_
          refine T.seq ?_
          refine T.region ?_ -- region 13
          refine Rg.move rfl rfl ?_
          refine Rg.ige rfl rfl rfl ?_
          refine Rg.nil ?_
          refine T.ifp rfl (fun c13 => ?_) (fun c13 => ?_)
          · -- c13 True
            obtain ⟨i1, rfl, hf1, hi1⟩ : ∃ i1 : Nat, r1 = i1 ∧ hasF a (k : Int) = true ∧ a[i1]? = some ((k : Int), scoreF a (k : Int)) := by
              rcases har1 with h | h
              · exact h
              · omega
            have hk1 : (if hasF a (k : Int) = true then (1 : Int) else 0) = 1 := by rw [if_pos hf1]
            have hs1 := ra.sc _ (List.mem_of_getElem? hi1)
            simp only at hs1
            refine T.region ?_ -- region 14
            refine Rg.move rfl rfl ?_
            refine Rg.move rfl rfl ?_
            refine Rg.move rfl rfl ?_
            have hil := (List.getElem?_eq_some_iff.1 hi1).1
            refine Rg.idx (M := M1) Tryd.underlying22 I26 rfl rfl rfl (hva.le S.le) (Le.refl _ _) (by omega) (fun u14_3 a14_3 hg14_3 hu14_3 => ?_)
            obtain rfl : ((k : Int), scoreF a (k : Int)) = a14_3 := Eq.symm (Option.some.inj (hg14_3.symm.trans (by rw [Int.toNat_natCast]; exact hi1)))
            refine Rg.fieldAddr (M := M1) (A := RT.fo) (B := RT.int .i64) Tryd.underlying26 rfl rfl I3 (by decide) (fo1) rfl rfl (by decide) (by assumption) (by repeat (first | exact Le.refl _ _ | refine Le.trans (Step.le (by assumption)) ?_)) (fun u14_4 hu14_4 => ?_)
            refine Rg.loadi64 (M := M1) Tryd.underlying3 rfl rfl (by assumption) (by repeat (first | exact Le.refl _ _ | refine Le.trans (Step.le (by assumption)) ?_)) (fun in14_5 => ?_)
            refine Rg.eqv (v' := .int .i64 (scoreF a (k : Int))) rfl ?_
            replace in14_5 : -9223372036854775808 ≤ (scoreF a (k : Int) : Int) ∧ scoreF a (k : Int) ≤ 9223372036854775807 := in14_5
            refine Rg.iadd rfl rfl rfl (by omega) ?_
            refine Rg.assign rfl rfl ?_
            refine Rg.nil ?_
            refine T.seq ?_
            refine T.seq ?_
            refine T.region ?_ -- region 15
            refine Rg.move rfl rfl ?_
            refine Rg.ige rfl rfl rfl ?_
            refine Rg.nil ?_
            refine T.ifp rfl (fun c15 => ?_) (fun c15 => ?_)
            · -- c15 True
              obtain ⟨i2, rfl, hf2, hi2⟩ : ∃ i2 : Nat, r2 = i2 ∧ hasF b (k : Int) = true ∧ b[i2]? = some ((k : Int), scoreF b (k : Int)) := by
                rcases har2 with h | h
                · exact h
                · omega
              have hk2 : (if hasF b (k : Int) = true then (1 : Int) else 0) = 1 := by rw [if_pos hf2]
              have hs2 := rb.sc _ (List.mem_of_getElem? hi2)
              simp only at hs2
              refine T.region ?_ -- region 16
              refine Rg.move rfl rfl ?_
              refine Rg.move rfl rfl ?_
              refine Rg.move rfl rfl ?_
              have hil2 := (List.getElem?_eq_some_iff.1 hi2).1
              refine Rg.idx (M := M1) Tryd.underlying22 I26 rfl rfl rfl (hvb.le S.le) (Le.refl _ _) (by omega) (fun u16_3 a16_3 hg16_3 hu16_3 => ?_)
              obtain rfl : ((k : Int), scoreF b (k : Int)) = a16_3 := Eq.symm (Option.some.inj (hg16_3.symm.trans (by rw [Int.toNat_natCast]; exact hi2)))
              refine Rg.fieldAddr (M := M1) (A := RT.fo) (B := RT.int .i64) Tryd.underlying26 rfl rfl I3 (by decide) (fo1) rfl rfl (by decide) (by assumption) (by repeat (first | exact Le.refl _ _ | refine Le.trans (Step.le (by assumption)) ?_)) (fun u16_4 hu16_4 => ?_)
              refine Rg.loadi64 (M := M1) Tryd.underlying3 rfl rfl (by assumption) (by repeat (first | exact Le.refl _ _ | refine Le.trans (Step.le (by assumption)) ?_)) (fun in16_5 => ?_)
              refine Rg.eqv (v' := .int .i64 (scoreF b (k : Int))) rfl ?_
              replace in16_5 : -9223372036854775808 ≤ (scoreF b (k : Int) : Int) ∧ scoreF b (k : Int) ≤ 9223372036854775807 := in16_5
              refine Rg.iadd rfl rfl rfl (by omega) ?_
              refine Rg.assign rfl rfl ?_
              refine Rg.nil ?_
              refine T.seq ?_
              refine T.region ?_ -- region 17
              refine Rg.move rfl rfl ?_
              refine Rg.ige rfl rfl rfl ?_
              refine Rg.move rfl rfl ?_
              refine Rg.gsplitp (g := 68) rfl (fun g17_2 => ?_) (fun g17_2 => ?_)
              · -- g17_2 True
                refine Rg.gyes rfl rfl ?_
                refine Rg.move rfl rfl ?_
                refine Rg.gyes rfl rfl ?_
                refine Rg.ige rfl rfl rfl ?_
                refine Rg.pickt rfl rfl rfl ?_
                refine Rg.move rfl rfl ?_
                refine Rg.gsplitp (g := 72) rfl (fun g17_6 => ?_) (fun g17_6 => ?_)
                · -- g17_6 True
                  refine Rg.gno rfl rfl rfl rfl ?_
                  refine Rg.gno rfl rfl rfl rfl ?_
                  refine Rg.gnox rfl rfl rfl ?_
                  refine Rg.gnox rfl rfl rfl ?_
                  refine Rg.gnox rfl rfl rfl ?_
                  refine Rg.gnox rfl rfl rfl ?_
                  refine Rg.gnox rfl rfl rfl ?_
                  refine Rg.gnox rfl rfl rfl ?_
                  refine Rg.gno rfl rfl rfl rfl ?_
                  refine Rg.pickt rfl rfl rfl ?_
                  refine Rg.nil ?_
                  refine T.ift rfl ?_
                  refine T.region ?_ -- region 18
                  refine Rg.move rfl rfl ?_
                  refine Rg.move rfl rfl ?_
                  refine Rg.move rfl rfl ?_
                  refine Rg.eqv (v' := .int .i64 (scoreF a (k : Int) + scoreF b (k : Int))) (by congr 1; omega) ?_
                  refine Rg.build (places := [(0, 1), (1, 1)]) Tryd.underlying26 I26 B26 rfl ⟨_, _, rfl, rfl, _, _, rfl, rfl, rfl⟩ (out := [_, _]) ⟨0, [_], rfl, rfl, by simp [Value.cells], 1, [_], rfl, rfl, by simp [Value.cells], rfl⟩ ?_
                  refine Rg.sl1 (A := RT.fo) (hn := by decide) (M := M1) Tryd.underlying22 I26 (by decide) rfl rfl hM1 (V_fo (a := (k : Int)) (b := scoreF a (k : Int) + scoreF b (k : Int)) (by omega) (by omega)) (.inl rfl) (fun u5 w5 hu5 s5 => ?_)
                  have hol := outL_len (if orr = true then (1 : Int) else 2) a b k
                  refine Rg.append (M := M1) (base := w0.heap.size) Tryd.underlying22 I26 rfl rfl rfl rfl (ho.step0 s5) hu5 (Le.refl _ _) (by simp; omega) (by simp; omega) (Nat.le_trans S.size s5.size) (fun v6 M3 w6 ho6 s6 => ?_)
                  refine Rg.assign rfl rfl ?_
                  refine Rg.nil ?_
                  refine T.region ?_ -- region 9
                  refine Rg.move rfl rfl ?_
                  refine Rg.iadd rfl rfl rfl (by omega) ?_
                  refine Rg.assign rfl rfl ?_
                  refine Rg.nil ?_
                  refine ⟨rfl, (k + 1, _), (.cons rfl (.cons rfl (.cons rfl (.cons rfl (.cons rfl (.cons rfl .nil)))))), ?_, ?_⟩
                  · first
                    | exact ⟨by simp only; omega, M3, s6.lt (s5.lt hM1), (S.trans0 s5).transBlk s6 (ho.step0 s5) (Nat.le_refl _), by simp only; rw [outL_succ, jl_y (by unfold cnt; rw [hk1, hk2]; first | omega | (rw [if_pos g17_8]; omega) | (split <;> omega))]; exact ho6⟩
                    | exact ⟨by simp only; omega, M1, hM1, S, by simp only; rw [outL_succ, jl_n (by unfold cnt; rw [hk1, hk2]; first | omega | (rw [if_neg g17_8]; omega) | (split <;> omega)), List.append_nil]; exact ho⟩
                    | (exfalso; omega)
                  · simp only; omega
                · -- g17_6 False

                  refine Rg.gyes rfl rfl ?_
                  refine Rg.move rfl rfl ?_
                  refine Rg.gyes rfl rfl ?_
                  refine Rg.move rfl rfl ?_
                  refine Rg.eqv (v' := .bool (decide (orr = true))) (by simp) ?_
                  refine Rg.gsplitp (g := 74) rfl (fun g17_8 => ?_) (fun g17_8 => ?_)
                  · -- g17_8 True
                    refine Rg.gyes rfl rfl ?_
                    refine Rg.move rfl rfl ?_
                    refine Rg.gyes rfl rfl ?_
                    refine Rg.ige rfl rfl rfl ?_
                    refine Rg.gyes rfl rfl ?_
                    refine Rg.move rfl rfl ?_
                    refine Rg.gsplitp (g := 77) rfl (fun g17_11 => ?_) (fun g17_11 => ?_)
                    · -- g17_11 True
                      refine Rg.gno rfl rfl rfl rfl ?_
                      refine Rg.gno rfl rfl rfl rfl ?_
                      refine Rg.gyes rfl rfl ?_
                      refine Rg.pickt rfl rfl rfl ?_
                      refine Rg.gyes rfl rfl ?_
                      refine Rg.pickt rfl rfl rfl ?_
                      refine Rg.pickf rfl rfl rfl ?_
                      refine Rg.nil ?_
                      refine T.ift rfl ?_
                      refine T.region ?_ -- region 18
                      refine Rg.move rfl rfl ?_
                      refine Rg.move rfl rfl ?_
                      refine Rg.move rfl rfl ?_
                      refine Rg.eqv (v' := .int .i64 (scoreF a (k : Int) + scoreF b (k : Int))) (by congr 1; omega) ?_
                      refine Rg.build (places := [(0, 1), (1, 1)]) Tryd.underlying26 I26 B26 rfl ⟨_, _, rfl, rfl, _, _, rfl, rfl, rfl⟩ (out := [_, _]) ⟨0, [_], rfl, rfl, by simp [Value.cells], 1, [_], rfl, rfl, by simp [Value.cells], rfl⟩ ?_
                      refine Rg.sl1 (A := RT.fo) (hn := by decide) (M := M1) Tryd.underlying22 I26 (by decide) rfl rfl hM1 (V_fo (a := (k : Int)) (b := scoreF a (k : Int) + scoreF b (k : Int)) (by omega) (by omega)) (.inl rfl) (fun u5 w5 hu5 s5 => ?_)
                      have hol := outL_len (if orr = true then (1 : Int) else 2) a b k
                      refine Rg.append (M := M1) (base := w0.heap.size) Tryd.underlying22 I26 rfl rfl rfl rfl (ho.step0 s5) hu5 (Le.refl _ _) (by simp; omega) (by simp; omega) (Nat.le_trans S.size s5.size) (fun v6 M3 w6 ho6 s6 => ?_)
                      refine Rg.assign rfl rfl ?_
                      refine Rg.nil ?_
                      refine T.region ?_ -- region 9
                      refine Rg.move rfl rfl ?_
                      refine Rg.iadd rfl rfl rfl (by omega) ?_
                      refine Rg.assign rfl rfl ?_
                      refine Rg.nil ?_
                      refine ⟨rfl, (k + 1, _), (.cons rfl (.cons rfl (.cons rfl (.cons rfl (.cons rfl (.cons rfl .nil)))))), ?_, ?_⟩
                      · first
                        | exact ⟨by simp only; omega, M3, s6.lt (s5.lt hM1), (S.trans0 s5).transBlk s6 (ho.step0 s5) (Nat.le_refl _), by simp only; rw [outL_succ, jl_y (by unfold cnt; rw [hk1, hk2]; first | omega | (rw [if_pos g17_8]; omega) | (split <;> omega))]; exact ho6⟩
                        | exact ⟨by simp only; omega, M1, hM1, S, by simp only; rw [outL_succ, jl_n (by unfold cnt; rw [hk1, hk2]; first | omega | (rw [if_neg g17_8]; omega) | (split <;> omega)), List.append_nil]; exact ho⟩
                        | (exfalso; omega)
                      · simp only; omega
                    · -- g17_11 False
                      exfalso; omega
                  · -- g17_8 False
                    refine Rg.gno rfl rfl rfl rfl ?_
                    refine Rg.gno rfl rfl rfl rfl ?_
                    refine Rg.gno rfl rfl rfl rfl ?_
                    refine Rg.gnox rfl rfl rfl ?_
                    refine Rg.gnox rfl rfl rfl ?_
                    refine Rg.gno rfl rfl rfl rfl ?_
                    refine Rg.gyes rfl rfl ?_
                    refine Rg.pickf rfl rfl rfl ?_
                    refine Rg.pickf rfl rfl rfl ?_
                    refine Rg.nil ?_
                    refine T.iff rfl ?_
                    refine T.skip ?_
                    refine T.region ?_ -- region 9
                    refine Rg.move rfl rfl ?_
                    refine Rg.iadd rfl rfl rfl (by omega) ?_
                    refine Rg.assign rfl rfl ?_
                    refine Rg.nil ?_
                    refine ⟨rfl, (k + 1, _), (.cons rfl (.cons rfl (.cons rfl (.cons rfl (.cons rfl (.cons rfl .nil)))))), ?_, ?_⟩
                    · first
                      | exact ⟨by simp only; omega, M3, s6.lt (s5.lt hM1), (S.trans0 s5).transBlk s6 (ho.step0 s5) (Nat.le_refl _), by simp only; rw [outL_succ, jl_y (by unfold cnt; rw [hk1, hk2]; first | omega | (rw [if_pos g17_8]; omega) | (split <;> omega))]; exact ho6⟩
                      | exact ⟨by simp only; omega, M1, hM1, S, by simp only; rw [outL_succ, jl_n (by unfold cnt; rw [hk1, hk2]; first | omega | (rw [if_neg g17_8]; omega) | (split <;> omega)), List.append_nil]; exact ho⟩
                      | (exfalso; omega)
                    · simp only; omega
              · -- g17_2 False
                exfalso; omega
            · -- c15 False
              have hf2 : hasF b (k : Int) = false := by
                rcases har2 with ⟨i, h, _⟩ | h
                · omega
                · exact h.2
              have hk2 : (if hasF b (k : Int) = true then (1 : Int) else 0) = 0 := by rw [if_neg (by rw [hf2]; decide)]
              have hs2 := scoreF_none hf2
              refine T.skip ?_
              refine T.seq ?_
              refine T.region ?_ -- region 17
              refine Rg.move rfl rfl ?_
              refine Rg.ige rfl rfl rfl ?_
              refine Rg.move rfl rfl ?_
              refine Rg.gsplitp (g := 68) rfl (fun g17_2 => ?_) (fun g17_2 => ?_)
              · -- g17_2 True
                refine Rg.gyes rfl rfl ?_
                refine Rg.move rfl rfl ?_
                refine Rg.gyes rfl rfl ?_
                refine Rg.ige rfl rfl rfl ?_
                refine Rg.pickt rfl rfl rfl ?_
                refine Rg.move rfl rfl ?_
                refine Rg.gsplitp (g := 72) rfl (fun g17_6 => ?_) (fun g17_6 => ?_)
                · -- g17_6 True
                  exfalso; omega
                · -- g17_6 False
                  refine Rg.gyes rfl rfl ?_
                  refine Rg.move rfl rfl ?_
                  refine Rg.gyes rfl rfl ?_
                  refine Rg.move rfl rfl ?_
                  refine Rg.eqv (v' := .bool (decide (orr = true))) (by simp) ?_
                  refine Rg.gsplitp (g := 74) rfl (fun g17_8 => ?_) (fun g17_8 => ?_)
                  · -- g17_8 True
                    refine Rg.gyes rfl rfl ?_
                    refine Rg.move rfl rfl ?_
                    refine Rg.gyes rfl rfl ?_
                    refine Rg.ige rfl rfl rfl ?_
                    refine Rg.gyes rfl rfl ?_
                    refine Rg.move rfl rfl ?_
                    refine Rg.gsplitp (g := 77) rfl (fun g17_11 => ?_) (fun g17_11 => ?_)
                    · -- g17_11 True
                      refine Rg.gno rfl rfl rfl rfl ?_
                      refine Rg.gno rfl rfl rfl rfl ?_
                      refine Rg.gyes rfl rfl ?_
                      refine Rg.pickt rfl rfl rfl ?_
                      refine Rg.gyes rfl rfl ?_
                      refine Rg.pickt rfl rfl rfl ?_
                      refine Rg.pickf rfl rfl rfl ?_
                      refine Rg.nil ?_
                      refine T.ift rfl ?_
                      refine T.region ?_ -- region 18
                      refine Rg.move rfl rfl ?_
                      refine Rg.move rfl rfl ?_
                      refine Rg.move rfl rfl ?_
                      refine Rg.eqv (v' := .int .i64 (scoreF a (k : Int) + scoreF b (k : Int))) (by congr 1; omega) ?_
                      refine Rg.build (places := [(0, 1), (1, 1)]) Tryd.underlying26 I26 B26 rfl ⟨_, _, rfl, rfl, _, _, rfl, rfl, rfl⟩ (out := [_, _]) ⟨0, [_], rfl, rfl, by simp [Value.cells], 1, [_], rfl, rfl, by simp [Value.cells], rfl⟩ ?_
                      refine Rg.sl1 (A := RT.fo) (hn := by decide) (M := M1) Tryd.underlying22 I26 (by decide) rfl rfl hM1 (V_fo (a := (k : Int)) (b := scoreF a (k : Int) + scoreF b (k : Int)) (by omega) (by omega)) (.inl rfl) (fun u5 w5 hu5 s5 => ?_)
                      have hol := outL_len (if orr = true then (1 : Int) else 2) a b k
                      refine Rg.append (M := M1) (base := w0.heap.size) Tryd.underlying22 I26 rfl rfl rfl rfl (ho.step0 s5) hu5 (Le.refl _ _) (by simp; omega) (by simp; omega) (Nat.le_trans S.size s5.size) (fun v6 M3 w6 ho6 s6 => ?_)
                      refine Rg.assign rfl rfl ?_
                      refine Rg.nil ?_
                      refine T.region ?_ -- region 9
                      refine Rg.move rfl rfl ?_
                      refine Rg.iadd rfl rfl rfl (by omega) ?_
                      refine Rg.assign rfl rfl ?_
                      refine Rg.nil ?_
                      refine ⟨rfl, (k + 1, _), (.cons rfl (.cons rfl (.cons rfl (.cons rfl (.cons rfl (.cons rfl .nil)))))), ?_, ?_⟩
                      · first
                        | exact ⟨by simp only; omega, M3, s6.lt (s5.lt hM1), (S.trans0 s5).transBlk s6 (ho.step0 s5) (Nat.le_refl _), by simp only; rw [outL_succ, jl_y (by unfold cnt; rw [hk1, hk2]; first | omega | (rw [if_pos g17_8]; omega) | (split <;> omega))]; exact ho6⟩
                        | exact ⟨by simp only; omega, M1, hM1, S, by simp only; rw [outL_succ, jl_n (by unfold cnt; rw [hk1, hk2]; first | omega | (rw [if_neg g17_8]; omega) | (split <;> omega)), List.append_nil]; exact ho⟩
                        | (exfalso; omega)
                      · simp only; omega
                    · -- g17_11 False
                      exfalso; omega
                  · -- g17_8 False
                    refine Rg.gno rfl rfl rfl rfl ?_
                    refine Rg.gno rfl rfl rfl rfl ?_
                    refine Rg.gno rfl rfl rfl rfl ?_
                    refine Rg.gnox rfl rfl rfl ?_
                    refine Rg.gnox rfl rfl rfl ?_
                    refine Rg.gno rfl rfl rfl rfl ?_
                    refine Rg.gyes rfl rfl ?_
                    refine Rg.pickf rfl rfl rfl ?_
                    refine Rg.pickf rfl rfl rfl ?_
                    refine Rg.nil ?_
                    refine T.iff rfl ?_
                    refine T.skip ?_
                    refine T.region ?_ -- region 9
                    refine Rg.move rfl rfl ?_
                    refine Rg.iadd rfl rfl rfl (by omega) ?_
                    refine Rg.assign rfl rfl ?_
                    refine Rg.nil ?_
                    refine ⟨rfl, (k + 1, _), (.cons rfl (.cons rfl (.cons rfl (.cons rfl (.cons rfl (.cons rfl .nil)))))), ?_, ?_⟩
                    · first
                      | exact ⟨by simp only; omega, M3, s6.lt (s5.lt hM1), (S.trans0 s5).transBlk s6 (ho.step0 s5) (Nat.le_refl _), by simp only; rw [outL_succ, jl_y (by unfold cnt; rw [hk1, hk2]; first | omega | (rw [if_pos g17_8]; omega) | (split <;> omega))]; exact ho6⟩
                      | exact ⟨by simp only; omega, M1, hM1, S, by simp only; rw [outL_succ, jl_n (by unfold cnt; rw [hk1, hk2]; first | omega | (rw [if_neg g17_8]; omega) | (split <;> omega)), List.append_nil]; exact ho⟩
                      | (exfalso; omega)
                    · simp only; omega
              · -- g17_2 False
                exfalso; omega
          · -- c13 False
            have hf1 : hasF a (k : Int) = false := by
              rcases har1 with ⟨i, h, _⟩ | h
              · omega
              · exact h.2
            have hk1 : (if hasF a (k : Int) = true then (1 : Int) else 0) = 0 := by rw [if_neg (by rw [hf1]; decide)]
            have hs1 := scoreF_none hf1
            refine T.skip ?_
            refine T.seq ?_
            refine T.seq ?_
            refine T.region ?_ -- region 15
            refine Rg.move rfl rfl ?_
            refine Rg.ige rfl rfl rfl ?_
            refine Rg.nil ?_
            refine T.ifp rfl (fun c15 => ?_) (fun c15 => ?_)
            · -- c15 True
              obtain ⟨i2, rfl, hf2, hi2⟩ : ∃ i2 : Nat, r2 = i2 ∧ hasF b (k : Int) = true ∧ b[i2]? = some ((k : Int), scoreF b (k : Int)) := by
                rcases har2 with h | h
                · exact h
                · omega
              have hk2 : (if hasF b (k : Int) = true then (1 : Int) else 0) = 1 := by rw [if_pos hf2]
              have hs2 := rb.sc _ (List.mem_of_getElem? hi2)
              simp only at hs2
              refine T.region ?_ -- region 16
              refine Rg.move rfl rfl ?_
              refine Rg.move rfl rfl ?_
              refine Rg.move rfl rfl ?_
              have hil2 := (List.getElem?_eq_some_iff.1 hi2).1
              refine Rg.idx (M := M1) Tryd.underlying22 I26 rfl rfl rfl (hvb.le S.le) (Le.refl _ _) (by omega) (fun u16_3 a16_3 hg16_3 hu16_3 => ?_)
              obtain rfl : ((k : Int), scoreF b (k : Int)) = a16_3 := Eq.symm (Option.some.inj (hg16_3.symm.trans (by rw [Int.toNat_natCast]; exact hi2)))
              refine Rg.fieldAddr (M := M1) (A := RT.fo) (B := RT.int .i64) Tryd.underlying26 rfl rfl I3 (by decide) (fo1) rfl rfl (by decide) (by assumption) (by repeat (first | exact Le.refl _ _ | refine Le.trans (Step.le (by assumption)) ?_)) (fun u16_4 hu16_4 => ?_)
              refine Rg.loadi64 (M := M1) Tryd.underlying3 rfl rfl (by assumption) (by repeat (first | exact Le.refl _ _ | refine Le.trans (Step.le (by assumption)) ?_)) (fun in16_5 => ?_)
              refine Rg.eqv (v' := .int .i64 (scoreF b (k : Int))) rfl ?_
              replace in16_5 : -9223372036854775808 ≤ (scoreF b (k : Int) : Int) ∧ scoreF b (k : Int) ≤ 9223372036854775807 := in16_5
              refine Rg.iadd rfl rfl rfl (by omega) ?_
              refine Rg.assign rfl rfl ?_
              refine Rg.nil ?_
              refine T.seq ?_
              refine T.region ?_ -- region 17
              refine Rg.move rfl rfl ?_
              refine Rg.ige rfl rfl rfl ?_
              refine Rg.move rfl rfl ?_
              refine Rg.gsplitp (g := 68) rfl (fun g17_2 => ?_) (fun g17_2 => ?_)
              · -- g17_2 True
                exfalso; omega
              · -- g17_2 False
                refine Rg.gno rfl rfl rfl rfl ?_
                refine Rg.gno rfl rfl rfl rfl ?_
                refine Rg.pickf rfl rfl rfl ?_
                refine Rg.move rfl rfl ?_
                refine Rg.gyes rfl rfl ?_
                refine Rg.move rfl rfl ?_
                refine Rg.gyes rfl rfl ?_
                refine Rg.move rfl rfl ?_
                refine Rg.eqv (v' := .bool (decide (orr = true))) (by simp) ?_
                refine Rg.gsplitp (g := 74) rfl (fun g17_8 => ?_) (fun g17_8 => ?_)
                · -- g17_8 True
                  refine Rg.gyes rfl rfl ?_
                  refine Rg.move rfl rfl ?_
                  refine Rg.gyes rfl rfl ?_
                  refine Rg.ige rfl rfl rfl ?_
                  refine Rg.gyes rfl rfl ?_
                  refine Rg.move rfl rfl ?_
                  refine Rg.gsplitp (g := 77) rfl (fun g17_11 => ?_) (fun g17_11 => ?_)
                  · -- g17_11 True
                    exfalso; omega
                  · -- g17_11 False
                    refine Rg.gyes rfl rfl ?_
                    refine Rg.move rfl rfl ?_
                    refine Rg.gyes rfl rfl ?_
                    refine Rg.ige rfl rfl rfl ?_
                    refine Rg.gyes rfl rfl ?_
                    refine Rg.pickf rfl rfl rfl ?_
                    refine Rg.gyes rfl rfl ?_
                    refine Rg.pickt rfl rfl rfl ?_
                    refine Rg.pickf rfl rfl rfl ?_
                    refine Rg.nil ?_
                    refine T.ifp rfl (fun c17 => ?_) (fun c17 => ?_)
                    · -- c17 True

                      refine T.region ?_ -- region 18
                      refine Rg.move rfl rfl ?_
                      refine Rg.move rfl rfl ?_
                      refine Rg.move rfl rfl ?_
                      refine Rg.eqv (v' := .int .i64 (scoreF a (k : Int) + scoreF b (k : Int))) (by congr 1; omega) ?_
                      refine Rg.build (places := [(0, 1), (1, 1)]) Tryd.underlying26 I26 B26 rfl ⟨_, _, rfl, rfl, _, _, rfl, rfl, rfl⟩ (out := [_, _]) ⟨0, [_], rfl, rfl, by simp [Value.cells], 1, [_], rfl, rfl, by simp [Value.cells], rfl⟩ ?_
                      refine Rg.sl1 (A := RT.fo) (hn := by decide) (M := M1) Tryd.underlying22 I26 (by decide) rfl rfl hM1 (V_fo (a := (k : Int)) (b := scoreF a (k : Int) + scoreF b (k : Int)) (by omega) (by omega)) (.inl rfl) (fun u5 w5 hu5 s5 => ?_)
                      have hol := outL_len (if orr = true then (1 : Int) else 2) a b k
                      refine Rg.append (M := M1) (base := w0.heap.size) Tryd.underlying22 I26 rfl rfl rfl rfl (ho.step0 s5) hu5 (Le.refl _ _) (by simp; omega) (by simp; omega) (Nat.le_trans S.size s5.size) (fun v6 M3 w6 ho6 s6 => ?_)
                      refine Rg.assign rfl rfl ?_
                      refine Rg.nil ?_
                      refine T.region ?_ -- region 9
                      refine Rg.move rfl rfl ?_
                      refine Rg.iadd rfl rfl rfl (by omega) ?_
                      refine Rg.assign rfl rfl ?_
                      refine Rg.nil ?_
                      refine ⟨rfl, (k + 1, _), (.cons rfl (.cons rfl (.cons rfl (.cons rfl (.cons rfl (.cons rfl .nil)))))), ?_, ?_⟩
                      · first
                        | exact ⟨by simp only; omega, M3, s6.lt (s5.lt hM1), (S.trans0 s5).transBlk s6 (ho.step0 s5) (Nat.le_refl _), by simp only; rw [outL_succ, jl_y (by unfold cnt; rw [hk1, hk2]; first | omega | (rw [if_pos g17_8]; omega) | (split <;> omega))]; exact ho6⟩
                        | exact ⟨by simp only; omega, M1, hM1, S, by simp only; rw [outL_succ, jl_n (by unfold cnt; rw [hk1, hk2]; first | omega | (rw [if_neg g17_8]; omega) | (split <;> omega)), List.append_nil]; exact ho⟩
                        | (exfalso; omega)
                      · simp only; omega
                    · -- c17 False

                      refine T.skip ?_
                      refine T.region ?_ -- region 9
                      refine Rg.move rfl rfl ?_
                      refine Rg.iadd rfl rfl rfl (by omega) ?_
                      refine Rg.assign rfl rfl ?_
                      refine Rg.nil ?_
                      refine ⟨rfl, (k + 1, _), (.cons rfl (.cons rfl (.cons rfl (.cons rfl (.cons rfl (.cons rfl .nil)))))), ?_, ?_⟩
                      · first
                        | exact ⟨by simp only; omega, M3, s6.lt (s5.lt hM1), (S.trans0 s5).transBlk s6 (ho.step0 s5) (Nat.le_refl _), by simp only; rw [outL_succ, jl_y (by unfold cnt; rw [hk1, hk2]; first | omega | (rw [if_pos g17_8]; omega) | (split <;> omega))]; exact ho6⟩
                        | exact ⟨by simp only; omega, M1, hM1, S, by simp only; rw [outL_succ, jl_n (by unfold cnt; rw [hk1, hk2]; first | omega | (rw [if_neg g17_8]; omega) | (split <;> omega)), List.append_nil]; exact ho⟩
                        | (exfalso; omega)
                      · simp only; omega
                · -- g17_8 False
                  refine Rg.gno rfl rfl rfl rfl ?_
                  refine Rg.gno rfl rfl rfl rfl ?_
                  refine Rg.gno rfl rfl rfl rfl ?_
                  refine Rg.gnox rfl rfl rfl ?_
                  refine Rg.gnox rfl rfl rfl ?_
                  refine Rg.gno rfl rfl rfl rfl ?_
                  refine Rg.gyes rfl rfl ?_
                  refine Rg.pickf rfl rfl rfl ?_
                  refine Rg.pickf rfl rfl rfl ?_
                  refine Rg.nil ?_
                  refine T.iff rfl ?_
                  refine T.skip ?_
                  refine T.region ?_ -- region 9
                  refine Rg.move rfl rfl ?_
                  refine Rg.iadd rfl rfl rfl (by omega) ?_
                  refine Rg.assign rfl rfl ?_
                  refine Rg.nil ?_
                  refine ⟨rfl, (k + 1, _), (.cons rfl (.cons rfl (.cons rfl (.cons rfl (.cons rfl (.cons rfl .nil)))))), ?_, ?_⟩
                  · first
                    | exact ⟨by simp only; omega, M3, s6.lt (s5.lt hM1), (S.trans0 s5).transBlk s6 (ho.step0 s5) (Nat.le_refl _), by simp only; rw [outL_succ, jl_y (by unfold cnt; rw [hk1, hk2]; first | omega | (rw [if_pos g17_8]; omega) | (split <;> omega))]; exact ho6⟩
                    | exact ⟨by simp only; omega, M1, hM1, S, by simp only; rw [outL_succ, jl_n (by unfold cnt; rw [hk1, hk2]; first | omega | (rw [if_neg g17_8]; omega) | (split <;> omega)), List.append_nil]; exact ho⟩
                    | (exfalso; omega)
                  · simp only; omega
            · -- c15 False
              have hf2 : hasF b (k : Int) = false := by
                rcases har2 with ⟨i, h, _⟩ | h
                · omega
                · exact h.2
              have hk2 : (if hasF b (k : Int) = true then (1 : Int) else 0) = 0 := by rw [if_neg (by rw [hf2]; decide)]
              have hs2 := scoreF_none hf2
              refine T.skip ?_
              refine T.seq ?_
              refine T.region ?_ -- region 17
              refine Rg.move rfl rfl ?_
              refine Rg.ige rfl rfl rfl ?_
              refine Rg.move rfl rfl ?_
              refine Rg.gsplitp (g := 68) rfl (fun g17_2 => ?_) (fun g17_2 => ?_)
              · -- g17_2 True
                exfalso; omega
              · -- g17_2 False
                refine Rg.gno rfl rfl rfl rfl ?_
                refine Rg.gno rfl rfl rfl rfl ?_
                refine Rg.pickf rfl rfl rfl ?_
                refine Rg.move rfl rfl ?_
                refine Rg.gyes rfl rfl ?_
                refine Rg.move rfl rfl ?_
                refine Rg.gyes rfl rfl ?_
                refine Rg.move rfl rfl ?_
                refine Rg.eqv (v' := .bool (decide (orr = true))) (by simp) ?_
                refine Rg.gsplitp (g := 74) rfl (fun g17_8 => ?_) (fun g17_8 => ?_)
                · -- g17_8 True
                  refine Rg.gyes rfl rfl ?_
                  refine Rg.move rfl rfl ?_
                  refine Rg.gyes rfl rfl ?_
                  refine Rg.ige rfl rfl rfl ?_
                  refine Rg.gyes rfl rfl ?_
                  refine Rg.move rfl rfl ?_
                  refine Rg.gsplitp (g := 77) rfl (fun g17_11 => ?_) (fun g17_11 => ?_)
                  · -- g17_11 True
                    exfalso; omega
                  · -- g17_11 False
                    refine Rg.gyes rfl rfl ?_
                    refine Rg.move rfl rfl ?_
                    refine Rg.gyes rfl rfl ?_
                    refine Rg.ige rfl rfl rfl ?_
                    refine Rg.gyes rfl rfl ?_
                    refine Rg.pickf rfl rfl rfl ?_
                    refine Rg.gyes rfl rfl ?_
                    refine Rg.pickt rfl rfl rfl ?_
                    refine Rg.pickf rfl rfl rfl ?_
                    refine Rg.nil ?_
                    refine T.ifp rfl (fun c17 => ?_) (fun c17 => ?_)
                    · -- c17 True

                      refine T.region ?_ -- region 18
                      refine Rg.move rfl rfl ?_
                      refine Rg.move rfl rfl ?_
                      refine Rg.move rfl rfl ?_
                      refine Rg.eqv (v' := .int .i64 (scoreF a (k : Int) + scoreF b (k : Int))) (by congr 1; omega) ?_
                      refine Rg.build (places := [(0, 1), (1, 1)]) Tryd.underlying26 I26 B26 rfl ⟨_, _, rfl, rfl, _, _, rfl, rfl, rfl⟩ (out := [_, _]) ⟨0, [_], rfl, rfl, by simp [Value.cells], 1, [_], rfl, rfl, by simp [Value.cells], rfl⟩ ?_
                      refine Rg.sl1 (A := RT.fo) (hn := by decide) (M := M1) Tryd.underlying22 I26 (by decide) rfl rfl hM1 (V_fo (a := (k : Int)) (b := scoreF a (k : Int) + scoreF b (k : Int)) (by omega) (by omega)) (.inl rfl) (fun u5 w5 hu5 s5 => ?_)
                      have hol := outL_len (if orr = true then (1 : Int) else 2) a b k
                      refine Rg.append (M := M1) (base := w0.heap.size) Tryd.underlying22 I26 rfl rfl rfl rfl (ho.step0 s5) hu5 (Le.refl _ _) (by simp; omega) (by simp; omega) (Nat.le_trans S.size s5.size) (fun v6 M3 w6 ho6 s6 => ?_)
                      refine Rg.assign rfl rfl ?_
                      refine Rg.nil ?_
                      refine T.region ?_ -- region 9
                      refine Rg.move rfl rfl ?_
                      refine Rg.iadd rfl rfl rfl (by omega) ?_
                      refine Rg.assign rfl rfl ?_
                      refine Rg.nil ?_
                      refine ⟨rfl, (k + 1, _), (.cons rfl (.cons rfl (.cons rfl (.cons rfl (.cons rfl (.cons rfl .nil)))))), ?_, ?_⟩
                      · first
                        | exact ⟨by simp only; omega, M3, s6.lt (s5.lt hM1), (S.trans0 s5).transBlk s6 (ho.step0 s5) (Nat.le_refl _), by simp only; rw [outL_succ, jl_y (by unfold cnt; rw [hk1, hk2]; first | omega | (rw [if_pos g17_8]; omega) | (split <;> omega))]; exact ho6⟩
                        | exact ⟨by simp only; omega, M1, hM1, S, by simp only; rw [outL_succ, jl_n (by unfold cnt; rw [hk1, hk2]; first | omega | (rw [if_neg g17_8]; omega) | (split <;> omega)), List.append_nil]; exact ho⟩
                        | (exfalso; omega)
                      · simp only; omega
                    · -- c17 False

                      refine T.skip ?_
                      refine T.region ?_ -- region 9
                      refine Rg.move rfl rfl ?_
                      refine Rg.iadd rfl rfl rfl (by omega) ?_
                      refine Rg.assign rfl rfl ?_
                      refine Rg.nil ?_
                      refine ⟨rfl, (k + 1, _), (.cons rfl (.cons rfl (.cons rfl (.cons rfl (.cons rfl (.cons rfl .nil)))))), ?_, ?_⟩
                      · first
                        | exact ⟨by simp only; omega, M3, s6.lt (s5.lt hM1), (S.trans0 s5).transBlk s6 (ho.step0 s5) (Nat.le_refl _), by simp only; rw [outL_succ, jl_y (by unfold cnt; rw [hk1, hk2]; first | omega | (rw [if_pos g17_8]; omega) | (split <;> omega))]; exact ho6⟩
                        | exact ⟨by simp only; omega, M1, hM1, S, by simp only; rw [outL_succ, jl_n (by unfold cnt; rw [hk1, hk2]; first | omega | (rw [if_neg g17_8]; omega) | (split <;> omega)), List.append_nil]; exact ho⟩
                        | (exfalso; omega)
                      · simp only; omega
                · -- g17_8 False
                  refine Rg.gno rfl rfl rfl rfl ?_
                  refine Rg.gno rfl rfl rfl rfl ?_
                  refine Rg.gno rfl rfl rfl rfl ?_
                  refine Rg.gnox rfl rfl rfl ?_
                  refine Rg.gnox rfl rfl rfl ?_
                  refine Rg.gno rfl rfl rfl rfl ?_
                  refine Rg.gyes rfl rfl ?_
                  refine Rg.pickf rfl rfl rfl ?_
                  refine Rg.pickf rfl rfl rfl ?_
                  refine Rg.nil ?_
                  refine T.iff rfl ?_
                  refine T.skip ?_
                  refine T.region ?_ -- region 9
                  refine Rg.move rfl rfl ?_
                  refine Rg.iadd rfl rfl rfl (by omega) ?_
                  refine Rg.assign rfl rfl ?_
                  refine Rg.nil ?_
                  refine ⟨rfl, (k + 1, _), (.cons rfl (.cons rfl (.cons rfl (.cons rfl (.cons rfl (.cons rfl .nil)))))), ?_, ?_⟩
                  · first
                    | exact ⟨by simp only; omega, M3, s6.lt (s5.lt hM1), (S.trans0 s5).transBlk s6 (ho.step0 s5) (Nat.le_refl _), by simp only; rw [outL_succ, jl_y (by unfold cnt; rw [hk1, hk2]; first | omega | (rw [if_pos g17_8]; omega) | (split <;> omega))]; exact ho6⟩
                    | exact ⟨by simp only; omega, M1, hM1, S, by simp only; rw [outL_succ, jl_n (by unfold cnt; rw [hk1, hk2]; first | omega | (rw [if_neg g17_8]; omega) | (split <;> omega)), List.append_nil]; exact ho⟩
                    | (exfalso; omega)
                  · simp only; omega
        · -- c8 False
          refine T.exit ?_
          refine T.seq ?_
          refine T.region ?_ -- region 19
          refine Rg.move rfl rfl ?_
          refine Rg.assign rfl rfl ?_
          refine Rg.nil ?_
          refine T.ret ?_
          obtain rfl : k = mo := by omega
          exact Kret1 rfl rfl ⟨⟨k, ha2, hb2, hmok, Own.close hM S ho (by have := outL_len (if orr = true then (1 : Int) else 2) a b k; omega)⟩, S.back⟩
    · -- c4 False
      obtain ⟨mo, hmo⟩ : ∃ mo : Nat, mo = m1 := ⟨_, rfl⟩
      have hbe : b = [] := List.length_eq_zero_iff.1 (by omega)
      have ha2 : ∀ p ∈ a, p.1 < (mo : Nat) := fun p hp => by rw [hmo]; exact ha1 p hp
      have hb2 : ∀ p ∈ b, p.1 < (mo : Nat) := fun p hp => by rw [hbe] at hp; cases hp
      have hmok : mo ≤ 1000 := by omega
      refine T.skip ?_
      refine T.seq ?_
      refine T.region ?_ -- region 6
      refine Rg.assign rfl rfl ?_
      refine Rg.nil ?_
      refine T.seq ?_
      refine T.seq ?_
      refine T.region ?_ -- region 7
      refine Rg.assign rfl rfl ?_
      refine Rg.nil ?_
      refine T.block ?_
      refine T.loop (σ := Nat × Value) (fun s => [(0, va), (1, vb), (2, .bool orr), (7, .int .i64 mo), (8, s.2), (9, .int .i64 s.1)]) (fun s w => s.1 ≤ mo ∧ ∃ M1, Lt M1 w ∧ Step M w0 M1 w none' ∧ Own RT.fo 26 M1 w w0.heap.size s.2 (outL (if orr = true then (1 : Int) else 2) a b 0 s.1)) (fun s => mo - s.1) (0, _) (.cons rfl (.cons rfl (.cons rfl (.cons (by first | rfl | (rw [hmo]; rfl) | (rw [hmo, hm1]; rfl)) (.cons rfl (.cons rfl .nil)))))) ?_ ?_ -- loop 0
      · exact ⟨Nat.zero_le _, M, hM, Step.refl _ _, Own.nil _ _ _ _ _⟩
      · rintro ⟨k, u0⟩ w1 ⟨hk, M1, hM1, S, ho⟩
        dsimp only at hk ho ⊢
        refine T.seq ?_
        refine T.seq ?_
        refine T.region ?_ -- region 8
        refine Rg.move rfl rfl ?_
        refine Rg.move rfl rfl ?_
        refine Rg.ilt rfl rfl rfl ?_
        refine Rg.nil ?_
        refine T.ifp rfl (fun c8 => ?_) (fun c8 => ?_)
        · -- c8 True
          refine T.skip ?_
          refine T.seq ?_
          refine T.block ?_
          refine T.seq ?_
          refine T.region ?_ -- region 10
          refine Rg.move rfl rfl ?_
          refine Rg.move rfl rfl ?_
          refine Rg.call rfl rfl E19 (at13_spec (hva.le S.le)) (fun r wc h => ?_)
          obtain ⟨⟨r1, rfl, har1, h1a, h1b⟩, rfl⟩ := h
          refine Rg.assign rfl rfl ?_
          refine Rg.nil ?_
          refine T.seq ?_
          refine T.region ?_ -- region 11
          refine Rg.move rfl rfl ?_
          refine Rg.move rfl rfl ?_
          refine Rg.call rfl rfl E19 (at13_spec (hvb.le S.le)) (fun r wc h => ?_)
          obtain ⟨⟨r2, rfl, har2, h2a, h2b⟩, rfl⟩ := h
          refine Rg.assign rfl rfl ?_
          refine Rg.nil ?_
          refine T.seq ?_
          refine T.region ?_ -- region 12
          refine Rg.assign rfl rfl ?_
          refine Rg.nil ?_
          refine T.seq ?_
          refine T.seq ?_
          refine T.region ?_ -- region 13
          refine Rg.move rfl rfl ?_
          refine Rg.ige rfl rfl rfl ?_
          refine Rg.nil ?_
          refine T.ifp rfl (fun c13 => ?_) (fun c13 => ?_)
          · -- c13 True
            obtain ⟨i1, rfl, hf1, hi1⟩ : ∃ i1 : Nat, r1 = i1 ∧ hasF a (k : Int) = true ∧ a[i1]? = some ((k : Int), scoreF a (k : Int)) := by
              rcases har1 with h | h
              · exact h
              · omega
            have hk1 : (if hasF a (k : Int) = true then (1 : Int) else 0) = 1 := by rw [if_pos hf1]
            have hs1 := ra.sc _ (List.mem_of_getElem? hi1)
            simp only at hs1
            refine T.region ?_ -- region 14
            refine Rg.move rfl rfl ?_
            refine Rg.move rfl rfl ?_
            refine Rg.move rfl rfl ?_
            have hil := (List.getElem?_eq_some_iff.1 hi1).1
            refine Rg.idx (M := M1) Tryd.underlying22 I26 rfl rfl rfl (hva.le S.le) (Le.refl _ _) (by omega) (fun u14_3 a14_3 hg14_3 hu14_3 => ?_)
            obtain rfl : ((k : Int), scoreF a (k : Int)) = a14_3 := Eq.symm (Option.some.inj (hg14_3.symm.trans (by rw [Int.toNat_natCast]; exact hi1)))
            refine Rg.fieldAddr (M := M1) (A := RT.fo) (B := RT.int .i64) Tryd.underlying26 rfl rfl I3 (by decide) (fo1) rfl rfl (by decide) (by assumption) (by repeat (first | exact Le.refl _ _ | refine Le.trans (Step.le (by assumption)) ?_)) (fun u14_4 hu14_4 => ?_)
            refine Rg.loadi64 (M := M1) Tryd.underlying3 rfl rfl (by assumption) (by repeat (first | exact Le.refl _ _ | refine Le.trans (Step.le (by assumption)) ?_)) (fun in14_5 => ?_)
            refine Rg.eqv (v' := .int .i64 (scoreF a (k : Int))) rfl ?_
            replace in14_5 : -9223372036854775808 ≤ (scoreF a (k : Int) : Int) ∧ scoreF a (k : Int) ≤ 9223372036854775807 := in14_5
            refine Rg.iadd rfl rfl rfl (by omega) ?_
            refine Rg.assign rfl rfl ?_
            refine Rg.nil ?_
            refine T.seq ?_
            refine T.seq ?_
            refine T.region ?_ -- region 15
            refine Rg.move rfl rfl ?_
            refine Rg.ige rfl rfl rfl ?_
            refine Rg.nil ?_
            refine T.ifp rfl (fun c15 => ?_) (fun c15 => ?_)
            · -- c15 True
              obtain ⟨i2, rfl, hf2, hi2⟩ : ∃ i2 : Nat, r2 = i2 ∧ hasF b (k : Int) = true ∧ b[i2]? = some ((k : Int), scoreF b (k : Int)) := by
                rcases har2 with h | h
                · exact h
                · omega
              have hk2 : (if hasF b (k : Int) = true then (1 : Int) else 0) = 1 := by rw [if_pos hf2]
              have hs2 := rb.sc _ (List.mem_of_getElem? hi2)
              simp only at hs2
              refine T.region ?_ -- region 16
              refine Rg.move rfl rfl ?_
              refine Rg.move rfl rfl ?_
              refine Rg.move rfl rfl ?_
              have hil2 := (List.getElem?_eq_some_iff.1 hi2).1
              refine Rg.idx (M := M1) Tryd.underlying22 I26 rfl rfl rfl (hvb.le S.le) (Le.refl _ _) (by omega) (fun u16_3 a16_3 hg16_3 hu16_3 => ?_)
              obtain rfl : ((k : Int), scoreF b (k : Int)) = a16_3 := Eq.symm (Option.some.inj (hg16_3.symm.trans (by rw [Int.toNat_natCast]; exact hi2)))
              refine Rg.fieldAddr (M := M1) (A := RT.fo) (B := RT.int .i64) Tryd.underlying26 rfl rfl I3 (by decide) (fo1) rfl rfl (by decide) (by assumption) (by repeat (first | exact Le.refl _ _ | refine Le.trans (Step.le (by assumption)) ?_)) (fun u16_4 hu16_4 => ?_)
              refine Rg.loadi64 (M := M1) Tryd.underlying3 rfl rfl (by assumption) (by repeat (first | exact Le.refl _ _ | refine Le.trans (Step.le (by assumption)) ?_)) (fun in16_5 => ?_)
              refine Rg.eqv (v' := .int .i64 (scoreF b (k : Int))) rfl ?_
              replace in16_5 : -9223372036854775808 ≤ (scoreF b (k : Int) : Int) ∧ scoreF b (k : Int) ≤ 9223372036854775807 := in16_5
              refine Rg.iadd rfl rfl rfl (by omega) ?_
              refine Rg.assign rfl rfl ?_
              refine Rg.nil ?_
              refine T.seq ?_
              refine T.region ?_ -- region 17
              refine Rg.move rfl rfl ?_
              refine Rg.ige rfl rfl rfl ?_
              refine Rg.move rfl rfl ?_
              refine Rg.gsplitp (g := 68) rfl (fun g17_2 => ?_) (fun g17_2 => ?_)
              · -- g17_2 True
                refine Rg.gyes rfl rfl ?_
                refine Rg.move rfl rfl ?_
                refine Rg.gyes rfl rfl ?_
                refine Rg.ige rfl rfl rfl ?_
                refine Rg.pickt rfl rfl rfl ?_
                refine Rg.move rfl rfl ?_
                refine Rg.gsplitp (g := 72) rfl (fun g17_6 => ?_) (fun g17_6 => ?_)
                · -- g17_6 True
                  refine Rg.gno rfl rfl rfl rfl ?_
                  refine Rg.gno rfl rfl rfl rfl ?_
                  refine Rg.gnox rfl rfl rfl ?_
                  refine Rg.gnox rfl rfl rfl ?_
                  refine Rg.gnox rfl rfl rfl ?_
                  refine Rg.gnox rfl rfl rfl ?_
                  refine Rg.gnox rfl rfl rfl ?_
                  refine Rg.gnox rfl rfl rfl ?_
                  refine Rg.gno rfl rfl rfl rfl ?_
                  refine Rg.pickt rfl rfl rfl ?_
                  refine Rg.nil ?_
                  refine T.ift rfl ?_
                  refine T.region ?_ -- region 18
                  refine Rg.move rfl rfl ?_
                  refine Rg.move rfl rfl ?_
                  refine Rg.move rfl rfl ?_
                  refine Rg.eqv (v' := .int .i64 (scoreF a (k : Int) + scoreF b (k : Int))) (by congr 1; omega) ?_
                  refine Rg.build (places := [(0, 1), (1, 1)]) Tryd.underlying26 I26 B26 rfl ⟨_, _, rfl, rfl, _, _, rfl, rfl, rfl⟩ (out := [_, _]) ⟨0, [_], rfl, rfl, by simp [Value.cells], 1, [_], rfl, rfl, by simp [Value.cells], rfl⟩ ?_
                  refine Rg.sl1 (A := RT.fo) (hn := by decide) (M := M1) Tryd.underlying22 I26 (by decide) rfl rfl hM1 (V_fo (a := (k : Int)) (b := scoreF a (k : Int) + scoreF b (k : Int)) (by omega) (by omega)) (.inl rfl) (fun u5 w5 hu5 s5 => ?_)
                  have hol := outL_len (if orr = true then (1 : Int) else 2) a b k
                  refine Rg.append (M := M1) (base := w0.heap.size) Tryd.underlying22 I26 rfl rfl rfl rfl (ho.step0 s5) hu5 (Le.refl _ _) (by simp; omega) (by simp; omega) (Nat.le_trans S.size s5.size) (fun v6 M3 w6 ho6 s6 => ?_)
                  refine Rg.assign rfl rfl ?_
                  refine Rg.nil ?_
                  refine T.region ?_ -- region 9
                  refine Rg.move rfl rfl ?_
                  refine Rg.iadd rfl rfl rfl (by omega) ?_
                  refine Rg.assign rfl rfl ?_
                  refine Rg.nil ?_
                  refine ⟨rfl, (k + 1, _), (.cons rfl (.cons rfl (.cons rfl (.cons rfl (.cons rfl (.cons rfl .nil)))))), ?_, ?_⟩
                  · first
                    | exact ⟨by simp only; omega, M3, s6.lt (s5.lt hM1), (S.trans0 s5).transBlk s6 (ho.step0 s5) (Nat.le_refl _), by simp only; rw [outL_succ, jl_y (by unfold cnt; rw [hk1, hk2]; first | omega | (rw [if_pos g17_8]; omega) | (split <;> omega))]; exact ho6⟩
                    | exact ⟨by simp only; omega, M1, hM1, S, by simp only; rw [outL_succ, jl_n (by unfold cnt; rw [hk1, hk2]; first | omega | (rw [if_neg g17_8]; omega) | (split <;> omega)), List.append_nil]; exact ho⟩
                    | (exfalso; omega)
                  · simp only; omega
                · -- g17_6 False

                  refine Rg.gyes rfl rfl ?_
                  refine Rg.move rfl rfl ?_
                  refine Rg.gyes rfl rfl ?_
                  refine Rg.move rfl rfl ?_
                  refine Rg.eqv (v' := .bool (decide (orr = true))) (by simp) ?_
                  refine Rg.gsplitp (g := 74) rfl (fun g17_8 => ?_) (fun g17_8 => ?_)
                  · -- g17_8 True
                    refine Rg.gyes rfl rfl ?_
                    refine Rg.move rfl rfl ?_
                    refine Rg.gyes rfl rfl ?_
                    refine Rg.ige rfl rfl rfl ?_
                    refine Rg.gyes rfl rfl ?_
                    refine Rg.move rfl rfl ?_
                    refine Rg.gsplitp (g := 77) rfl (fun g17_11 => ?_) (fun g17_11 => ?_)
                    · -- g17_11 True
                      refine Rg.gno rfl rfl rfl rfl ?_
                      refine Rg.gno rfl rfl rfl rfl ?_
                      refine Rg.gyes rfl rfl ?_
                      refine Rg.pickt rfl rfl rfl ?_
                      refine Rg.gyes rfl rfl ?_
                      refine Rg.pickt rfl rfl rfl ?_
                      refine Rg.pickf rfl rfl rfl ?_
                      refine Rg.nil ?_
                      refine T.ift rfl ?_
                      refine T.region ?_ -- region 18
                      refine Rg.move rfl rfl ?_
                      refine Rg.move rfl rfl ?_
                      refine Rg.move rfl rfl ?_
                      refine Rg.eqv (v' := .int .i64 (scoreF a (k : Int) + scoreF b (k : Int))) (by congr 1; omega) ?_
                      refine Rg.build (places := [(0, 1), (1, 1)]) Tryd.underlying26 I26 B26 rfl ⟨_, _, rfl, rfl, _, _, rfl, rfl, rfl⟩ (out := [_, _]) ⟨0, [_], rfl, rfl, by simp [Value.cells], 1, [_], rfl, rfl, by simp [Value.cells], rfl⟩ ?_
                      refine Rg.sl1 (A := RT.fo) (hn := by decide) (M := M1) Tryd.underlying22 I26 (by decide) rfl rfl hM1 (V_fo (a := (k : Int)) (b := scoreF a (k : Int) + scoreF b (k : Int)) (by omega) (by omega)) (.inl rfl) (fun u5 w5 hu5 s5 => ?_)
                      have hol := outL_len (if orr = true then (1 : Int) else 2) a b k
                      refine Rg.append (M := M1) (base := w0.heap.size) Tryd.underlying22 I26 rfl rfl rfl rfl (ho.step0 s5) hu5 (Le.refl _ _) (by simp; omega) (by simp; omega) (Nat.le_trans S.size s5.size) (fun v6 M3 w6 ho6 s6 => ?_)
                      refine Rg.assign rfl rfl ?_
                      refine Rg.nil ?_
                      refine T.region ?_ -- region 9
                      refine Rg.move rfl rfl ?_
                      refine Rg.iadd rfl rfl rfl (by omega) ?_
                      refine Rg.assign rfl rfl ?_
                      refine Rg.nil ?_
                      refine ⟨rfl, (k + 1, _), (.cons rfl (.cons rfl (.cons rfl (.cons rfl (.cons rfl (.cons rfl .nil)))))), ?_, ?_⟩
                      · first
                        | exact ⟨by simp only; omega, M3, s6.lt (s5.lt hM1), (S.trans0 s5).transBlk s6 (ho.step0 s5) (Nat.le_refl _), by simp only; rw [outL_succ, jl_y (by unfold cnt; rw [hk1, hk2]; first | omega | (rw [if_pos g17_8]; omega) | (split <;> omega))]; exact ho6⟩
                        | exact ⟨by simp only; omega, M1, hM1, S, by simp only; rw [outL_succ, jl_n (by unfold cnt; rw [hk1, hk2]; first | omega | (rw [if_neg g17_8]; omega) | (split <;> omega)), List.append_nil]; exact ho⟩
                        | (exfalso; omega)
                      · simp only; omega
                    · -- g17_11 False
                      exfalso; omega
                  · -- g17_8 False
                    refine Rg.gno rfl rfl rfl rfl ?_
                    refine Rg.gno rfl rfl rfl rfl ?_
                    refine Rg.gno rfl rfl rfl rfl ?_
                    refine Rg.gnox rfl rfl rfl ?_
                    refine Rg.gnox rfl rfl rfl ?_
                    refine Rg.gno rfl rfl rfl rfl ?_
                    refine Rg.gyes rfl rfl ?_
                    refine Rg.pickf rfl rfl rfl ?_
                    refine Rg.pickf rfl rfl rfl ?_
                    refine Rg.nil ?_
                    refine T.iff rfl ?_
                    refine T.skip ?_
                    refine T.region ?_ -- region 9
                    refine Rg.move rfl rfl ?_
                    refine Rg.iadd rfl rfl rfl (by omega) ?_
                    refine Rg.assign rfl rfl ?_
                    refine Rg.nil ?_
                    refine ⟨rfl, (k + 1, _), (.cons rfl (.cons rfl (.cons rfl (.cons rfl (.cons rfl (.cons rfl .nil)))))), ?_, ?_⟩
                    · first
                      | exact ⟨by simp only; omega, M3, s6.lt (s5.lt hM1), (S.trans0 s5).transBlk s6 (ho.step0 s5) (Nat.le_refl _), by simp only; rw [outL_succ, jl_y (by unfold cnt; rw [hk1, hk2]; first | omega | (rw [if_pos g17_8]; omega) | (split <;> omega))]; exact ho6⟩
                      | exact ⟨by simp only; omega, M1, hM1, S, by simp only; rw [outL_succ, jl_n (by unfold cnt; rw [hk1, hk2]; first | omega | (rw [if_neg g17_8]; omega) | (split <;> omega)), List.append_nil]; exact ho⟩
                      | (exfalso; omega)
                    · simp only; omega
              · -- g17_2 False
                exfalso; omega
            · -- c15 False
              have hf2 : hasF b (k : Int) = false := by
                rcases har2 with ⟨i, h, _⟩ | h
                · omega
                · exact h.2
              have hk2 : (if hasF b (k : Int) = true then (1 : Int) else 0) = 0 := by rw [if_neg (by rw [hf2]; decide)]
              have hs2 := scoreF_none hf2
              refine T.skip ?_
              refine T.seq ?_
              refine T.region ?_ -- region 17
              refine Rg.move rfl rfl ?_
              refine Rg.ige rfl rfl rfl ?_
              refine Rg.move rfl rfl ?_
              refine Rg.gsplitp (g := 68) rfl (fun g17_2 => ?_) (fun g17_2 => ?_)
              · -- g17_2 True
                refine Rg.gyes rfl rfl ?_
                refine Rg.move rfl rfl ?_
                refine Rg.gyes rfl rfl ?_
                refine Rg.ige rfl rfl rfl ?_
                refine Rg.pickt rfl rfl rfl ?_
                refine Rg.move rfl rfl ?_
                refine Rg.gsplitp (g := 72) rfl (fun g17_6 => ?_) (fun g17_6 => ?_)
                · -- g17_6 True
                  exfalso; omega
                · -- g17_6 False
                  refine Rg.gyes rfl rfl ?_
                  refine Rg.move rfl rfl ?_
                  refine Rg.gyes rfl rfl ?_
                  refine Rg.move rfl rfl ?_
                  refine Rg.eqv (v' := .bool (decide (orr = true))) (by simp) ?_
                  refine Rg.gsplitp (g := 74) rfl (fun g17_8 => ?_) (fun g17_8 => ?_)
                  · -- g17_8 True
                    refine Rg.gyes rfl rfl ?_
                    refine Rg.move rfl rfl ?_
                    refine Rg.gyes rfl rfl ?_
                    refine Rg.ige rfl rfl rfl ?_
                    refine Rg.gyes rfl rfl ?_
                    refine Rg.move rfl rfl ?_
                    refine Rg.gsplitp (g := 77) rfl (fun g17_11 => ?_) (fun g17_11 => ?_)
                    · -- g17_11 True
                      refine Rg.gno rfl rfl rfl rfl ?_
                      refine Rg.gno rfl rfl rfl rfl ?_
                      refine Rg.gyes rfl rfl ?_
                      refine Rg.pickt rfl rfl rfl ?_
                      refine Rg.gyes rfl rfl ?_
                      refine Rg.pickt rfl rfl rfl ?_
                      refine Rg.pickf rfl rfl rfl ?_
                      refine Rg.nil ?_
                      refine T.ift rfl ?_
                      refine T.region ?_ -- region 18
                      refine Rg.move rfl rfl ?_
                      refine Rg.move rfl rfl ?_
                      refine Rg.move rfl rfl ?_
                      refine Rg.eqv (v' := .int .i64 (scoreF a (k : Int) + scoreF b (k : Int))) (by congr 1; omega) ?_
                      refine Rg.build (places := [(0, 1), (1, 1)]) Tryd.underlying26 I26 B26 rfl ⟨_, _, rfl, rfl, _, _, rfl, rfl, rfl⟩ (out := [_, _]) ⟨0, [_], rfl, rfl, by simp [Value.cells], 1, [_], rfl, rfl, by simp [Value.cells], rfl⟩ ?_
                      refine Rg.sl1 (A := RT.fo) (hn := by decide) (M := M1) Tryd.underlying22 I26 (by decide) rfl rfl hM1 (V_fo (a := (k : Int)) (b := scoreF a (k : Int) + scoreF b (k : Int)) (by omega) (by omega)) (.inl rfl) (fun u5 w5 hu5 s5 => ?_)
                      have hol := outL_len (if orr = true then (1 : Int) else 2) a b k
                      refine Rg.append (M := M1) (base := w0.heap.size) Tryd.underlying22 I26 rfl rfl rfl rfl (ho.step0 s5) hu5 (Le.refl _ _) (by simp; omega) (by simp; omega) (Nat.le_trans S.size s5.size) (fun v6 M3 w6 ho6 s6 => ?_)
                      refine Rg.assign rfl rfl ?_
                      refine Rg.nil ?_
                      refine T.region ?_ -- region 9
                      refine Rg.move rfl rfl ?_
                      refine Rg.iadd rfl rfl rfl (by omega) ?_
                      refine Rg.assign rfl rfl ?_
                      refine Rg.nil ?_
                      refine ⟨rfl, (k + 1, _), (.cons rfl (.cons rfl (.cons rfl (.cons rfl (.cons rfl (.cons rfl .nil)))))), ?_, ?_⟩
                      · first
                        | exact ⟨by simp only; omega, M3, s6.lt (s5.lt hM1), (S.trans0 s5).transBlk s6 (ho.step0 s5) (Nat.le_refl _), by simp only; rw [outL_succ, jl_y (by unfold cnt; rw [hk1, hk2]; first | omega | (rw [if_pos g17_8]; omega) | (split <;> omega))]; exact ho6⟩
                        | exact ⟨by simp only; omega, M1, hM1, S, by simp only; rw [outL_succ, jl_n (by unfold cnt; rw [hk1, hk2]; first | omega | (rw [if_neg g17_8]; omega) | (split <;> omega)), List.append_nil]; exact ho⟩
                        | (exfalso; omega)
                      · simp only; omega
                    · -- g17_11 False
                      exfalso; omega
                  · -- g17_8 False
                    refine Rg.gno rfl rfl rfl rfl ?_
                    refine Rg.gno rfl rfl rfl rfl ?_
                    refine Rg.gno rfl rfl rfl rfl ?_
                    refine Rg.gnox rfl rfl rfl ?_
                    refine Rg.gnox rfl rfl rfl ?_
                    refine Rg.gno rfl rfl rfl rfl ?_
                    refine Rg.gyes rfl rfl ?_
                    refine Rg.pickf rfl rfl rfl ?_
                    refine Rg.pickf rfl rfl rfl ?_
                    refine Rg.nil ?_
                    refine T.iff rfl ?_
                    refine T.skip ?_
                    refine T.region ?_ -- region 9
                    refine Rg.move rfl rfl ?_
                    refine Rg.iadd rfl rfl rfl (by omega) ?_
                    refine Rg.assign rfl rfl ?_
                    refine Rg.nil ?_
                    refine ⟨rfl, (k + 1, _), (.cons rfl (.cons rfl (.cons rfl (.cons rfl (.cons rfl (.cons rfl .nil)))))), ?_, ?_⟩
                    · first
                      | exact ⟨by simp only; omega, M3, s6.lt (s5.lt hM1), (S.trans0 s5).transBlk s6 (ho.step0 s5) (Nat.le_refl _), by simp only; rw [outL_succ, jl_y (by unfold cnt; rw [hk1, hk2]; first | omega | (rw [if_pos g17_8]; omega) | (split <;> omega))]; exact ho6⟩
                      | exact ⟨by simp only; omega, M1, hM1, S, by simp only; rw [outL_succ, jl_n (by unfold cnt; rw [hk1, hk2]; first | omega | (rw [if_neg g17_8]; omega) | (split <;> omega)), List.append_nil]; exact ho⟩
                      | (exfalso; omega)
                    · simp only; omega
              · -- g17_2 False
                exfalso; omega
          · -- c13 False
            have hf1 : hasF a (k : Int) = false := by
              rcases har1 with ⟨i, h, _⟩ | h
              · omega
              · exact h.2
            have hk1 : (if hasF a (k : Int) = true then (1 : Int) else 0) = 0 := by rw [if_neg (by rw [hf1]; decide)]
            have hs1 := scoreF_none hf1
            refine T.skip ?_
            refine T.seq ?_
            refine T.seq ?_
            refine T.region ?_ -- region 15
            refine Rg.move rfl rfl ?_
            refine Rg.ige rfl rfl rfl ?_
            refine Rg.nil ?_
            refine T.ifp rfl (fun c15 => ?_) (fun c15 => ?_)
            · -- c15 True
              obtain ⟨i2, rfl, hf2, hi2⟩ : ∃ i2 : Nat, r2 = i2 ∧ hasF b (k : Int) = true ∧ b[i2]? = some ((k : Int), scoreF b (k : Int)) := by
                rcases har2 with h | h
                · exact h
                · omega
              have hk2 : (if hasF b (k : Int) = true then (1 : Int) else 0) = 1 := by rw [if_pos hf2]
              have hs2 := rb.sc _ (List.mem_of_getElem? hi2)
              simp only at hs2
              refine T.region ?_ -- region 16
              refine Rg.move rfl rfl ?_
              refine Rg.move rfl rfl ?_
              refine Rg.move rfl rfl ?_
              have hil2 := (List.getElem?_eq_some_iff.1 hi2).1
              refine Rg.idx (M := M1) Tryd.underlying22 I26 rfl rfl rfl (hvb.le S.le) (Le.refl _ _) (by omega) (fun u16_3 a16_3 hg16_3 hu16_3 => ?_)
              obtain rfl : ((k : Int), scoreF b (k : Int)) = a16_3 := Eq.symm (Option.some.inj (hg16_3.symm.trans (by rw [Int.toNat_natCast]; exact hi2)))
              refine Rg.fieldAddr (M := M1) (A := RT.fo) (B := RT.int .i64) Tryd.underlying26 rfl rfl I3 (by decide) (fo1) rfl rfl (by decide) (by assumption) (by repeat (first | exact Le.refl _ _ | refine Le.trans (Step.le (by assumption)) ?_)) (fun u16_4 hu16_4 => ?_)
              refine Rg.loadi64 (M := M1) Tryd.underlying3 rfl rfl (by assumption) (by repeat (first | exact Le.refl _ _ | refine Le.trans (Step.le (by assumption)) ?_)) (fun in16_5 => ?_)
              refine Rg.eqv (v' := .int .i64 (scoreF b (k : Int))) rfl ?_
              replace in16_5 : -9223372036854775808 ≤ (scoreF b (k : Int) : Int) ∧ scoreF b (k : Int) ≤ 9223372036854775807 := in16_5
              refine Rg.iadd rfl rfl rfl (by omega) ?_
              refine Rg.assign rfl rfl ?_
              refine Rg.nil ?_
              refine T.seq ?_
              refine T.region ?_ -- region 17
              refine Rg.move rfl rfl ?_
              refine Rg.ige rfl rfl rfl ?_
              refine Rg.move rfl rfl ?_
              refine Rg.gsplitp (g := 68) rfl (fun g17_2 => ?_) (fun g17_2 => ?_)
              · -- g17_2 True
                exfalso; omega
              · -- g17_2 False
                refine Rg.gno rfl rfl rfl rfl ?_
                refine Rg.gno rfl rfl rfl rfl ?_
                refine Rg.pickf rfl rfl rfl ?_
                refine Rg.move rfl rfl ?_
                refine Rg.gyes rfl rfl ?_
                refine Rg.move rfl rfl ?_
                refine Rg.gyes rfl rfl ?_
                refine Rg.move rfl rfl ?_
                refine Rg.eqv (v' := .bool (decide (orr = true))) (by simp) ?_
                refine Rg.gsplitp (g := 74) rfl (fun g17_8 => ?_) (fun g17_8 => ?_)
                · -- g17_8 True
                  refine Rg.gyes rfl rfl ?_
                  refine Rg.move rfl rfl ?_
                  refine Rg.gyes rfl rfl ?_
                  refine Rg.ige rfl rfl rfl ?_
                  refine Rg.gyes rfl rfl ?_
                  refine Rg.move rfl rfl ?_
                  refine Rg.gsplitp (g := 77) rfl (fun g17_11 => ?_) (fun g17_11 => ?_)
                  · -- g17_11 True
                    exfalso; omega
                  · -- g17_11 False
                    refine Rg.gyes rfl rfl ?_
                    refine Rg.move rfl rfl ?_
                    refine Rg.gyes rfl rfl ?_
                    refine Rg.ige rfl rfl rfl ?_
                    refine Rg.gyes rfl rfl ?_
                    refine Rg.pickf rfl rfl rfl ?_
                    refine Rg.gyes rfl rfl ?_
                    refine Rg.pickt rfl rfl rfl ?_
                    refine Rg.pickf rfl rfl rfl ?_
                    refine Rg.nil ?_
                    refine T.ifp rfl (fun c17 => ?_) (fun c17 => ?_)
                    · -- c17 True

                      refine T.region ?_ -- region 18
                      refine Rg.move rfl rfl ?_
                      refine Rg.move rfl rfl ?_
                      refine Rg.move rfl rfl ?_
                      refine Rg.eqv (v' := .int .i64 (scoreF a (k : Int) + scoreF b (k : Int))) (by congr 1; omega) ?_
                      refine Rg.build (places := [(0, 1), (1, 1)]) Tryd.underlying26 I26 B26 rfl ⟨_, _, rfl, rfl, _, _, rfl, rfl, rfl⟩ (out := [_, _]) ⟨0, [_], rfl, rfl, by simp [Value.cells], 1, [_], rfl, rfl, by simp [Value.cells], rfl⟩ ?_
                      refine Rg.sl1 (A := RT.fo) (hn := by decide) (M := M1) Tryd.underlying22 I26 (by decide) rfl rfl hM1 (V_fo (a := (k : Int)) (b := scoreF a (k : Int) + scoreF b (k : Int)) (by omega) (by omega)) (.inl rfl) (fun u5 w5 hu5 s5 => ?_)
                      have hol := outL_len (if orr = true then (1 : Int) else 2) a b k
                      refine Rg.append (M := M1) (base := w0.heap.size) Tryd.underlying22 I26 rfl rfl rfl rfl (ho.step0 s5) hu5 (Le.refl _ _) (by simp; omega) (by simp; omega) (Nat.le_trans S.size s5.size) (fun v6 M3 w6 ho6 s6 => ?_)
                      refine Rg.assign rfl rfl ?_
                      refine Rg.nil ?_
                      refine T.region ?_ -- region 9
                      refine Rg.move rfl rfl ?_
                      refine Rg.iadd rfl rfl rfl (by omega) ?_
                      refine Rg.assign rfl rfl ?_
                      refine Rg.nil ?_
                      refine ⟨rfl, (k + 1, _), (.cons rfl (.cons rfl (.cons rfl (.cons rfl (.cons rfl (.cons rfl .nil)))))), ?_, ?_⟩
                      · first
                        | exact ⟨by simp only; omega, M3, s6.lt (s5.lt hM1), (S.trans0 s5).transBlk s6 (ho.step0 s5) (Nat.le_refl _), by simp only; rw [outL_succ, jl_y (by unfold cnt; rw [hk1, hk2]; first | omega | (rw [if_pos g17_8]; omega) | (split <;> omega))]; exact ho6⟩
                        | exact ⟨by simp only; omega, M1, hM1, S, by simp only; rw [outL_succ, jl_n (by unfold cnt; rw [hk1, hk2]; first | omega | (rw [if_neg g17_8]; omega) | (split <;> omega)), List.append_nil]; exact ho⟩
                        | (exfalso; omega)
                      · simp only; omega
                    · -- c17 False

                      refine T.skip ?_
                      refine T.region ?_ -- region 9
                      refine Rg.move rfl rfl ?_
                      refine Rg.iadd rfl rfl rfl (by omega) ?_
                      refine Rg.assign rfl rfl ?_
                      refine Rg.nil ?_
                      refine ⟨rfl, (k + 1, _), (.cons rfl (.cons rfl (.cons rfl (.cons rfl (.cons rfl (.cons rfl .nil)))))), ?_, ?_⟩
                      · first
                        | exact ⟨by simp only; omega, M3, s6.lt (s5.lt hM1), (S.trans0 s5).transBlk s6 (ho.step0 s5) (Nat.le_refl _), by simp only; rw [outL_succ, jl_y (by unfold cnt; rw [hk1, hk2]; first | omega | (rw [if_pos g17_8]; omega) | (split <;> omega))]; exact ho6⟩
                        | exact ⟨by simp only; omega, M1, hM1, S, by simp only; rw [outL_succ, jl_n (by unfold cnt; rw [hk1, hk2]; first | omega | (rw [if_neg g17_8]; omega) | (split <;> omega)), List.append_nil]; exact ho⟩
                        | (exfalso; omega)
                      · simp only; omega
                · -- g17_8 False
                  refine Rg.gno rfl rfl rfl rfl ?_
                  refine Rg.gno rfl rfl rfl rfl ?_
                  refine Rg.gno rfl rfl rfl rfl ?_
                  refine Rg.gnox rfl rfl rfl ?_
                  refine Rg.gnox rfl rfl rfl ?_
                  refine Rg.gno rfl rfl rfl rfl ?_
                  refine Rg.gyes rfl rfl ?_
                  refine Rg.pickf rfl rfl rfl ?_
                  refine Rg.pickf rfl rfl rfl ?_
                  refine Rg.nil ?_
                  refine T.iff rfl ?_
                  refine T.skip ?_
                  refine T.region ?_ -- region 9
                  refine Rg.move rfl rfl ?_
                  refine Rg.iadd rfl rfl rfl (by omega) ?_
                  refine Rg.assign rfl rfl ?_
                  refine Rg.nil ?_
                  refine ⟨rfl, (k + 1, _), (.cons rfl (.cons rfl (.cons rfl (.cons rfl (.cons rfl (.cons rfl .nil)))))), ?_, ?_⟩
                  · first
                    | exact ⟨by simp only; omega, M3, s6.lt (s5.lt hM1), (S.trans0 s5).transBlk s6 (ho.step0 s5) (Nat.le_refl _), by simp only; rw [outL_succ, jl_y (by unfold cnt; rw [hk1, hk2]; first | omega | (rw [if_pos g17_8]; omega) | (split <;> omega))]; exact ho6⟩
                    | exact ⟨by simp only; omega, M1, hM1, S, by simp only; rw [outL_succ, jl_n (by unfold cnt; rw [hk1, hk2]; first | omega | (rw [if_neg g17_8]; omega) | (split <;> omega)), List.append_nil]; exact ho⟩
                    | (exfalso; omega)
                  · simp only; omega
            · -- c15 False
              have hf2 : hasF b (k : Int) = false := by
                rcases har2 with ⟨i, h, _⟩ | h
                · omega
                · exact h.2
              have hk2 : (if hasF b (k : Int) = true then (1 : Int) else 0) = 0 := by rw [if_neg (by rw [hf2]; decide)]
              have hs2 := scoreF_none hf2
              refine T.skip ?_
              refine T.seq ?_
              refine T.region ?_ -- region 17
              refine Rg.move rfl rfl ?_
              refine Rg.ige rfl rfl rfl ?_
              refine Rg.move rfl rfl ?_
              refine Rg.gsplitp (g := 68) rfl (fun g17_2 => ?_) (fun g17_2 => ?_)
              · -- g17_2 True
                exfalso; omega
              · -- g17_2 False
                refine Rg.gno rfl rfl rfl rfl ?_
                refine Rg.gno rfl rfl rfl rfl ?_
                refine Rg.pickf rfl rfl rfl ?_
                refine Rg.move rfl rfl ?_
                refine Rg.gyes rfl rfl ?_
                refine Rg.move rfl rfl ?_
                refine Rg.gyes rfl rfl ?_
                refine Rg.move rfl rfl ?_
                refine Rg.eqv (v' := .bool (decide (orr = true))) (by simp) ?_
                refine Rg.gsplitp (g := 74) rfl (fun g17_8 => ?_) (fun g17_8 => ?_)
                · -- g17_8 True
                  refine Rg.gyes rfl rfl ?_
                  refine Rg.move rfl rfl ?_
                  refine Rg.gyes rfl rfl ?_
                  refine Rg.ige rfl rfl rfl ?_
                  refine Rg.gyes rfl rfl ?_
                  refine Rg.move rfl rfl ?_
                  refine Rg.gsplitp (g := 77) rfl (fun g17_11 => ?_) (fun g17_11 => ?_)
                  · -- g17_11 True
                    exfalso; omega
                  · -- g17_11 False
                    refine Rg.gyes rfl rfl ?_
                    refine Rg.move rfl rfl ?_
                    refine Rg.gyes rfl rfl ?_
                    refine Rg.ige rfl rfl rfl ?_
                    refine Rg.gyes rfl rfl ?_
                    refine Rg.pickf rfl rfl rfl ?_
                    refine Rg.gyes rfl rfl ?_
                    refine Rg.pickt rfl rfl rfl ?_
                    refine Rg.pickf rfl rfl rfl ?_
                    refine Rg.nil ?_
                    refine T.ifp rfl (fun c17 => ?_) (fun c17 => ?_)
                    · -- c17 True

                      refine T.region ?_ -- region 18
                      refine Rg.move rfl rfl ?_
                      refine Rg.move rfl rfl ?_
                      refine Rg.move rfl rfl ?_
                      refine Rg.eqv (v' := .int .i64 (scoreF a (k : Int) + scoreF b (k : Int))) (by congr 1; omega) ?_
                      refine Rg.build (places := [(0, 1), (1, 1)]) Tryd.underlying26 I26 B26 rfl ⟨_, _, rfl, rfl, _, _, rfl, rfl, rfl⟩ (out := [_, _]) ⟨0, [_], rfl, rfl, by simp [Value.cells], 1, [_], rfl, rfl, by simp [Value.cells], rfl⟩ ?_
                      refine Rg.sl1 (A := RT.fo) (hn := by decide) (M := M1) Tryd.underlying22 I26 (by decide) rfl rfl hM1 (V_fo (a := (k : Int)) (b := scoreF a (k : Int) + scoreF b (k : Int)) (by omega) (by omega)) (.inl rfl) (fun u5 w5 hu5 s5 => ?_)
                      have hol := outL_len (if orr = true then (1 : Int) else 2) a b k
                      refine Rg.append (M := M1) (base := w0.heap.size) Tryd.underlying22 I26 rfl rfl rfl rfl (ho.step0 s5) hu5 (Le.refl _ _) (by simp; omega) (by simp; omega) (Nat.le_trans S.size s5.size) (fun v6 M3 w6 ho6 s6 => ?_)
                      refine Rg.assign rfl rfl ?_
                      refine Rg.nil ?_
                      refine T.region ?_ -- region 9
                      refine Rg.move rfl rfl ?_
                      refine Rg.iadd rfl rfl rfl (by omega) ?_
                      refine Rg.assign rfl rfl ?_
                      refine Rg.nil ?_
                      refine ⟨rfl, (k + 1, _), (.cons rfl (.cons rfl (.cons rfl (.cons rfl (.cons rfl (.cons rfl .nil)))))), ?_, ?_⟩
                      · first
                        | exact ⟨by simp only; omega, M3, s6.lt (s5.lt hM1), (S.trans0 s5).transBlk s6 (ho.step0 s5) (Nat.le_refl _), by simp only; rw [outL_succ, jl_y (by unfold cnt; rw [hk1, hk2]; first | omega | (rw [if_pos g17_8]; omega) | (split <;> omega))]; exact ho6⟩
                        | exact ⟨by simp only; omega, M1, hM1, S, by simp only; rw [outL_succ, jl_n (by unfold cnt; rw [hk1, hk2]; first | omega | (rw [if_neg g17_8]; omega) | (split <;> omega)), List.append_nil]; exact ho⟩
                        | (exfalso; omega)
                      · simp only; omega
                    · -- c17 False

                      refine T.skip ?_
                      refine T.region ?_ -- region 9
                      refine Rg.move rfl rfl ?_
                      refine Rg.iadd rfl rfl rfl (by omega) ?_
                      refine Rg.assign rfl rfl ?_
                      refine Rg.nil ?_
                      refine ⟨rfl, (k + 1, _), (.cons rfl (.cons rfl (.cons rfl (.cons rfl (.cons rfl (.cons rfl .nil)))))), ?_, ?_⟩
                      · first
                        | exact ⟨by simp only; omega, M3, s6.lt (s5.lt hM1), (S.trans0 s5).transBlk s6 (ho.step0 s5) (Nat.le_refl _), by simp only; rw [outL_succ, jl_y (by unfold cnt; rw [hk1, hk2]; first | omega | (rw [if_pos g17_8]; omega) | (split <;> omega))]; exact ho6⟩
                        | exact ⟨by simp only; omega, M1, hM1, S, by simp only; rw [outL_succ, jl_n (by unfold cnt; rw [hk1, hk2]; first | omega | (rw [if_neg g17_8]; omega) | (split <;> omega)), List.append_nil]; exact ho⟩
                        | (exfalso; omega)
                      · simp only; omega
                · -- g17_8 False
                  refine Rg.gno rfl rfl rfl rfl ?_
                  refine Rg.gno rfl rfl rfl rfl ?_
                  refine Rg.gno rfl rfl rfl rfl ?_
                  refine Rg.gnox rfl rfl rfl ?_
                  refine Rg.gnox rfl rfl rfl ?_
                  refine Rg.gno rfl rfl rfl rfl ?_
                  refine Rg.gyes rfl rfl ?_
                  refine Rg.pickf rfl rfl rfl ?_
                  refine Rg.pickf rfl rfl rfl ?_
                  refine Rg.nil ?_
                  refine T.iff rfl ?_
                  refine T.skip ?_
                  refine T.region ?_ -- region 9
                  refine Rg.move rfl rfl ?_
                  refine Rg.iadd rfl rfl rfl (by omega) ?_
                  refine Rg.assign rfl rfl ?_
                  refine Rg.nil ?_
                  refine ⟨rfl, (k + 1, _), (.cons rfl (.cons rfl (.cons rfl (.cons rfl (.cons rfl (.cons rfl .nil)))))), ?_, ?_⟩
                  · first
                    | exact ⟨by simp only; omega, M3, s6.lt (s5.lt hM1), (S.trans0 s5).transBlk s6 (ho.step0 s5) (Nat.le_refl _), by simp only; rw [outL_succ, jl_y (by unfold cnt; rw [hk1, hk2]; first | omega | (rw [if_pos g17_8]; omega) | (split <;> omega))]; exact ho6⟩
                    | exact ⟨by simp only; omega, M1, hM1, S, by simp only; rw [outL_succ, jl_n (by unfold cnt; rw [hk1, hk2]; first | omega | (rw [if_neg g17_8]; omega) | (split <;> omega)), List.append_nil]; exact ho⟩
                    | (exfalso; omega)
                  · simp only; omega
        · -- c8 False
          refine T.exit ?_
          refine T.seq ?_
          refine T.region ?_ -- region 19
          refine Rg.move rfl rfl ?_
          refine Rg.assign rfl rfl ?_
          refine Rg.nil ?_
          refine T.ret ?_
          obtain rfl : k = mo := by omega
          exact Kret1 rfl rfl ⟨⟨k, ha2, hb2, hmok, Own.close hM S ho (by have := outL_len (if orr = true then (1 : Int) else 2) a b k; omega)⟩, S.back⟩

end Go.K

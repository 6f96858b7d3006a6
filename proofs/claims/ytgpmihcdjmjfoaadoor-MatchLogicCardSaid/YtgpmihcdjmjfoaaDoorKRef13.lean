/- The walks of Go functions, operation by operation. -/
import Derived.Test.YtgpmihcdjmjfoaaDoorKTypes
import Derived.Test.YtgpmihcdjmjfoaaDoorKNum
import Derived.Test.YtgpmihcdjmjfoaaDoorKBits
import Derived.Test.YtgpmihcdjmjfoaaDoorKStr2
import Derived.Test.YtgpmihcdjmjfoaaDoorKMatch
import Derived.Test.YtgpmihcdjmjfoaaDoorKSides
import Derived.Test.YtgpmihcdjmjfoaaDoorKJoin
import Derived.Test.YtgpmihcdjmjfoaaDoorKDraw
import Derived.Test.YtgpmihcdjmjfoaaDoorProg
import Derived.KernelRfl
namespace Go.K
open Go.Proofs
namespace TKRef13
theorem I26 : TI Tryd.prog 26 (.agg #[(.int .i64 0), (.int .i64 0)]) 2 16 := by unfold TI; kernel_rfl -- api.Found
theorem B26 : placesOf Tryd.prog 26 = [(0, 1), (1, 1)].map some := by kernel_rfl
theorem E19 : Enters Tryd.prog 19 := enters Tryd.func19 rfl (by decide) -- concordance/concordanceref13.at
end TKRef13
open TKRef13
set_option linter.unusedVariables false
set_option linter.unusedSimpArgs false
set_option maxRecDepth 10000

/-- 'concordance/concordanceref13.Good' -/
theorem Good13_spec {M : PSet} {w0 : World} {v : Value} {l : List Fo} {most : Nat} (hM : Lt M w0) (hv : ((RT.fo).sl).V M w0 l v) (hmost : most ≤ 1000) :
    Spec Tryd.prog 5 #[v, .int .i64 most] w0 (fun v' w' => Step M w0 M w' none' ∧ ∃ g, Rise g 0 (10 * most) ∧ g.length ≤ most ∧ ((RT.fo).sl).V M w' g v') := by
  have hlen := V_sl_len hv
  refine spec_of (args := [v, .int .i64 most]) (fn := Tryd.f5) Tryd.func5 rfl (n := 47) Tryd.ntmps5 ?_
  refine T.seq ?_
  refine T.region ?_ -- region 0
  refine Rg.assign rfl rfl ?_
  refine Rg.nil ?_
  refine T.seq ?_
  refine T.region ?_ -- region 1
  refine Rg.assign rfl rfl ?_
  refine Rg.nil ?_
  refine T.seq ?_
  refine T.region ?_ -- region 2
  refine Rg.assign rfl rfl ?_
  refine Rg.nil ?_
  refine T.seq ?_
  refine T.seq ?_
  refine T.region ?_ -- region 3
  refine Rg.assign rfl rfl ?_
  refine Rg.nil ?_
  refine T.block ?_
  refine T.loop (σ := Nat × Int × Value × List Fo) (fun s => [(0, v), (1, .int .i64 most), (5, s.2.2.1), (6, .int .i64 s.2.1), (7, .int .i64 s.1)]) (fun s w => s.1 ≤ l.length ∧ s.1 ≤ most ∧ -1 ≤ s.2.1 ∧ s.2.1 < 10 * s.1 ∧ s.2.2.2.length = s.1 ∧ Rise s.2.2.2 0 (s.2.1 + 1).toNat ∧ ∃ M1, Lt M1 w ∧ Step M w0 M1 w none' ∧ Own RT.fo 26 M1 w w0.heap.size s.2.2.1 s.2.2.2) (fun s => l.length - s.1) (0, -1, _, []) (.cons rfl (.cons rfl (.cons rfl (.cons rfl (.cons rfl .nil))))) ?_ ?_ -- loop 0
  · exact ⟨Nat.zero_le _, Nat.zero_le _, by decide, by decide, rfl, Rise.nil _ _, M, hM, Step.refl _ _, Own.nil _ _ _ _ _⟩
  · rintro ⟨k, last, u0, acc⟩ w1 ⟨hk, hkm, hl0, hl1, hac, hri, M1, hM1, S, ho⟩
    dsimp only at hk hkm hl0 hl1 hac hri ho ⊢
    refine T.seq ?_
    refine T.seq ?_
    refine T.region ?_ -- region 4
    refine Rg.move rfl rfl ?_
    refine Rg.move rfl rfl ?_
    refine Rg.lensl Tryd.underlying22 rfl hv rfl ?_
    refine Rg.ilt rfl rfl rfl ?_
    refine Rg.move rfl rfl ?_
    refine Rg.gsplitp (g := 13) rfl (fun g4_4 => ?_) (fun g4_4 => ?_)
    · -- g4_4 True
      refine Rg.gyes rfl rfl ?_
      refine Rg.move rfl rfl ?_
      refine Rg.gyes rfl rfl ?_
      refine Rg.move rfl rfl ?_
      refine Rg.gyes rfl rfl ?_
      refine Rg.ilt rfl rfl rfl ?_
      refine Rg.pickt rfl rfl rfl ?_
      refine Rg.nil ?_
      refine T.ifp rfl (fun c4 => ?_) (fun c4 => ?_)
      · -- c4 True
        refine T.skip ?_
        refine T.seq ?_
        refine T.block ?_
        refine T.seq ?_
        refine T.region ?_ -- region 6
        refine Rg.move rfl rfl ?_
        refine Rg.move rfl rfl ?_
        obtain ⟨⟨d, s⟩, hx⟩ : ∃ x, l[k]? = some x := ⟨_, List.getElem?_eq_getElem (by omega)⟩
        refine Rg.idx (M := M1) Tryd.underlying22 I26 rfl rfl rfl (hv.le S.le) (Le.refl _ _) (by omega) (fun u6_2 a6_2 hg6_2 hu6_2 => ?_)
        obtain rfl : (d, s) = a6_2 := Eq.symm (Option.some.inj (hg6_2.symm.trans (by rw [Int.toNat_natCast]; exact hx)))
        refine Rg.fieldAddr (M := M1) (A := RT.fo) (B := RT.int .i64) Tryd.underlying26 rfl rfl I3 (by decide) (fo0) rfl rfl (by decide) (by assumption) (by repeat (first | exact Le.refl _ _ | refine Le.trans (Step.le (by assumption)) ?_)) (fun u6_3 hu6_3 => ?_)
        refine Rg.loadi64 (M := M1) Tryd.underlying3 rfl rfl (by assumption) (by repeat (first | exact Le.refl _ _ | refine Le.trans (Step.le (by assumption)) ?_)) (fun in6_4 => ?_)
        refine Rg.eqv (v' := .int .i64 (d)) rfl ?_
        replace in6_4 : -9223372036854775808 ≤ (d : Int) ∧ d ≤ 9223372036854775807 := in6_4
        refine Rg.assign rfl rfl ?_
        refine Rg.nil ?_
        refine T.seq ?_
        refine T.seq ?_
        refine T.region ?_ -- region 7
        refine Rg.move rfl rfl ?_
        refine Rg.ilt rfl rfl rfl ?_
        refine Rg.nil ?_
        refine T.ifp rfl (fun c7 => ?_) (fun c7 => ?_)
        · -- c7 True
          refine T.region ?_ -- region 8
          refine Rg.move rfl rfl ?_
          refine Rg.iadd rfl rfl rfl (by omega) ?_
          refine Rg.neg rfl rfl (by omega) ?_
          refine Rg.assign rfl rfl ?_
          refine Rg.nil ?_
          refine T.seq ?_
          refine T.region ?_ -- region 9
          refine Rg.move rfl rfl ?_
          refine Rg.iadd rfl rfl rfl (by omega) ?_
          refine Rg.move rfl rfl ?_
          refine Rg.eqv (v' := .int .i64 (fixE d)) (by unfold fixE; first | rw [if_pos c7] | rw [if_neg c7]) ?_
          have hf0 : 0 ≤ fixE d := by unfold fixE; split <;> omega
          refine Rg.imod rfl rfl rfl (by omega) ?_
          have hmod := Int.emod_nonneg (fixE d) (show (10 : Int) ≠ 0 by decide)
          have hmod2 := Int.emod_lt_of_pos (fixE d) (show (0 : Int) < 10 by decide)
          refine Rg.iadd rfl rfl rfl (by omega) ?_
          refine Rg.assign rfl rfl ?_
          refine Rg.nil ?_
          refine T.region ?_ -- region 10
          refine Rg.move rfl rfl ?_
          refine Rg.move rfl rfl ?_
          refine Rg.move rfl rfl ?_
          refine Rg.move rfl rfl ?_

          refine Rg.idx (M := M1) Tryd.underlying22 I26 rfl rfl rfl (hv.le S.le) (Le.refl _ _) (by omega) (fun u10_4 a10_4 hg10_4 hu10_4 => ?_)
          obtain rfl : (d, s) = a10_4 := Eq.symm (Option.some.inj (hg10_4.symm.trans (by rw [Int.toNat_natCast]; exact hx)))
          refine Rg.fieldAddr (M := M1) (A := RT.fo) (B := RT.int .i64) Tryd.underlying26 rfl rfl I3 (by decide) (fo1) rfl rfl (by decide) (by assumption) (by repeat (first | exact Le.refl _ _ | refine Le.trans (Step.le (by assumption)) ?_)) (fun u10_5 hu10_5 => ?_)
          refine Rg.loadi64 (M := M1) Tryd.underlying3 rfl rfl (by assumption) (by repeat (first | exact Le.refl _ _ | refine Le.trans (Step.le (by assumption)) ?_)) (fun in10_6 => ?_)
          refine Rg.eqv (v' := .int .i64 (s)) rfl ?_
          replace in10_6 : -9223372036854775808 ≤ (s : Int) ∧ s ≤ 9223372036854775807 := in10_6
          refine Rg.irem rfl rfl rfl (by decide) ?_
          have htm := tmodK s
          refine Rg.build (places := [(0, 1), (1, 1)]) Tryd.underlying26 I26 B26 rfl ⟨_, _, rfl, rfl, _, _, rfl, rfl, rfl⟩ (out := [_, _]) ⟨0, [_], rfl, rfl, by simp [Value.cells], 1, [_], rfl, rfl, by simp [Value.cells], rfl⟩ ?_
          refine Rg.sl1 (A := RT.fo) (hn := by decide) (M := M1) Tryd.underlying22 I26 (by decide) rfl rfl hM1 (V_fo (a := last + 1 + fixE d % 10) (b := s.tmod 1000) (by omega) (by omega)) (.inl rfl) (fun u5 w5 hu5 s5 => ?_)
          refine Rg.append (M := M1) (base := w0.heap.size) Tryd.underlying22 I26 rfl rfl rfl rfl (ho.step0 s5) hu5 (Le.refl _ _) (by simp; omega) (by simp; omega) (Nat.le_trans S.size s5.size) (fun v6 M3 w6 ho6 s6 => ?_)
          refine Rg.assign rfl rfl ?_
          refine Rg.nil ?_
          refine T.region ?_ -- region 5
          refine Rg.move rfl rfl ?_
          refine Rg.iadd rfl rfl rfl (by omega) ?_
          refine Rg.assign rfl rfl ?_
          refine Rg.nil ?_
          refine ⟨rfl, (k + 1, last + 1 + fixE d % 10, v6, acc ++ [(last + 1 + fixE d % 10, s.tmod 1000)]), (.cons rfl (.cons rfl (.cons rfl (.cons rfl (.cons rfl .nil))))), ?_, ?_⟩
          · refine ⟨by simp only; omega, by simp only; omega, by simp only; omega, by simp only; omega, by simp; omega, (by simp only; exact hri.snoc (m' := (last + 1 + fixE d % 10 + 1).toNat) (by omega) (by omega)), M3, s6.lt (s5.lt hM1), (S.trans0 s5).transBlk s6 (ho.step0 s5) (Nat.le_refl _), ho6⟩
          · simp only; omega
        · -- c7 False
          refine T.skip ?_
          refine T.seq ?_
          refine T.region ?_ -- region 9
          refine Rg.move rfl rfl ?_
          refine Rg.iadd rfl rfl rfl (by omega) ?_
          refine Rg.move rfl rfl ?_
          refine Rg.eqv (v' := .int .i64 (fixE d)) (by unfold fixE; first | rw [if_pos c7] | rw [if_neg c7]) ?_
          have hf0 : 0 ≤ fixE d := by unfold fixE; split <;> omega
          refine Rg.imod rfl rfl rfl (by omega) ?_
          have hmod := Int.emod_nonneg (fixE d) (show (10 : Int) ≠ 0 by decide)
          have hmod2 := Int.emod_lt_of_pos (fixE d) (show (0 : Int) < 10 by decide)
          refine Rg.iadd rfl rfl rfl (by omega) ?_
          refine Rg.assign rfl rfl ?_
          refine Rg.nil ?_
          refine T.region ?_ -- region 10
          refine Rg.move rfl rfl ?_
          refine Rg.move rfl rfl ?_
          refine Rg.move rfl rfl ?_
          refine Rg.move rfl rfl ?_

          refine Rg.idx (M := M1) Tryd.underlying22 I26 rfl rfl rfl (hv.le S.le) (Le.refl _ _) (by omega) (fun u10_4 a10_4 hg10_4 hu10_4 => ?_)
          obtain rfl : (d, s) = a10_4 := Eq.symm (Option.some.inj (hg10_4.symm.trans (by rw [Int.toNat_natCast]; exact hx)))
          refine Rg.fieldAddr (M := M1) (A := RT.fo) (B := RT.int .i64) Tryd.underlying26 rfl rfl I3 (by decide) (fo1) rfl rfl (by decide) (by assumption) (by repeat (first | exact Le.refl _ _ | refine Le.trans (Step.le (by assumption)) ?_)) (fun u10_5 hu10_5 => ?_)
          refine Rg.loadi64 (M := M1) Tryd.underlying3 rfl rfl (by assumption) (by repeat (first | exact Le.refl _ _ | refine Le.trans (Step.le (by assumption)) ?_)) (fun in10_6 => ?_)
          refine Rg.eqv (v' := .int .i64 (s)) rfl ?_
          replace in10_6 : -9223372036854775808 ≤ (s : Int) ∧ s ≤ 9223372036854775807 := in10_6
          refine Rg.irem rfl rfl rfl (by decide) ?_
          have htm := tmodK s
          refine Rg.build (places := [(0, 1), (1, 1)]) Tryd.underlying26 I26 B26 rfl ⟨_, _, rfl, rfl, _, _, rfl, rfl, rfl⟩ (out := [_, _]) ⟨0, [_], rfl, rfl, by simp [Value.cells], 1, [_], rfl, rfl, by simp [Value.cells], rfl⟩ ?_
          refine Rg.sl1 (A := RT.fo) (hn := by decide) (M := M1) Tryd.underlying22 I26 (by decide) rfl rfl hM1 (V_fo (a := last + 1 + fixE d % 10) (b := s.tmod 1000) (by omega) (by omega)) (.inl rfl) (fun u5 w5 hu5 s5 => ?_)
          refine Rg.append (M := M1) (base := w0.heap.size) Tryd.underlying22 I26 rfl rfl rfl rfl (ho.step0 s5) hu5 (Le.refl _ _) (by simp; omega) (by simp; omega) (Nat.le_trans S.size s5.size) (fun v6 M3 w6 ho6 s6 => ?_)
          refine Rg.assign rfl rfl ?_
          refine Rg.nil ?_
          refine T.region ?_ -- region 5
          refine Rg.move rfl rfl ?_
          refine Rg.iadd rfl rfl rfl (by omega) ?_
          refine Rg.assign rfl rfl ?_
          refine Rg.nil ?_
          refine ⟨rfl, (k + 1, last + 1 + fixE d % 10, v6, acc ++ [(last + 1 + fixE d % 10, s.tmod 1000)]), (.cons rfl (.cons rfl (.cons rfl (.cons rfl (.cons rfl .nil))))), ?_, ?_⟩
          · refine ⟨by simp only; omega, by simp only; omega, by simp only; omega, by simp only; omega, by simp; omega, (by simp only; exact hri.snoc (m' := (last + 1 + fixE d % 10 + 1).toNat) (by omega) (by omega)), M3, s6.lt (s5.lt hM1), (S.trans0 s5).transBlk s6 (ho.step0 s5) (Nat.le_refl _), ho6⟩
          · simp only; omega
      · -- c4 False
        refine T.exit ?_
        refine T.seq ?_
        refine T.region ?_ -- region 11
        refine Rg.move rfl rfl ?_
        refine Rg.assign rfl rfl ?_
        refine Rg.nil ?_
        refine T.ret ?_
        exact Kret1 rfl rfl ⟨S.back, acc, hri.wide (by omega), by omega, Own.close hM S ho (by omega)⟩
    · -- g4_4 False
      refine Rg.gno rfl rfl rfl rfl ?_
      refine Rg.gno rfl rfl rfl rfl ?_
      refine Rg.gno rfl rfl rfl rfl ?_
      refine Rg.pickf rfl rfl rfl ?_
      refine Rg.nil ?_
      refine T.iff rfl ?_
      refine T.exit ?_
      refine T.seq ?_
      refine T.region ?_ -- region 11
      refine Rg.move rfl rfl ?_
      refine Rg.assign rfl rfl ?_
      refine Rg.nil ?_
      refine T.ret ?_
      exact Kret1 rfl rfl ⟨S.back, acc, hri.wide (by omega), by omega, Own.close hM S ho (by omega)⟩

/-- 'concordance/concordanceref13.at' -/
theorem at13_spec {M : PSet} {w0 : World} {v : Value} {l : List Fo} {d : Int} (hv : ((RT.fo).sl).V M w0 l v) :
    Spec Tryd.prog 19 #[v, .int .i64 d] w0 (fun v' w' => (∃ r, v' = .int .i64 r ∧ AtR l d r ∧ -1 ≤ r ∧ r ≤ 140737488355328) ∧ w0 = w') := by
  have hlen := V_sl_len hv
  refine spec_of (args := [v, .int .i64 d]) (fn := Tryd.f19) Tryd.func19 rfl (n := 20) Tryd.ntmps19 ?_
  refine T.seq ?_
  refine T.region ?_ -- region 0
  refine Rg.assign rfl rfl ?_
  refine Rg.nil ?_
  refine T.seq ?_
  refine T.seq ?_
  refine T.region ?_ -- region 1
  refine Rg.assign rfl rfl ?_
  refine Rg.nil ?_
  refine T.block ?_
  refine T.loop (σ := Nat) (fun s => [(0, v), (1, .int .i64 d), (5, .int .i64 s)]) (fun s w => w0 = w ∧ s ≤ l.length ∧ ∀ t, t < s → ∀ q, l[t]? = some q → q.1 ≠ d) (fun s => l.length - s) 0 (.cons rfl (.cons rfl (.cons rfl .nil))) ?_ ?_ -- loop 0
  · exact ⟨rfl, Nat.zero_le _, fun t h => absurd h (Nat.not_lt_zero _)⟩
  · rintro k w1 ⟨rfl, hk, hno⟩
    refine T.seq ?_
    refine T.seq ?_
    refine T.region ?_ -- region 2
    refine Rg.move rfl rfl ?_
    refine Rg.move rfl rfl ?_
    refine Rg.lensl Tryd.underlying22 rfl hv rfl ?_
    refine Rg.ilt rfl rfl rfl ?_
    refine Rg.nil ?_
    refine T.ifp rfl (fun c2 => ?_) (fun c2 => ?_)
    · -- c2 True
      refine T.skip ?_
      refine T.seq ?_
      refine T.block ?_
      refine T.seq ?_
      refine T.region ?_ -- region 4
      refine Rg.move rfl rfl ?_
      refine Rg.move rfl rfl ?_
      obtain ⟨⟨e, s⟩, hx⟩ : ∃ x, l[k]? = some x := ⟨_, List.getElem?_eq_getElem (by omega)⟩
      refine Rg.idx (M := M) Tryd.underlying22 I26 rfl rfl rfl (hv) (Le.refl _ _) (by omega) (fun u4_2 a4_2 hg4_2 hu4_2 => ?_)
      obtain rfl : (e, s) = a4_2 := Eq.symm (Option.some.inj (hg4_2.symm.trans (by rw [Int.toNat_natCast]; exact hx)))
      refine Rg.fieldAddr (M := M) (A := RT.fo) (B := RT.int .i64) Tryd.underlying26 rfl rfl I3 (by decide) (fo0) rfl rfl (by decide) (by assumption) (by repeat (first | exact Le.refl _ _ | refine Le.trans (Step.le (by assumption)) ?_)) (fun u4_3 hu4_3 => ?_)
      refine Rg.loadi64 (M := M) Tryd.underlying3 rfl rfl (by assumption) (by repeat (first | exact Le.refl _ _ | refine Le.trans (Step.le (by assumption)) ?_)) (fun in4_4 => ?_)
      refine Rg.eqv (v' := .int .i64 (e)) rfl ?_
      replace in4_4 : -9223372036854775808 ≤ (e : Int) ∧ e ≤ 9223372036854775807 := in4_4
      refine Rg.move rfl rfl ?_
      refine Rg.ieq rfl rfl rfl ?_
      refine Rg.nil ?_
      refine T.ifp rfl (fun c4 => ?_) (fun c4 => ?_)
      · -- c4 True
        refine T.seq ?_
        refine T.region ?_ -- region 5
        refine Rg.move rfl rfl ?_
        refine Rg.assign rfl rfl ?_
        refine Rg.nil ?_
        refine T.ret ?_
        have hsx := scoreF_at (s := s) (by rw [hx, c4]) hno
        exact Kret1 rfl rfl ⟨⟨_, rfl, .inl ⟨k, rfl, hasF_iff.2 ⟨k, _, hx, c4⟩, by rw [hx, c4, hsx]⟩, by omega, by omega⟩, rfl⟩
      · -- c4 False
        refine T.skip ?_
        refine T.region ?_ -- region 3
        refine Rg.move rfl rfl ?_
        refine Rg.iadd rfl rfl rfl (by omega) ?_
        refine Rg.assign rfl rfl ?_
        refine Rg.nil ?_
        refine ⟨rfl, k + 1, (.cons rfl (.cons rfl (.cons rfl .nil))), ?_, ?_⟩
        · refine ⟨rfl, by omega, fun t ht q hq => ?_⟩
          rcases Nat.lt_or_ge t k with h | h
          · exact hno t h q hq
          · rw [show t = k from by omega, hx] at hq; cases hq; exact c4
        · show _ - (k + 1) < _ - k; omega
    · -- c2 False
      refine T.exit ?_
      refine T.seq ?_
      refine T.region ?_ -- region 6
      refine Rg.assign rfl rfl ?_
      refine Rg.nil ?_
      refine T.ret ?_
      refine Kret1 rfl rfl ⟨⟨_, rfl, .inr ⟨rfl, ?_⟩, by omega, by omega⟩, rfl⟩
      cases h : hasF l d with
      | false => rfl
      | true =>
        obtain ⟨t, p, ht, hp⟩ := hasF_iff.1 h
        exact absurd hp (hno t (by have := (List.getElem?_eq_some_iff.1 ht).1; omega) p ht)

/-- 'concordance/concordanceref13.Not' -/
theorem rNot13_spec {M : PSet} {w0 : World} {v : Value} {a : List Fo} {n : Nat} (hM : Lt M w0) (hv : ((RT.fo).sl).V M w0 a v) (hn : n ≤ 1000000) :
    Spec Tryd.prog 12 #[v, .int .i64 n] w0 (fun v' w' => ((RT.fo).sl).V M w' (outN a n) v' ∧ Step M w0 M w' none') := by
  have hlen := V_sl_len hv
  refine spec_of (args := [v, .int .i64 n]) (fn := Tryd.f12) Tryd.func12 rfl (n := 22) Tryd.ntmps12 ?_
  refine T.seq ?_
  refine T.region ?_ -- region 0
  refine Rg.assign rfl rfl ?_
  refine Rg.nil ?_
  refine T.seq ?_
  refine T.region ?_ -- region 1
  refine Rg.assign rfl rfl ?_
  refine Rg.nil ?_
  refine T.seq ?_
  refine T.seq ?_
  refine T.region ?_ -- region 2
  refine Rg.assign rfl rfl ?_
  refine Rg.nil ?_
  refine T.block ?_
  refine T.loop (σ := Nat × Value) (fun s => [(0, v), (1, .int .i64 n), (5, s.2), (6, .int .i64 s.1)]) (fun s w => s.1 ≤ n ∧ ∃ M1, Lt M1 w ∧ Step M w0 M1 w none' ∧ Own RT.fo 26 M1 w w0.heap.size s.2 (outN a s.1)) (fun s => n - s.1) (0, _) (.cons rfl (.cons rfl (.cons rfl (.cons rfl .nil)))) ?_ ?_ -- loop 0
  · exact ⟨Nat.zero_le _, M, hM, Step.refl _ _, Own.nil _ _ _ _ _⟩
  · rintro ⟨k, u0⟩ w1 ⟨hk, M1, hM1, S, ho⟩
    dsimp only at hk ho ⊢
    refine T.seq ?_
    refine T.seq ?_
    refine T.region ?_ -- region 3
    refine Rg.move rfl rfl ?_
    refine Rg.move rfl rfl ?_
    refine Rg.ilt rfl rfl rfl ?_
    refine Rg.nil ?_
    refine T.ifp rfl (fun c3 => ?_) (fun c3 => ?_)
    · -- c3 True
      refine T.skip ?_
      refine T.seq ?_
      refine T.block ?_
      refine T.seq ?_
      refine T.region ?_ -- region 5
      refine Rg.move rfl rfl ?_
      refine Rg.move rfl rfl ?_
      refine Rg.call rfl rfl E19 (at13_spec (hv.le S.le)) (fun r wc h => ?_)
      obtain ⟨⟨r, rfl, har, hr1, hr2⟩, rfl⟩ := h
      refine Rg.ilt rfl rfl rfl ?_
      refine Rg.nil ?_
      refine T.ifp rfl (fun c5 => ?_) (fun c5 => ?_)
      · -- c5 True
        have hf : hasF a (k : Int) = false := by
          rcases har with ⟨i, h, _⟩ | h
          · omega
          · exact h.2
        refine T.region ?_ -- region 6
        refine Rg.move rfl rfl ?_
        refine Rg.move rfl rfl ?_
        refine Rg.build (places := [(0, 1), (1, 1)]) Tryd.underlying26 I26 B26 rfl ⟨_, _, rfl, rfl, rfl⟩ (out := [_, .int .i64 0]) ⟨0, [_], rfl, rfl, by simp [Value.cells], rfl⟩ ?_
        refine Rg.sl1 (A := RT.fo) (hn := by decide) (M := M1) Tryd.underlying22 I26 (by decide) rfl rfl hM1 (V_fo (a := (k : Int)) (b := 0) (by omega) (by omega)) (.inl rfl) (fun u5 w5 hu5 s5 => ?_)
        have hol := outN_len a k
        refine Rg.append (M := M1) (base := w0.heap.size) Tryd.underlying22 I26 rfl rfl rfl rfl (ho.step0 s5) hu5 (Le.refl _ _) (by simp; omega) (by simp; omega) (Nat.le_trans S.size s5.size) (fun v6 M3 w6 ho6 s6 => ?_)
        refine Rg.assign rfl rfl ?_
        refine Rg.nil ?_
        refine T.region ?_ -- region 4
        refine Rg.move rfl rfl ?_
        refine Rg.iadd rfl rfl rfl (by omega) ?_
        refine Rg.assign rfl rfl ?_
        refine Rg.nil ?_
        refine ⟨rfl, (k + 1, _), (.cons rfl (.cons rfl (.cons rfl (.cons rfl .nil)))), ?_, ?_⟩
        · first
          | exact ⟨by simp only; omega, M3, s6.lt (s5.lt hM1), (S.trans0 s5).transBlk s6 (ho.step0 s5) (Nat.le_refl _), by simp only; rw [outN_succ, hf]; exact ho6⟩
          | exact ⟨by simp only; omega, M1, hM1, S, by simp only; rw [outN_succ, hf, if_pos rfl, List.append_nil]; exact ho⟩
        · simp only; omega
      · -- c5 False
        have hf : hasF a (k : Int) = true := by
          rcases har with ⟨i, h, h2, _⟩ | h
          · exact h2
          · omega
        refine T.skip ?_
        refine T.region ?_ -- region 4
        refine Rg.move rfl rfl ?_
        refine Rg.iadd rfl rfl rfl (by omega) ?_
        refine Rg.assign rfl rfl ?_
        refine Rg.nil ?_
        refine ⟨rfl, (k + 1, _), (.cons rfl (.cons rfl (.cons rfl (.cons rfl .nil)))), ?_, ?_⟩
        · first
          | exact ⟨by simp only; omega, M3, s6.lt (s5.lt hM1), (S.trans0 s5).transBlk s6 (ho.step0 s5) (Nat.le_refl _), by simp only; rw [outN_succ, hf]; exact ho6⟩
          | exact ⟨by simp only; omega, M1, hM1, S, by simp only; rw [outN_succ, hf, if_pos rfl, List.append_nil]; exact ho⟩
        · simp only; omega
    · -- c3 False
      refine T.exit ?_
      refine T.seq ?_
      refine T.region ?_ -- region 7
      refine Rg.move rfl rfl ?_
      refine Rg.assign rfl rfl ?_
      refine Rg.nil ?_
      refine T.ret ?_
      obtain rfl : k = n := by omega
      exact Kret1 rfl rfl ⟨Own.close hM S ho (by have := outN_len a k; omega), S.back⟩

/-- 'concordance/concordanceref13.Same' -/
theorem Same13_spec {M : PSet} {w0 : World} {v u : Value} {a b : List Fo} (hM : Lt M w0) (hv : ((RT.fo).sl).V M w0 a v) (hu : ((RT.fo).sl).V M w0 b u) :
    Spec Tryd.prog 10 #[v, u] w0 (fun v' w' => v' = .bool (decide (a = b)) ∧ Step M w0 M w' none') := by
  have hla := V_sl_len hv
  have hlb := V_sl_len hu
  refine spec_of (args := [v, u]) (fn := Tryd.f10) Tryd.func10 rfl (n := 26) Tryd.ntmps10 ?_
  refine T.seq ?_
  refine T.region ?_ -- region 0
  refine Rg.assign rfl rfl ?_
  refine Rg.nil ?_
  refine T.seq ?_
  refine T.seq ?_
  refine T.region ?_ -- region 1
  refine Rg.move rfl rfl ?_
  refine Rg.lensl Tryd.underlying22 rfl hv rfl ?_
  refine Rg.move rfl rfl ?_
  refine Rg.lensl Tryd.underlying22 rfl hu rfl ?_
  refine Rg.ine rfl rfl rfl ?_
  refine Rg.nil ?_
  refine T.ifp rfl (fun c1 => ?_) (fun c1 => ?_)
  · -- c1 True
    refine T.seq ?_
    refine T.region ?_ -- region 2
    refine Rg.assign rfl rfl ?_
    refine Rg.nil ?_
    refine T.ret ?_
    refine Kret1 rfl rfl ⟨?_, Step.refl _ _⟩
    rw [decide_eq_false]
    rintro rfl; exact c1 rfl
  · -- c1 False
    obtain hlen : a.length = b.length := by omega
    refine T.skip ?_
    refine T.seq ?_
    refine T.seq ?_
    refine T.region ?_ -- region 3
    refine Rg.assign rfl rfl ?_
    refine Rg.nil ?_
    refine T.block ?_
    refine T.loop (σ := Nat) (fun s => [(0, v), (1, u), (5, .int .i64 s)]) (fun s w => s ≤ a.length ∧ a.take s = b.take s ∧ Step M w0 M w none') (fun s => a.length - s) 0 (.cons rfl (.cons rfl (.cons rfl .nil))) ?_ ?_ -- loop 0
    · exact ⟨Nat.zero_le _, by simp, Step.refl _ _⟩
    · rintro k w1 ⟨hk, heq, S⟩
      refine T.seq ?_
      refine T.seq ?_
      refine T.region ?_ -- region 4
      refine Rg.move rfl rfl ?_
      refine Rg.move rfl rfl ?_
      refine Rg.lensl Tryd.underlying22 rfl hv rfl ?_
      refine Rg.ilt rfl rfl rfl ?_
      refine Rg.nil ?_
      refine T.ifp rfl (fun c4 => ?_) (fun c4 => ?_)
      · -- c4 True
        refine T.skip ?_
        refine T.seq ?_
        refine T.block ?_
        refine T.seq ?_
        obtain ⟨⟨d, s⟩, hx⟩ : ∃ x, a[k]? = some x := ⟨_, List.getElem?_eq_getElem (by omega)⟩
        obtain ⟨⟨e, t⟩, hy⟩ : ∃ y, b[k]? = some y := ⟨_, List.getElem?_eq_getElem (by omega)⟩
        apply T.draw (M := M) mixed [Asr.eq _, Asr.eq _, Asr.ptr (RT.fo) (d, s), Asr.V (RT.fo) (d, s), Asr.eq _, Asr.eq _, Asr.ptr (RT.fo) (e, t), Asr.V (RT.fo) (e, t), Asr.eq (.bool (decide (¬ ((d, s) = (e, t)))))] -- region 6
        · rfl
        · -- its operations
          refine Obls.cons ?_ ?_
          · intro wD E sD -- 0
            refine Rg.move rfl rfl ?_
            exact Rg.nil ⟨rfl, rfl, _, rfl, rfl, Step.refl _ _⟩
          refine Obls.cons ?_ ?_
          · intro wD E sD -- 1
            refine Rg.move rfl rfl ?_
            exact Rg.nil ⟨rfl, rfl, _, rfl, rfl, Step.refl _ _⟩
          refine Obls.cons ?_ ?_
          · intro wD E sD -- 2
            intro x_ hx_; have hx_ : x_ = _ := hx_; subst x_
            intro x_ hx_; have hx_ : x_ = _ := hx_; subst x_
            refine Rg.idx (M := M) Tryd.underlying22 I26 rfl rfl rfl ((hv.le S.le).le sD.le) (Le.refl _ _) (by omega) (fun ui ai hgi hui => ?_)
            obtain rfl : (d, s) = ai := Eq.symm (Option.some.inj (hgi.symm.trans (by rw [Int.toNat_natCast]; exact hx)))
            exact Rg.nil ⟨rfl, rfl, _, rfl, hui, Step.refl _ _⟩
          refine Obls.cons ?_ ?_
          · intro wD E sD -- 3
            intro v2 hv2
            refine Rg.loadagg (M := M) (A := RT.fo) Tryd.underlying26 rfl I26 (by decide) rfl rfl rfl (show PtrTo (RT.fo) M wD v2 (d, s) from hv2) (Le.refl _ _) (fun va hva => ?_)
            exact Rg.nil ⟨rfl, rfl, _, rfl, hva, Step.refl _ _⟩
          refine Obls.cons ?_ ?_
          · intro wD E sD -- 4
            refine Rg.move rfl rfl ?_
            exact Rg.nil ⟨rfl, rfl, _, rfl, rfl, Step.refl _ _⟩
          refine Obls.cons ?_ ?_
          · intro wD E sD -- 5
            refine Rg.move rfl rfl ?_
            exact Rg.nil ⟨rfl, rfl, _, rfl, rfl, Step.refl _ _⟩
          refine Obls.cons ?_ ?_
          · intro wD E sD -- 6
            intro x_ hx_; have hx_ : x_ = _ := hx_; subst x_
            intro x_ hx_; have hx_ : x_ = _ := hx_; subst x_
            refine Rg.idx (M := M) Tryd.underlying22 I26 rfl rfl rfl ((hu.le S.le).le sD.le) (Le.refl _ _) (by omega) (fun ui ai hgi hui => ?_)
            obtain rfl : (e, t) = ai := Eq.symm (Option.some.inj (hgi.symm.trans (by rw [Int.toNat_natCast]; exact hy)))
            exact Rg.nil ⟨rfl, rfl, _, rfl, hui, Step.refl _ _⟩
          refine Obls.cons ?_ ?_
          · intro wD E sD -- 7
            intro v6 hv6
            refine Rg.loadagg (M := M) (A := RT.fo) Tryd.underlying26 rfl I26 (by decide) rfl rfl rfl (show PtrTo (RT.fo) M wD v6 (e, t) from hv6) (Le.refl _ _) (fun va hva => ?_)
            exact Rg.nil ⟨rfl, rfl, _, rfl, hva, Step.refl _ _⟩
          refine Obls.cons ?_ ?_
          · intro wD E sD -- 8
            intro v3 hv3
            intro v7 hv7
            obtain rfl := fo_val (show RT.fo.V M wD (d, s) v3 from hv3)
            obtain rfl := fo_val (show RT.fo.V M wD (e, t) v7 from hv7)
            refine Rg.twone Tryd.underlying26 (by kernel_rfl) (by kernel_rfl) Tryd.underlying3 Tryd.underlying3 (by decide) (by decide) rfl rfl rfl rfl rfl ?_
            exact Rg.nil ⟨rfl, rfl, _, rfl, rfl, Step.refl _ _⟩
          exact Obls.nil
        · -- behind it
          intro wD6 sD6
          intro x_ hx_; have hx_ : x_ = _ := hx_; subst x_
          intro x_ hx_; have hx_ : x_ = _ := hx_; subst x_
          intro v6_2 hv6_2
          intro v6_3 hv6_3
          intro x_ hx_; have hx_ : x_ = _ := hx_; subst x_
          intro x_ hx_; have hx_ : x_ = _ := hx_; subst x_
          intro v6_6 hv6_6
          intro v6_7 hv6_7
          intro x_ hx_; have hx_ : x_ = _ := hx_; subst x_
          refine T.ifp rfl (fun c6 => ?_) (fun c6 => ?_)
          · -- c6 True
            refine T.seq ?_
            refine T.region ?_ -- region 7
            refine Rg.assign rfl rfl ?_
            refine Rg.nil ?_
            refine T.ret ?_
            refine Kret1 rfl rfl ⟨?_, S.trans0 sD6⟩
            rw [decide_eq_false]
            rintro rfl; rw [hx] at hy; cases hy; exact c6 rfl
          · -- c6 False
            refine T.skip ?_
            refine T.region ?_ -- region 5
            refine Rg.move rfl rfl ?_
            refine Rg.iadd rfl rfl rfl (by omega) ?_
            refine Rg.assign rfl rfl ?_
            refine Rg.nil ?_
            refine ⟨rfl, k + 1, (.cons rfl (.cons rfl (.cons rfl .nil))), ?_, ?_⟩
            · refine ⟨by omega, ?_, S.trans0 sD6⟩
              obtain ⟨_, h1⟩ := List.getElem?_eq_some_iff.1 hx
              obtain ⟨_, h2⟩ := List.getElem?_eq_some_iff.1 hy
              rw [List.take_succ_eq_append_getElem (by omega), List.take_succ_eq_append_getElem (by omega), heq, h1, h2, Decidable.not_not.1 c6]
            · show a.length - (k + 1) < a.length - k; omega
      · -- c4 False
        refine T.exit ?_
        refine T.seq ?_
        refine T.region ?_ -- region 8
        refine Rg.assign rfl rfl ?_
        refine Rg.nil ?_
        refine T.ret ?_
        refine Kret1 rfl rfl ⟨?_, S⟩
        rw [decide_eq_true]
        rwa [List.take_of_length_le (by omega), List.take_of_length_le (by omega)] at heq

end Go.K

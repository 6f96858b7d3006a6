/- The walks of Go functions, operation by operation. -/
import Derived.Test.YtbgekgiaoedjiaaKTypes
import Derived.Test.YtbgekgiaoedjiaaKFloat
import Derived.Test.YtbgekgiaoedjiaaKPureM11
import Derived.Test.YtbgekgiaoedjiaaKOrder11
import Derived.Test.YtbgekgiaoedjiaaKPlc11
import Derived.Test.YtbgekgiaoedjiaaKRef11
import Derived.Test.YtbgekgiaoedjiaaKLives11
import Derived.Test.YtbgekgiaoedjiaaProg
import Derived.KernelRfl
namespace Go.K
open Go.Proofs
namespace TKLaw11
theorem I22 : TI Try.prog 22 (.slice none 0 0) 1 24 := by unfold TI; kernel_rfl -- [][]int
theorem I30 : TI Try.prog 30 (.agg #[(.int .i64 0), (.int .i64 0)]) 2 16 := by unfold TI; kernel_rfl -- [2]int
theorem E4 : Enters Try.prog 4 := enters Try.func4 rfl (by decide) -- concordance/concordanceref04.Good
theorem E5 : Enters Try.prog 5 := enters Try.func5 rfl (by decide) -- concordance/merge.Order
theorem E6 : Enters Try.prog 6 := enters Try.func6 rfl (by decide) -- concordance/concordanceref11.Order
theorem E7 : Enters Try.prog 7 := enters Try.func7 rfl (by decide) -- concordance/merge.Places
theorem E8 : Enters Try.prog 8 := enters Try.func8 rfl (by decide) -- concordance/concordanceref11.Place
theorem E9 : Enters Try.prog 9 := enters Try.func9 rfl (by decide) -- concordance/concordancelaw11.lives
end TKLaw11
open TKLaw11
set_option linter.unusedVariables false
set_option linter.unusedSimpArgs false
set_option maxRecDepth 10000

set_option maxHeartbeats 4000000 in
/-- 'concordance/concordancelaw11.MergeOrders' -/
theorem MergeOrders_spec {M : PSet} {w0 : World} {v : Value} {l : List (List Int)} {n : Int} (hM : Lt M w0) (hv : (((RT.int .i64).sl).sl).V M w0 l v) (hn : -9223372036854775808 ≤ n ∧ n ≤ 9223372036854775807) :
    Spec Try.prog 3 #[v, .int .i64 n] w0 (fun v' w' => v' = .bool true ∧ Step M w0 M w' none') := by
  have hlen := V_sl_len hv
  refine spec_of (args := [_, _]) (fn := Try.f3) Try.func3 rfl (n := 137) Try.ntmps3 ?_
  refine T.seq ?_
  refine T.region ?_ -- region 0
  refine Rg.assign rfl rfl ?_
  refine Rg.nil ?_
  refine T.seq ?_
  refine T.region ?_ -- region 1
  refine Rg.assign rfl rfl ?_
  refine Rg.nil ?_
  refine T.seq ?_
  refine T.region ?_ -- region 2
  refine Rg.assign rfl rfl ?_
  refine Rg.nil ?_
  refine T.seq ?_
  refine T.seq ?_
  refine T.region ?_ -- region 3
  refine Rg.assign rfl rfl ?_
  refine Rg.nil ?_
  refine T.block ?_
  refine T.loop (σ := Nat × Value × Value) (fun s => [(0, v), (1, .int .i64 n), (5, s.2.1), (6, s.2.2), (7, .int .i64 s.1)]) (fun s w => s.1 ≤ l.length ∧ s.1 ≤ 5 ∧ ∃ M1, Lt M1 w ∧ Own ((RT.int .i64).sl) 23 M1 w w0.heap.size s.2.1 ((l.take s.1).map (·.take 10)) ∧ Own ((RT.int .i64).sl) 23 M1 w w0.heap.size s.2.2 ((l.take s.1).map (good · 10)) ∧ Apart s.2.1 s.2.2 ∧ Step M w0 M1 w none') (fun s => 5 - s.1) (0, _, _) (.cons rfl (.cons rfl (.cons rfl (.cons rfl (.cons rfl .nil))))) ?_ ?_ -- loop 0
  · exact ⟨Nat.zero_le _, Nat.zero_le _, M, hM, Own.nil _ _ _ _ _, Own.nil _ _ _ _ _, Apart.nil _, Step.refl _ _⟩
  · rintro ⟨k, u5, u6⟩ w1 ⟨hk, hk5, M1, hM1, ho5, ho6, hap, S⟩
    dsimp only at hk hk5 ho5 ho6 hap ⊢
    refine T.seq ?_
    refine T.seqJoin [(0, v), (1, .int .i64 n), (5, u5), (6, u6), (7, .int .i64 k), (25, .bool (decide (k < l.length ∧ k < 5)))] ?_ ?_
    · -- join 4
      refine T.region ?_ -- region 4
      refine Rg.move rfl rfl ?_
      refine Rg.move rfl rfl ?_
      refine Rg.lensl Try.underlying22 rfl hv rfl ?_
      refine Rg.ilt rfl rfl rfl ?_
      refine Rg.move rfl rfl ?_
      refine Rg.gsplitp (g := 22) rfl (fun g4_4 => ?_) (fun g4_4 => ?_)
      · -- g4_4 True
        refine Rg.gyes rfl rfl ?_
        refine Rg.move rfl rfl ?_
        refine Rg.gyes rfl rfl ?_
        refine Rg.ilt rfl rfl rfl ?_
        refine Rg.pickt rfl rfl rfl ?_
        refine Rg.nil ?_
        exact ⟨rfl, rfl, rfl, .cons rfl (.cons rfl (.cons rfl (.cons rfl (.cons rfl (.cons (by first | rfl | exact congrArg (fun b => some (Value.bool b)) (Eq.symm (decide_eq_false (by omega))) | exact congrArg (fun b => some (Value.bool b)) (Eq.symm (decide_eq_true (by omega))) | exact congrArg (fun b => some (Value.bool b)) (decide_eq_decide.2 (by omega))) (.nil))))))⟩
      · -- g4_4 False
        refine Rg.gno rfl rfl rfl rfl ?_
        refine Rg.gno rfl rfl rfl rfl ?_
        refine Rg.pickf rfl rfl rfl ?_
        refine Rg.nil ?_
        exact ⟨rfl, rfl, rfl, .cons rfl (.cons rfl (.cons rfl (.cons rfl (.cons rfl (.cons (by first | rfl | exact congrArg (fun b => some (Value.bool b)) (Eq.symm (decide_eq_false (by omega))) | exact congrArg (fun b => some (Value.bool b)) (Eq.symm (decide_eq_true (by omega))) | exact congrArg (fun b => some (Value.bool b)) (decide_eq_decide.2 (by omega))) (.nil))))))⟩
    · -- joined
      refine T.ifp rfl (fun c4 => ?_) (fun c4 => ?_)
      · -- c4 True
        refine T.skip ?_
        refine T.seq ?_
        refine T.block ?_
        refine T.seq ?_
        apply T.drawF 12 [0] (blk u5) mixed rfl rfl rfl rfl -- region 6
        intro wD6 sA6
        have sD6 := sA6 M1
        obtain ⟨li, hli⟩ : ∃ x, l[k]? = some x := ⟨_, List.getElem?_eq_getElem (by omega)⟩
        have htk : l.take (k + 1) = l.take k ++ [li] := by
          obtain ⟨h1, h2⟩ := List.getElem?_eq_some_iff.1 hli
          rw [List.take_succ_eq_append_getElem h1, h2]
        refine Rg.move rfl rfl ?_
        refine Rg.nil ⟨rfl, rfl, rfl, ?_⟩
        refine Rg.move rfl rfl ?_
        refine Rg.nil ⟨rfl, rfl, rfl, ?_⟩
        refine Rg.move rfl rfl ?_
        refine Rg.nil ⟨rfl, rfl, rfl, ?_⟩

        refine Rg.idx (M := M1) Try.underlying22 I23 rfl rfl rfl ((hv.le S.le).le sD6.le) (Le.refl _ _) (by first | omega | decide) (fun u6_3 a6_3 hg6_3 hu6_3 => ?_)
        obtain rfl : li = a6_3 := Eq.symm (Option.some.inj (hg6_3.symm.trans (by rw [Int.toNat_natCast]; exact hli)))
        refine Rg.nil ⟨rfl, rfl, rfl, ?_⟩
        refine Rg.load (M := M1) Try.underlying23 rfl rfl rfl rfl rfl (by assumption) (by repeat (first | exact Le.refl _ _ | refine Le.trans (Step.le (by assumption)) ?_)) (fun v6_4 hv6_4 => ?_)
        replace hv6_4 : (((RT.int .i64).sl)).V M1 _ li v6_4 := hv6_4
        refine Rg.nil ⟨rfl, rfl, rfl, ?_⟩
        refine Rg.move rfl rfl ?_
        refine Rg.nil ⟨rfl, rfl, rfl, ?_⟩
        refine Rg.move rfl rfl ?_
        refine Rg.nil ⟨rfl, rfl, rfl, ?_⟩

        refine Rg.idx (M := M1) Try.underlying22 I23 rfl rfl rfl ((hv.le S.le).le sD6.le) (Le.refl _ _) (by first | omega | decide) (fun u6_7 a6_7 hg6_7 hu6_7 => ?_)
        obtain rfl : li = a6_7 := Eq.symm (Option.some.inj (hg6_7.symm.trans (by rw [Int.toNat_natCast]; exact hli)))
        refine Rg.nil ⟨rfl, rfl, rfl, ?_⟩
        refine Rg.load (M := M1) Try.underlying23 rfl rfl rfl rfl rfl (by assumption) (by repeat (first | exact Le.refl _ _ | refine Le.trans (Step.le (by assumption)) ?_)) (fun v6_8 hv6_8 => ?_)
        replace hv6_8 : (((RT.int .i64).sl)).V M1 _ li v6_8 := hv6_8
        refine Rg.nil ⟨rfl, rfl, rfl, ?_⟩
        first | refine Rg.lensl Try.underlying23 rfl (by assumption) rfl ?_ | refine Rg.lenown Try.underlying23 rfl (by assumption) rfl ?_
        refine Rg.nil ⟨rfl, rfl, rfl, ?_⟩
        refine Rg.min2 rfl rfl rfl ?_
        refine Rg.nil ⟨rfl, rfl, rfl, ?_⟩
        refine Rg.slice_h Try.underlying23 I3 rfl rfl rfl (by assumption) (by omega) (fun u6_11 hu6_11 => ?_)
        refine Rg.nil ⟨rfl, rfl, rfl, ?_⟩
        refine QRg.nil ?_
        refine ⟨Floats.all ⟨FloatOk.move, trivial⟩, ?_⟩
        have kp := Keep.refl (blk u5) wD6
        have hu11 := hu6_11
        rw [show (min (li.length : Int) 10).toNat = min 10 li.length from by omega, ← List.take_eq_take_min] at hu11
        refine Rg.sl1 (A := ((RT.int .i64).sl)) (hn := by decide) (M := M1) Try.underlying22 I23 (by decide) rfl rfl (sD6.lt hM1) hu11 (.inr ⟨rfl, rfl⟩) (fun ub wb hub sb => ?_)
        refine (fun (kp : Keep _ _ _) => Rg.nil ⟨rfl, rfl, kp, ?_⟩) (by first | exact kp | exact kp.go0 (by assumption) | exact kp.goN (by assumption) | exact kp.go (by assumption) (fun _ _ h => by first | exact h | exact h.elim))
        refine Rg.appendF (M := M1) (base := w0.heap.size) Try.underlying22 I23 rfl rfl rfl rfl ((ho5.step0 sD6).step0 sb) hub (Le.refl _ _) (by simp; omega) (by simp; omega) (by have := (S.size); have := sD6.size; have := sb.size; omega) (fun v5 w5 ho5b s5 hF5 => ?_)
        have hap5 := hap.grown hF5 (fun b hb => by have := (ho6.base b hb).2; have := sD6.size; have := sb.size; omega)
        have ho6b := ((ho6.step0 sD6).step0 sb).step s5 (fun b hb => by intro h; exact hap b h hb)
        have S5 := ((S.trans0 sD6).trans0 sb).transNew s5 (fun b hb => (ho5.base b hb).1)
        refine (fun (kp : Keep _ _ _) => Rg.nil ⟨rfl, rfl, kp, ?_⟩) (by first | exact kp | exact kp.go0 (by assumption) | exact kp.goN (by assumption) | exact kp.go (by assumption) (fun _ _ h => by first | exact h | exact h.elim))
        refine Rg.assign rfl rfl ?_
        refine (fun (kp : Keep _ _ _) => Rg.nil ⟨rfl, rfl, kp, ?_⟩) (by first | exact kp | exact kp.go0 (by assumption) | exact kp.goN (by assumption) | exact kp.go (by assumption) (fun _ _ h => by first | exact h | exact h.elim))
        refine TRg.nil ?_
        refine T.region ?_ -- region 7
        refine Rg.move rfl rfl ?_
        refine Rg.move rfl rfl ?_
        refine Rg.move rfl rfl ?_

        refine Rg.idx (M := (insV M1 v5)) Try.underlying22 I23 rfl rfl rfl (hv.le S5.le) (Le.refl _ _) (by first | omega | decide) (fun u7_3 a7_3 hg7_3 hu7_3 => ?_)
        obtain rfl : li = a7_3 := Eq.symm (Option.some.inj (hg7_3.symm.trans (by rw [Int.toNat_natCast]; exact hli)))
        refine Rg.load (M := (insV M1 v5)) Try.underlying23 rfl rfl rfl rfl rfl (by assumption) (by repeat (first | exact Le.refl _ _ | refine Le.trans (Step.le (by assumption)) ?_)) (fun v7_4 hv7_4 => ?_)
        replace hv7_4 : (((RT.int .i64).sl)).V (insV M1 v5) _ li v7_4 := hv7_4
        refine Rg.call rfl rfl E4 (Good_spec (most := 10) (s5.lt (sb.lt (sD6.lt hM1))) hv7_4 (by decide)) (fun r7 w7 h => ?_)
        obtain ⟨s7, hg7⟩ := h
        refine Rg.sl1 (A := ((RT.int .i64).sl)) (hn := by decide) (M := insV M1 v5) Try.underlying22 I23 (by decide) rfl rfl (s7.lt (s5.lt (sb.lt (sD6.lt hM1)))) hg7 (.inr ⟨rfl, rfl⟩) (fun uc wc huc sc => ?_)
        have S7 := (S5.trans0 s7).trans0 sc
        refine Rg.appendF (M := insV M1 v5) (base := w0.heap.size) Try.underlying22 I23 rfl rfl rfl rfl ((ho6b.step0 s7).step0 sc) huc (Le.refl _ _) (by simp; omega) (by simp; omega) (by have := S7.size; omega) (fun v6 w6 ho6c s6 hF6 => ?_)
        have hap6 : Apart v5 v6 := (hap5.symm.grown hF6 (fun b hb => by have := (ho5b.base b hb).2; have := s7.size; have := sc.size; omega)).symm
        have ho5c := ((ho5b.step0 s7).step0 sc).step s6 (fun b hb h => hap5 b hb h)
        have S6 := S7.transNew s6 (fun b hb => (ho6b.base b hb).1)
        refine Rg.assign rfl rfl ?_
        refine Rg.nil ?_
        refine T.region ?_ -- region 5
        refine Rg.move rfl rfl ?_
        refine Rg.iadd rfl rfl rfl (by omega) ?_
        refine Rg.assign rfl rfl ?_
        refine Rg.nil ?_
        refine ⟨rfl, (k + 1, v5, v6), (.cons rfl (.cons rfl (.cons rfl (.cons rfl (.cons rfl .nil))))), ?_, ?_⟩
        · refine ⟨by simp only; omega, by simp only; omega, _, s6.lt (sc.lt (s7.lt (s5.lt (sb.lt (sD6.lt hM1))))), ?_, ?_, hap6, S6⟩
          · rw [htk, List.map_append]; exact ho5c
          · rw [htk, List.map_append]; exact ho6c
        · show 5 - (k + 1) < 5 - k; omega
      · -- c4 False
        refine T.exit ?_
        refine T.seqJoin [(0, v), (5, u5), (6, u6), (1, .int .i64 (if n < 0 then -(n + 1) else n))] ?_ ?_
        · -- join c8
          refine T.seq ?_
          refine T.region ?_ -- region 8
          refine Rg.move rfl rfl ?_
          refine Rg.ilt rfl rfl rfl ?_
          refine Rg.nil ?_
          refine T.ifp rfl (fun c8 => ?_) (fun c8 => ?_)
          · -- c8 True
            refine T.region ?_ -- region 9
            refine Rg.move rfl rfl ?_
            refine Rg.iadd rfl rfl rfl (by omega) ?_
            refine Rg.neg rfl rfl (by omega) ?_
            refine Rg.assign rfl rfl ?_
            refine Rg.nil ?_
            exact ⟨rfl, rfl, rfl, .cons rfl (.cons rfl (.cons rfl (.cons (by first | exact congrArg (fun z => some (Value.int .i64 z)) (if_pos c8).symm | exact congrArg (fun z => some (Value.int .i64 z)) (if_neg c8).symm) (.nil))))⟩
          · -- c8 False
            refine T.skip ?_
            exact ⟨rfl, rfl, rfl, .cons rfl (.cons rfl (.cons rfl (.cons (by first | exact congrArg (fun z => some (Value.int .i64 z)) (if_pos c8).symm | exact congrArg (fun z => some (Value.int .i64 z)) (if_neg c8).symm) (.nil))))⟩
        · -- joined
          refine T.seq ?_
          refine T.region ?_ -- region 10
          obtain ⟨n2, hn2, hn2b⟩ : ∃ n2 : Nat, (if n < 0 then -(n + 1) else n) = (n2 : Int) ∧ n2 ≤ 9223372036854775807 := ⟨(if n < 0 then -(n + 1) else n).toNat, by split <;> omega, by split <;> omega⟩
          rw [hn2]
          refine Rg.move rfl rfl ?_
          refine Rg.imod rfl rfl rfl (by omega) ?_
          obtain ⟨m, hm, hm15⟩ : ∃ m : Nat, (n2 : Int) % 15 = (m : Int) ∧ m < 15 := ⟨n2 % 15, by omega, by omega⟩
          rw [hm]
          refine Rg.assign rfl rfl ?_
          refine Rg.nil ?_
          refine T.seq ?_
          refine T.region ?_ -- region 11
          have hl5 := Own.close (hn := by decide) hM S ho5 (by simp; omega)
          have hl6 := Own.close (hn := by decide) hM S ho6 (by simp; omega)
          have hM1' := hM1
          replace hM1 : Lt M w1 := S.back.lt hM
          replace S := S.back
          have htake : l.take k = l.take 5 := by rcases Nat.lt_or_ge k 5 with h | h; (rw [List.take_of_length_le (by omega), List.take_of_length_le (by omega)]); (rw [show k = 5 from by omega])
          rw [htake] at hl5 hl6
          clear ho5 ho6 hap
          refine Rg.move rfl rfl ?_
          refine Rg.move rfl rfl ?_
          refine Rg.sln (A := (((RT.int .i64).sl).sl)) (hn := by decide) (M := M) (xs := [ownL l, goodLL l]) Try.underlying25 I22 rfl (by decide) rfl ⟨_, _, _, rfl, rfl, rfl, hl5, _, _, _, rfl, rfl, rfl, hl6, rfl⟩ rfl hM1 (.inr ⟨rfl, rfl⟩) (by decide) (fun u8 w8 hu8 s8 => ?_)
          have S8 := S.trans0 s8
          refine Rg.assign rfl rfl ?_
          refine Rg.nil ?_
          refine T.seq ?_
          refine T.seq ?_
          refine T.region ?_ -- region 12
          refine Rg.assign rfl rfl ?_
          refine Rg.nil ?_
          refine T.block ?_
          refine T.loop (σ := Nat) (fun s => [(1, .int .i64 m), (8, u8), (9, .int .i64 s)]) (fun s w => s ≤ 2 ∧ Step M w0 M w none' ∧ Step M w8 M w none') (fun s => 2 - s) 0 (.cons rfl (.cons rfl (.cons rfl .nil))) ?_ ?_ -- loop 1
          · exact ⟨Nat.zero_le _, S8, Step.refl _ _⟩
          · rintro q w2 ⟨hq, S2, S2'⟩
            refine T.seq ?_
            refine T.seq ?_
            refine T.region ?_ -- region 13
            refine Rg.move rfl rfl ?_
            refine Rg.ilt rfl rfl rfl ?_
            refine Rg.nil ?_
            refine T.ifp rfl (fun c13 => ?_) (fun c13 => ?_)
            · -- c13 True
              refine T.skip ?_
              refine T.seq ?_
              refine T.block ?_
              refine T.seq ?_
              refine T.region ?_ -- region 15
              obtain ⟨ls, hls⟩ : ∃ x, [ownL l, goodLL l][q]? = some x := ⟨_, List.getElem?_eq_getElem (by simp; omega)⟩
              have hlc := lists_ok hls
              refine Rg.move rfl rfl ?_
              refine Rg.move rfl rfl ?_

              refine Rg.idx (M := M) Try.underlying25 I22 rfl rfl rfl ((hu8.le S2'.le)) (Le.refl _ _) (by simp; omega) (fun u15_2 a15_2 hg15_2 hu15_2 => ?_)
              obtain rfl : ls = a15_2 := Eq.symm (Option.some.inj (hg15_2.symm.trans (by rw [Int.toNat_natCast]; exact hls)))
              refine Rg.load (M := M) Try.underlying22 rfl rfl rfl rfl rfl (by assumption) (by repeat (first | exact Le.refl _ _ | refine Le.trans (Step.le (by assumption)) ?_)) (fun v15_3 hv15_3 => ?_)
              replace hv15_3 : ((((RT.int .i64).sl).sl)).V M _ ls v15_3 := hv15_3
              refine Rg.call rfl rfl E5 (mOrder_spec (S2.lt hM) hv15_3 (by omega) (fun x hx => by have := hlc.2 x hx; omega) (by have := tot_le hlc.1 hlc.2; omega)) (fun ra wa h => ?_)
              obtain ⟨⟨va, e, rfl, ha⟩, sa⟩ := h
              have Sa := S2.trans0 sa
              refine Rg.move rfl rfl ?_
              refine Rg.extract rfl rfl rfl ?_
              refine Rg.extract rfl rfl rfl ?_
              refine Rg.assign rfl rfl ?_
              refine Rg.assign rfl rfl ?_
              refine Rg.nil ?_
              refine T.seq ?_
              refine T.region ?_ -- region 16
              refine Rg.move rfl rfl ?_
              refine Rg.move rfl rfl ?_

              refine Rg.idx (M := M) Try.underlying25 I22 rfl rfl rfl (((hu8.le S2'.le).le sa.le)) (Le.refl _ _) (by simp; omega) (fun u16_2 a16_2 hg16_2 hu16_2 => ?_)
              obtain rfl : ls = a16_2 := Eq.symm (Option.some.inj (hg16_2.symm.trans (by rw [Int.toNat_natCast]; exact hls)))
              refine Rg.load (M := M) Try.underlying22 rfl rfl rfl rfl rfl (by assumption) (by repeat (first | exact Le.refl _ _ | refine Le.trans (Step.le (by assumption)) ?_)) (fun v16_3 hv16_3 => ?_)
              replace hv16_3 : ((((RT.int .i64).sl).sl)).V M _ ls v16_3 := hv16_3
              refine Rg.call rfl rfl E6 (rOrder_spec (Sa.lt hM) hv16_3 (by omega) (fun x hx => by have := hlc.2 x hx; omega) (by have := tot_le hlc.1 hlc.2; omega)) (fun rb wb h => ?_)
              obtain ⟨⟨vb, f, rfl, hb⟩, sb⟩ := h
              have Sb := Sa.trans0 sb
              obtain ⟨rfl, her, o, hoa, hob, hond⟩ := OrdR.both ha hb
              replace hoa := hoa.le sb.le
              have hol := V_sl_len hoa
              refine Rg.move rfl rfl ?_
              refine Rg.extract rfl rfl rfl ?_
              refine Rg.extract rfl rfl rfl ?_
              refine Rg.assign rfl rfl ?_
              refine Rg.assign rfl rfl ?_
              refine Rg.nil ?_
              refine T.seq ?_
              refine T.seq ?_
              refine T.region ?_ -- region 17
              refine Rg.move rfl rfl ?_
              refine Rg.lensl Try.underlying26 rfl hoa rfl ?_
              refine Rg.move rfl rfl ?_
              refine Rg.lensl Try.underlying26 rfl hob rfl ?_
              refine Rg.ine rfl rfl rfl ?_
              refine Rg.move rfl rfl ?_
              refine Rg.gfalse (g := 85) rfl ((fun h => h rfl)) ?_
              refine Rg.gyes rfl rfl ?_
              refine Rg.move rfl rfl ?_
              refine Rg.gyes rfl rfl ?_
              refine Rg.move rfl rfl ?_
              refine Rg.gyes rfl rfl ?_
              refine Rg.ine rfl rfl rfl ?_
              refine Rg.pickf rfl rfl rfl ?_
              refine Rg.nil ?_
              refine T.iffp rfl ((fun h => h rfl)) ?_
              refine T.skip ?_
              refine T.seq ?_
              refine T.seq ?_
              refine T.region ?_ -- region 19
              refine Rg.assign rfl rfl ?_
              refine Rg.nil ?_
              refine T.block ?_
              refine T.loop (σ := Nat) (fun s => [(1, .int .i64 m), (8, u8), (9, .int .i64 q), (10, va), (12, vb), (14, .int .i64 s)]) (fun s w => s ≤ o.length ∧ Step M w0 M w none' ∧ Step M wb M w none') (fun s => o.length - s) 0 (.cons rfl (.cons rfl (.cons rfl (.cons rfl (.cons rfl (.cons rfl .nil)))))) ?_ ?_ -- loop 2
              · exact ⟨Nat.zero_le _, Sb, Step.refl _ _⟩
              · rintro j w3 ⟨hj, S3, S3b⟩
                refine T.seq ?_
                refine T.seq ?_
                refine T.region ?_ -- region 20
                refine Rg.move rfl rfl ?_
                refine Rg.move rfl rfl ?_
                refine Rg.lensl Try.underlying26 rfl (hoa.le S3b.le) rfl ?_
                refine Rg.ilt rfl rfl rfl ?_
                refine Rg.nil ?_
                refine T.ifp rfl (fun c20 => ?_) (fun c20 => ?_)
                · -- c20 True
                  refine T.skip ?_
                  refine T.seq ?_
                  refine T.block ?_
                  refine T.seq ?_
                  apply T.drawQ0 mixed rfl rfl -- region 22
                  intro wD22 sA22
                  have sD22 := sA22 M
                  obtain ⟨⟨x1, x2⟩, hx⟩ : ∃ x, o[j]? = some x := ⟨_, List.getElem?_eq_getElem (by omega)⟩
                  refine Rg.move rfl rfl ?_
                  refine Rg.nil ⟨rfl, rfl, rfl, ?_⟩
                  refine Rg.move rfl rfl ?_
                  refine Rg.nil ⟨rfl, rfl, rfl, ?_⟩

                  refine Rg.idx (M := M) Try.underlying26 I30 rfl rfl rfl ((hoa.le S3b.le).le sD22.le) (Le.refl _ _) (by first | omega | decide) (fun u22_2 a22_2 hg22_2 hu22_2 => ?_)
                  obtain rfl : (x1, x2) = a22_2 := Eq.symm (Option.some.inj (hg22_2.symm.trans (by rw [Int.toNat_natCast]; exact hx)))
                  refine Rg.nil ⟨rfl, rfl, rfl, ?_⟩
                  refine Rg.loadagg (M := M) (A := RT.fo) Try.underlying30 rfl I30 (by decide) rfl rfl rfl (by assumption) (Le.refl _ _) (fun va_ hva_ => ?_)
                  obtain ⟨rfl, _, _⟩ := fo_val2 hva_
                  refine Rg.nil ⟨rfl, rfl, rfl, ?_⟩
                  refine Rg.move rfl rfl ?_
                  refine Rg.nil ⟨rfl, rfl, rfl, ?_⟩
                  refine Rg.move rfl rfl ?_
                  refine Rg.nil ⟨rfl, rfl, rfl, ?_⟩

                  refine Rg.idx (M := M) Try.underlying26 I30 rfl rfl rfl ((hob.le S3b.le).le sD22.le) (Le.refl _ _) (by first | omega | decide) (fun u22_6 a22_6 hg22_6 hu22_6 => ?_)
                  obtain rfl : (x1, x2) = a22_6 := Eq.symm (Option.some.inj (hg22_6.symm.trans (by rw [Int.toNat_natCast]; exact hx)))
                  refine Rg.nil ⟨rfl, rfl, rfl, ?_⟩
                  refine Rg.loadagg (M := M) (A := RT.fo) Try.underlying30 rfl I30 (by decide) rfl rfl rfl (by assumption) (Le.refl _ _) (fun va_ hva_ => ?_)
                  obtain ⟨rfl, _, _⟩ := fo_val2 hva_
                  refine Rg.nil ⟨rfl, rfl, rfl, ?_⟩
                  refine Rg.arrneT Try.underlying30 Try.underlying3 I3 (by kernel_rfl) (by kernel_rfl) rfl rfl rfl ?_
                  refine Rg.nil ⟨rfl, rfl, rfl, ?_⟩
                  refine QRg.nil ?_
                  refine T.iffp rfl ((fun h => h rfl)) ?_
                  refine T.skip ?_
                  refine T.region ?_ -- region 21
                  refine Rg.move rfl rfl ?_
                  refine Rg.iadd rfl rfl rfl (by omega) ?_
                  refine Rg.assign rfl rfl ?_
                  refine Rg.nil ?_
                  refine ⟨rfl, j + 1, (.cons rfl (.cons rfl (.cons rfl (.cons rfl (.cons rfl (.cons rfl .nil)))))), ?_, ?_⟩
                  · exact ⟨by omega, S3.trans0 sD22, S3b.trans0 sD22⟩
                  · show o.length - (j + 1) < o.length - j; omega
                · -- c20 False
                  refine T.exit ?_
                  refine T.seq ?_
                  refine T.region ?_ -- region 24
                  refine Rg.assign rfl rfl ?_
                  refine Rg.nil ?_
                  refine T.block ?_
                  refine T.loop (σ := Nat) (fun s => [(1, .int .i64 m), (8, u8), (9, .int .i64 q), (12, vb), (15, .int .i64 ((s : Int) - 1))]) (fun s w => s ≤ ls.length + 2 ∧ Step M w0 M w none' ∧ Step M wb M w none') (fun s => ls.length + 2 - s) 0 (.cons rfl (.cons rfl (.cons rfl (.cons rfl (.cons rfl .nil))))) ?_ ?_ -- loop 3
                  · exact ⟨Nat.zero_le _, S3, S3b⟩
                  · clear S3 S3b
                    rintro t w4 ⟨ht, S4, S4b⟩
                    refine T.seq ?_
                    refine T.seq ?_
                    refine T.region ?_ -- region 25
                    refine Rg.move rfl rfl ?_
                    refine Rg.move rfl rfl ?_
                    refine Rg.move rfl rfl ?_

                    refine Rg.idx (M := M) Try.underlying25 I22 rfl rfl rfl ((((hu8.le S2'.le).le sa.le).le sb.le).le S4b.le) (Le.refl _ _) (by simp; omega) (fun u25_3 a25_3 hg25_3 hu25_3 => ?_)
                    obtain rfl : ls = a25_3 := Eq.symm (Option.some.inj (hg25_3.symm.trans (by rw [Int.toNat_natCast]; exact hls)))
                    refine Rg.load (M := M) Try.underlying22 rfl rfl rfl rfl rfl (by assumption) (by repeat (first | exact Le.refl _ _ | refine Le.trans (Step.le (by assumption)) ?_)) (fun v25_4 hv25_4 => ?_)
                    replace hv25_4 : ((((RT.int .i64).sl).sl)).V M _ ls v25_4 := hv25_4
                    refine Rg.lensl Try.underlying22 rfl hv25_4 rfl ?_
                    refine Rg.ile rfl rfl rfl ?_
                    refine Rg.nil ?_
                    refine T.ifp rfl (fun c25 => ?_) (fun c25 => ?_)
                    · -- c25 True
                      refine T.skip ?_
                      refine T.seq ?_
                      refine T.block ?_
                      refine T.seq ?_
                      refine T.region ?_ -- region 27
                      refine Rg.move rfl rfl ?_
                      refine Rg.move rfl rfl ?_
                      refine Rg.move rfl rfl ?_
                      refine Rg.call rfl rfl E7 (Places_spec (i := (t : Int) - 1) (n := m) (S4.lt hM) (hob.le S4b.le) (by omega)) (fun vp w5 h => ?_)
                      obtain ⟨Mp, xs, hpl, hop, hMp, sp⟩ := h
                      have hp := Own.close (hn := by decide) (S4.lt hM) sp hop (by rw [hpl.1]; omega)
                      have S5 := S4.trans0 sp.back
                      have S5b := S4b.trans0 sp.back
                      clear hop
                      refine Rg.assign rfl rfl ?_
                      refine Rg.nil ?_
                      refine T.seq ?_
                      refine T.seq ?_
                      refine T.region ?_ -- region 28
                      refine Rg.move rfl rfl ?_
                      refine Rg.lensl Try.underlying23 rfl hp rfl ?_
                      refine Rg.move rfl rfl ?_
                      refine Rg.ine rfl rfl rfl ?_
                      refine Rg.nil ?_
                      refine T.iffp rfl ((fun h => h (by rw [hpl.1]))) ?_
                      refine T.skip ?_
                      refine T.seq ?_
                      refine T.region ?_ -- region 30
                      refine Rg.assign rfl rfl ?_
                      refine Rg.nil ?_
                      refine T.block ?_
                      refine T.loop (σ := Nat) (fun s => [(1, .int .i64 m), (8, u8), (9, .int .i64 q), (12, vb), (15, .int .i64 ((t : Int) - 1)), (16, vp), (17, .int .i64 s)]) (fun s w => s ≤ m ∧ Step M w0 M w none' ∧ Step M wb M w none' ∧ Step M w5 M w none') (fun s => m - s) 0 (.cons rfl (.cons rfl (.cons rfl (.cons rfl (.cons rfl (.cons rfl (.cons rfl .nil))))))) ?_ ?_ -- loop 4
                      · exact ⟨Nat.zero_le _, S5, S5b, Step.refl _ _⟩
                      · clear S5 S5b
                        rintro j2 w6 ⟨hj2, S5, S5b, S5p⟩
                        have hoc := hob.le S5b.le
                        have hpc := hp.le S5p.le
                        refine T.seq ?_
                        refine T.seq ?_
                        refine T.region ?_ -- region 31
                        refine Rg.move rfl rfl ?_
                        refine Rg.move rfl rfl ?_
                        refine Rg.ilt rfl rfl rfl ?_
                        refine Rg.nil ?_
                        refine T.ifp rfl (fun c31 => ?_) (fun c31 => ?_)
                        · -- c31 True
                          refine T.skip ?_
                          refine T.seq ?_
                          refine T.block ?_
                          refine T.seq ?_
                          apply T.drawF 7 [0, 1, 2, 3] none' mixed rfl rfl rfl rfl -- region 33
                          intro wD33 sA33
                          have sD33 := sA33 M
                          obtain ⟨x, hx⟩ : ∃ x, xs[j2]? = some x := ⟨_, List.getElem?_eq_getElem (by rw [hpl.1]; omega)⟩
                          have hxl := hpl.1
                          refine Rg.move rfl rfl ?_
                          refine Rg.nil ⟨rfl, rfl, rfl, ?_⟩
                          refine Rg.move rfl rfl ?_
                          refine Rg.nil ⟨rfl, rfl, rfl, ?_⟩

                          refine Rg.idx (M := M) Try.underlying23 I3 rfl rfl rfl (hpc.le sD33.le) (Le.refl _ _) (by first | omega | decide) (fun u33_2 a33_2 hg33_2 hu33_2 => ?_)
                          obtain rfl : x = a33_2 := Eq.symm (Option.some.inj (hg33_2.symm.trans (by rw [Int.toNat_natCast]; exact hx)))
                          refine Rg.nil ⟨rfl, rfl, rfl, ?_⟩
                          refine Rg.loadi64 (M := M) Try.underlying3 rfl rfl (by assumption) (by repeat (first | exact Le.refl _ _ | refine Le.trans (Step.le (by assumption)) ?_)) (fun in33_3 => ?_)
                          refine Rg.eqv (v' := .int .i64 (x)) rfl ?_
                          replace in33_3 : -9223372036854775808 ≤ (x : Int) ∧ x ≤ 9223372036854775807 := in33_3
                          refine Rg.nil ⟨rfl, rfl, rfl, ?_⟩
                          refine Rg.move rfl rfl ?_
                          refine Rg.nil ⟨rfl, rfl, rfl, ?_⟩
                          refine Rg.move rfl rfl ?_
                          refine Rg.nil ⟨rfl, rfl, rfl, ?_⟩
                          refine Rg.move rfl rfl ?_
                          refine Rg.nil ⟨rfl, rfl, rfl, ?_⟩
                          refine QRg.nil ?_
                          obtain ⟨bb, oo, cs, ee, fr, rfl, hcell, _⟩ := hu33_2.float
                          refine ⟨Floats.all ⟨FloatOk.move, ⟨FloatOk.move, ⟨FloatOk.idx, ⟨FloatOk.load rfl hcell (fun h => h), trivial⟩⟩⟩⟩, ?_⟩
                          have kp := Keep.refl none' wD33
                          refine Rg.call rfl rfl E8 (Place11_spec (M := M) (sD33.lt (S5.lt hM)) (hoc.le sD33.le)) (fun r7 w7 h => ?_)
                          obtain ⟨r, rfl, hr33, s33⟩ := h
                          refine (fun (kp : Keep _ _ _) => Rg.nil ⟨rfl, rfl, kp, ?_⟩) (by first | exact kp | exact kp.go0 (by assumption) | exact kp.goN (by assumption) | exact kp.go (by assumption) (fun _ _ h => by first | exact h | exact h.elim))
                          refine Rg.ine rfl rfl rfl ?_
                          refine (fun (kp : Keep _ _ _) => Rg.nil ⟨rfl, rfl, kp, ?_⟩) (by first | exact kp | exact kp.go0 (by assumption) | exact kp.goN (by assumption) | exact kp.go (by assumption) (fun _ _ h => by first | exact h | exact h.elim))
                          refine TRg.nil ?_
                          refine T.iffp rfl ((fun h => h ((hpl.2 j2 (by omega)) |> fun h1 => by rw [getD_of hx] at h1; exact PlaceR.un hond h1 hr33))) ?_
                          refine T.skip ?_
                          refine T.region ?_ -- region 32
                          refine Rg.move rfl rfl ?_
                          refine Rg.iadd rfl rfl rfl (by omega) ?_
                          refine Rg.assign rfl rfl ?_
                          refine Rg.nil ?_
                          refine ⟨rfl, j2 + 1, (.cons rfl (.cons rfl (.cons rfl (.cons rfl (.cons rfl (.cons rfl (.cons rfl .nil))))))), ?_, ?_⟩
                          · exact ⟨by omega, (S5.trans0 sD33).trans0 s33, (S5b.trans0 sD33).trans0 s33, (S5p.trans0 sD33).trans0 s33⟩
                          · show m - (j2 + 1) < m - j2; omega
                        · -- c31 False
                          refine T.exit ?_
                          refine T.region ?_ -- region 26
                          refine Rg.move rfl rfl ?_
                          refine Rg.iadd rfl rfl rfl (by omega) ?_
                          refine Rg.assign rfl rfl ?_
                          refine Rg.nil ?_
                          refine ⟨rfl, t + 1, (.cons rfl (.cons rfl (.cons rfl (.cons rfl (.cons (congrArg (fun z => some (Value.int .i64 z)) (by omega)) .nil))))), ?_, ?_⟩
                          · exact ⟨by omega, S5, S5b⟩
                          · show ls.length + 2 - (t + 1) < ls.length + 2 - t; omega
                    · -- c25 False
                      refine T.exit ?_
                      refine T.region ?_ -- region 14
                      refine Rg.move rfl rfl ?_
                      refine Rg.iadd rfl rfl rfl (by omega) ?_
                      refine Rg.assign rfl rfl ?_
                      refine Rg.nil ?_
                      refine ⟨rfl, q + 1, (.cons rfl (.cons rfl (.cons rfl .nil))), ?_, ?_⟩
                      · exact ⟨by omega, S4, ((S2'.trans0 sa).trans0 sb).trans0 S4b⟩
                      · show 2 - (q + 1) < 2 - q; omega
            · -- c13 False
              refine T.exit ?_
              refine T.seq ?_
              refine T.region ?_ -- region 35
              refine Rg.call rfl rfl E9 (lives11_spec (M := M) (S2.lt hM)) (fun rL wL h => ?_)
              obtain ⟨rfl, sL⟩ := h
              refine Rg.assign rfl rfl ?_
              refine Rg.nil ?_
              refine T.ret ?_
              exact Kret1 rfl rfl ⟨rfl, S2.trans0 sL⟩

end Go.K

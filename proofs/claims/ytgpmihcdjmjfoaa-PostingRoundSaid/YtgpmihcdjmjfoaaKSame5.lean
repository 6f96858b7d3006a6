/- The walks of Go functions, operation by operation. -/
import Derived.Test.YtgpmihcdjmjfoaaKTypes
import Derived.Test.YtgpmihcdjmjfoaaKNum
import Derived.Test.YtgpmihcdjmjfoaaKPost
import Derived.Test.YtgpmihcdjmjfoaaKDraw
import Derived.Test.YtgpmihcdjmjfoaaKRef04
import Derived.Test.YtgpmihcdjmjfoaaKPosting
import Derived.Test.YtgpmihcdjmjfoaaKRef05
import Derived.Test.YtgpmihcdjmjfoaaKAll5
import Derived.Test.YtgpmihcdjmjfoaaKMake2
import Derived.Test.YtgpmihcdjmjfoaaKLaw05
import Derived.Test.YtgpmihcdjmjfoaaProg
import Derived.KernelRfl
namespace Go.K
open Go.Proofs
namespace TKSame5
theorem I23 : TI Try.prog 23 (.slice none 0 0) 1 24 := by unfold TI; kernel_rfl -- []int
theorem I37 : TI Try.prog 37 (.agg #[(.int .i64 0), (.slice none 0 0)]) 2 32 := by unfold TI; kernel_rfl -- api.Posting
theorem E20 : Enters Try.prog 20 := enters Try.func20 rfl (by decide) -- (*concordance/posting.List).Blocks
theorem E21 : Enters Try.prog 21 := enters Try.func21 rfl (by decide) -- (*concordance/posting.List).Block
theorem E22 : Enters Try.prog 22 := enters Try.func22 rfl (by decide) -- (*concordance/posting.List).Last
theorem E25 : Enters Try.prog 25 := enters Try.func25 rfl (by decide) -- (*concordance/posting.List).Len
theorem E36 : Enters Try.prog 36 := enters Try.func36 rfl (by decide) -- concordance/concordanceref05.Bytes
theorem E55 : Enters Try.prog 55 := enters Try.func55 rfl (by decide) -- (*concordance/posting.List).Bytes
theorem E58 : Enters Try.prog 58 := enters Try.func58 rfl (by decide) -- concordance/concordanceref05.Blocks
theorem E59 : Enters Try.prog 59 := enters Try.func59 rfl (by decide) -- (*concordance/posting.List).Total
theorem E60 : Enters Try.prog 60 := enters Try.func60 rfl (by decide) -- concordance/concordanceref05.Block
theorem E61 : Enters Try.prog 61 := enters Try.func61 rfl (by decide) -- concordance/concordanceref05.Same
theorem E62 : Enters Try.prog 62 := enters Try.func62 rfl (by decide) -- (*concordance/posting.List).All
theorem E65 : Enters Try.prog 65 := enters Try.func65 rfl (by decide) -- concordance/concordanceref04.Put
theorem E66 : Enters Try.prog 66 := enters Try.func66 rfl (by decide) -- concordance/concordanceref04.PutRising
end TKSame5
open TKSame5
set_option linter.unusedVariables false
set_option linter.unusedSimpArgs false
set_option maxRecDepth 10000

/-- 'concordance/concordanceref05.Bytes' -/
theorem rBytes5_spec {M : PSet} {w0 : World} {v : Value} {l : List Po} (hM : Lt M w0) (hv : ((RT.po).sl).V M w0 l v) (hmay : mayPo (-1) l = true) (hps : ∀ p ∈ l, p.2.length ≤ 1099511627776) (hbl : (putPo (-1) l).length ≤ 35184372088832) :
    Spec Try.prog 36 #[v] w0 (fun v' w' => Step M w0 M w' none' ∧ (RT.u8.sl).V M w' (putPo (-1) l) v') := by
  have hlen := V_sl_len hv
  refine spec_of (args := [v]) (fn := Try.f36) Try.func36 rfl (n := 41) Try.ntmps36 ?_
  refine T.seq ?_
  refine T.region ?_ -- region 0
  refine Rg.assign rfl rfl ?_
  refine Rg.nil ?_
  refine T.seq ?_
  refine T.region ?_ -- region 1
  refine Rg.assign rfl rfl ?_
  refine Rg.nil ?_
  refine T.seq ?_
  refine T.seq ?_
  refine T.region ?_ -- region 2
  refine Rg.assign rfl rfl ?_
  refine Rg.nil ?_
  refine T.block ?_
  refine T.loop (σ := Nat × Value) (fun s => [(0, v), (3, s.2), (4, .int .i64 s.1)]) (fun s w => s.1 ≤ l.length ∧ ∃ M1, Lt M1 w ∧ Step M w0 M1 w none' ∧ Own RT.u8 5 M1 w w0.heap.size s.2 (putPo (-1) (l.take s.1))) (fun s => l.length - s.1) (0, _) (.cons rfl (.cons rfl (.cons rfl .nil))) ?_ ?_ -- loop 0
  · exact ⟨Nat.zero_le _, M, hM, Step.refl _ _, Own.nil _ _ _ _ _⟩
  · rintro ⟨k, u0⟩ w1 ⟨hk, M1, hM1, S, ho⟩
    dsimp only at hk ho ⊢
    refine T.seq ?_
    refine T.seq ?_
    refine T.region ?_ -- region 3
    refine Rg.move rfl rfl ?_
    refine Rg.move rfl rfl ?_
    refine Rg.lensl Try.underlying28 rfl hv rfl ?_
    refine Rg.ilt rfl rfl rfl ?_
    refine Rg.nil ?_
    refine T.ifp rfl (fun c3 => ?_) (fun c3 => ?_)
    · -- c3 True
      refine T.skip ?_
      refine T.seq ?_
      refine T.block ?_
      refine T.seq ?_
      refine T.region ?_ -- region 5
      refine Rg.move rfl rfl ?_
      refine Rg.move rfl rfl ?_
      obtain ⟨⟨d, ps⟩, hx⟩ : ∃ x, (l)[k]? = some x := ⟨_, List.getElem?_eq_getElem (by omega)⟩
      refine Rg.idx (M := M1) Try.underlying28 I37 rfl rfl rfl (hv.le S.le) (Le.refl _ _) (by omega) (fun u5_2 a5_2 hg5_2 hu5_2 => ?_)
      obtain rfl : (d, ps) = a5_2 := Eq.symm (Option.some.inj (hg5_2.symm.trans (by simpa using hx)))
      obtain ⟨f1, f2, f3, f4, f5, f6⟩ := may_at hmay hx
      have e2 := congrArg List.length (putPo_take (-1) hx)
      simp only [List.length_append] at e2
      have e3 := putPo_take_le l (k + 1)
      have b7 := (lastPo_rng l (-1) hmay (by decide) k).1
      refine Rg.fieldAddr (M := M1) (A := RT.po) (B := RT.int .i64) Try.underlying37 rfl rfl I3 (by decide) (po0) rfl rfl (by decide) (by assumption) (by repeat (first | exact Le.refl _ _ | refine Le.trans (Step.le (by assumption)) ?_)) (fun u5_3 hu5_3 => ?_)
      refine Rg.loadi64 (M := M1) Try.underlying3 rfl rfl (by assumption) (by repeat (first | exact Le.refl _ _ | refine Le.trans (Step.le (by assumption)) ?_)) (fun in5_4 => ?_)
      refine Rg.eqv (v' := .int .i64 d) rfl ?_
      replace in5_4 : -9223372036854775808 ≤ (d : Int) ∧ d ≤ 9223372036854775807 := in5_4
      refine Rg.assign rfl rfl ?_
      refine Rg.nil ?_
      refine T.seq ?_
      refine T.seq ?_
      refine T.region ?_ -- region 6
      refine Rg.move rfl rfl ?_
      refine Rg.igt rfl rfl rfl ?_
      refine Rg.nil ?_
      refine T.ifp rfl (fun c6 => ?_) (fun c6 => ?_)
      · -- c6 True
        obtain ⟨⟨e, qs⟩, hy⟩ : ∃ x, l[k - 1]? = some x := ⟨_, List.getElem?_eq_getElem (by omega)⟩
        obtain ⟨_, b2, _, _, hla, b6⟩ := may_at hmay hy
        rw [show k - 1 + 1 = k from by omega] at hla
        refine T.region ?_ -- region 7
        refine Rg.move rfl rfl ?_
        refine Rg.move rfl rfl ?_
        refine Rg.move rfl rfl ?_
        refine Rg.isub rfl rfl rfl (by omega) ?_

        refine Rg.idx (M := M1) Try.underlying28 I37 rfl rfl rfl (hv.le S.le) (Le.refl _ _) (by omega) (fun u7_4 a7_4 hg7_4 hu7_4 => ?_)
        obtain rfl : (e, qs) = a7_4 := Eq.symm (Option.some.inj (hg7_4.symm.trans (by rw [show ((k : Int) - 1).toNat = k - 1 from by omega]; exact hy)))
        refine Rg.fieldAddr (M := M1) (A := RT.po) (B := RT.int .i64) Try.underlying37 rfl rfl I3 (by decide) (po0) rfl rfl (by decide) (by assumption) (by repeat (first | exact Le.refl _ _ | refine Le.trans (Step.le (by assumption)) ?_)) (fun u7_5 hu7_5 => ?_)
        refine Rg.loadi64 (M := M1) Try.underlying3 rfl rfl (by assumption) (by repeat (first | exact Le.refl _ _ | refine Le.trans (Step.le (by assumption)) ?_)) (fun in7_6 => ?_)
        refine Rg.eqv (v' := .int .i64 e) rfl ?_
        replace in7_6 : -9223372036854775808 ≤ (e : Int) ∧ e ≤ 9223372036854775807 := in7_6
        refine Rg.isub rfl rfl rfl (by omega) ?_
        refine Rg.isub rfl rfl rfl (by omega) ?_
        refine Rg.assign rfl rfl ?_
        refine Rg.nil ?_
        refine T.seq ?_
        refine T.region ?_ -- region 8
        refine Rg.move rfl rfl ?_
        refine Rg.move rfl rfl ?_
        refine Rg.eqv (v' := .int .i64 (((d - lastPo (-1) (l.take k) - 1).toNat : Nat) : Int)) (by congr 1; rw [hla] at f1 ⊢; omega) ?_
        refine Rg.call rfl rfl E65 (rPut_spec (M := M1) hM1 (by omega)) (fun u w2 h => ?_)
        obtain ⟨s2, hu⟩ := h
        refine Rg.append (M := M1) (base := w0.heap.size) Try.underlying48 I5 rfl rfl rfl rfl (ho.step0 s2) hu (Le.refl _ _) (by omega) (by omega) (Nat.le_trans S.size s2.size) (fun v3 M3 w3 ho3 s3 => ?_)
        have S3 := (S.trans0 s2).transBlk s3 (ho.step0 s2) (Nat.le_refl _)
        have hM3 := s3.lt (s2.lt hM1)
        refine Rg.assign rfl rfl ?_
        refine Rg.nil ?_
        refine T.region ?_ -- region 9
        refine Rg.move rfl rfl ?_
        refine Rg.move rfl rfl ?_
        refine Rg.move rfl rfl ?_

        refine Rg.idx (M := M3) Try.underlying28 I37 rfl rfl rfl (hv.le S3.le) (Le.refl _ _) (by omega) (fun u9_3 a9_3 hg9_3 hu9_3 => ?_)
        obtain rfl : (d, ps) = a9_3 := Eq.symm (Option.some.inj (hg9_3.symm.trans (by simpa using hx)))
        refine Rg.fieldAddr (M := M3) (A := RT.po) (B := (RT.int .i64).sl) Try.underlying37 rfl rfl I23 (by decide) (po1) rfl rfl (by decide) (by assumption) (by repeat (first | exact Le.refl _ _ | refine Le.trans (Step.le (by assumption)) ?_)) (fun u9_4 hu9_4 => ?_)
        refine Rg.load (M := M3) Try.underlying23 rfl rfl rfl rfl rfl (by assumption) (by repeat (first | exact Le.refl _ _ | refine Le.trans (Step.le (by assumption)) ?_)) (fun v9_5 hv9_5 => ?_)
        replace hv9_5 : ((RT.int .i64).sl).V M3 _ ps v9_5 := hv9_5
        refine Rg.call rfl rfl E66 (rPutRising_spec (M := M3) hM3 hv9_5 (risesB_iff.1 f4).1 (hps _ (List.mem_of_getElem? hx))) (fun u4 w4 h => ?_)
        obtain ⟨s4, hu4⟩ := h
        refine Rg.append (M := M3) (base := w0.heap.size) Try.underlying48 I5 rfl rfl rfl rfl (ho3.step0 s4) hu4 (Le.refl _ _) (by simp only [List.length_append]; omega) (by simp only [List.length_append]; omega) (Nat.le_trans S3.size s4.size) (fun v5 M5 w5 ho5 s5 => ?_)
        have S5 := (S3.trans0 s4).transBlk s5 (ho3.step0 s4) (Nat.le_refl _)
        have hM5 := s5.lt (s4.lt hM3)
        refine Rg.assign rfl rfl ?_
        refine Rg.nil ?_
        refine T.region ?_ -- region 4
        refine Rg.move rfl rfl ?_
        refine Rg.iadd rfl rfl rfl (by omega) ?_
        refine Rg.assign rfl rfl ?_
        refine Rg.nil ?_
        refine ⟨rfl, (k + 1, v5), (.cons rfl (.cons rfl (.cons rfl .nil))), ?_, ?_⟩
        · refine ⟨by simp only; omega, M5, hM5, S5, ?_⟩
          simp only
          rw [putPo_take (-1) hx]
          exact ho5
        · simp only; omega
      · -- c6 False
        have hla : lastPo (-1) (l.take k) = -1 := by rw [show k = 0 from by omega]; rfl
        refine T.skip ?_
        refine T.seq ?_
        refine T.region ?_ -- region 8
        refine Rg.move rfl rfl ?_
        refine Rg.move rfl rfl ?_
        refine Rg.eqv (v' := .int .i64 (((d - lastPo (-1) (l.take k) - 1).toNat : Nat) : Int)) (by congr 1; rw [hla] at f1 ⊢; omega) ?_
        refine Rg.call rfl rfl E65 (rPut_spec (M := M1) hM1 (by omega)) (fun u w2 h => ?_)
        obtain ⟨s2, hu⟩ := h
        refine Rg.append (M := M1) (base := w0.heap.size) Try.underlying48 I5 rfl rfl rfl rfl (ho.step0 s2) hu (Le.refl _ _) (by omega) (by omega) (Nat.le_trans S.size s2.size) (fun v3 M3 w3 ho3 s3 => ?_)
        have S3 := (S.trans0 s2).transBlk s3 (ho.step0 s2) (Nat.le_refl _)
        have hM3 := s3.lt (s2.lt hM1)
        refine Rg.assign rfl rfl ?_
        refine Rg.nil ?_
        refine T.region ?_ -- region 9
        refine Rg.move rfl rfl ?_
        refine Rg.move rfl rfl ?_
        refine Rg.move rfl rfl ?_

        refine Rg.idx (M := M3) Try.underlying28 I37 rfl rfl rfl (hv.le S3.le) (Le.refl _ _) (by omega) (fun u9_3 a9_3 hg9_3 hu9_3 => ?_)
        obtain rfl : (d, ps) = a9_3 := Eq.symm (Option.some.inj (hg9_3.symm.trans (by simpa using hx)))
        refine Rg.fieldAddr (M := M3) (A := RT.po) (B := (RT.int .i64).sl) Try.underlying37 rfl rfl I23 (by decide) (po1) rfl rfl (by decide) (by assumption) (by repeat (first | exact Le.refl _ _ | refine Le.trans (Step.le (by assumption)) ?_)) (fun u9_4 hu9_4 => ?_)
        refine Rg.load (M := M3) Try.underlying23 rfl rfl rfl rfl rfl (by assumption) (by repeat (first | exact Le.refl _ _ | refine Le.trans (Step.le (by assumption)) ?_)) (fun v9_5 hv9_5 => ?_)
        replace hv9_5 : ((RT.int .i64).sl).V M3 _ ps v9_5 := hv9_5
        refine Rg.call rfl rfl E66 (rPutRising_spec (M := M3) hM3 hv9_5 (risesB_iff.1 f4).1 (hps _ (List.mem_of_getElem? hx))) (fun u4 w4 h => ?_)
        obtain ⟨s4, hu4⟩ := h
        refine Rg.append (M := M3) (base := w0.heap.size) Try.underlying48 I5 rfl rfl rfl rfl (ho3.step0 s4) hu4 (Le.refl _ _) (by simp only [List.length_append]; omega) (by simp only [List.length_append]; omega) (Nat.le_trans S3.size s4.size) (fun v5 M5 w5 ho5 s5 => ?_)
        have S5 := (S3.trans0 s4).transBlk s5 (ho3.step0 s4) (Nat.le_refl _)
        have hM5 := s5.lt (s4.lt hM3)
        refine Rg.assign rfl rfl ?_
        refine Rg.nil ?_
        refine T.region ?_ -- region 4
        refine Rg.move rfl rfl ?_
        refine Rg.iadd rfl rfl rfl (by omega) ?_
        refine Rg.assign rfl rfl ?_
        refine Rg.nil ?_
        refine ⟨rfl, (k + 1, v5), (.cons rfl (.cons rfl (.cons rfl .nil))), ?_, ?_⟩
        · refine ⟨by simp only; omega, M5, hM5, S5, ?_⟩
          simp only
          rw [putPo_take (-1) hx]
          exact ho5
        · simp only; omega
    · -- c3 False
      refine T.exit ?_
      refine T.seq ?_
      refine T.region ?_ -- region 10
      refine Rg.move rfl rfl ?_
      refine Rg.assign rfl rfl ?_
      refine Rg.nil ?_
      refine T.ret ?_
      refine Kret1 rfl rfl ⟨S.back, ?_⟩
      rw [List.take_of_length_le (by omega)] at ho
      exact Own.close hM S ho (by omega)


theorem lastPo_get {g : List Po} {i : Nat} {d : Int} {ps : List Int} (h : g[i]? = some (d, ps)) (last : Int) : lastPo last (g.take (i + 1)) = d := by
  obtain ⟨h1, h2⟩ := List.getElem?_eq_some_iff.1 h
  rw [List.take_succ_eq_append_getElem h1, h2, lastPo_append]; rfl
theorem last_own {g own : List Po} {k d : Int} {ps : List Int} (hown : (if isB ((g.length + 7) / 8) k then (g.drop (8 * k.toNat)).take 8 else []) = own) (hx : own[own.length - 1]? = some (d, ps)) : lastB (mkLi g).2.1 k = d := by
  have hl := (List.getElem?_eq_some_iff.1 hx).1
  by_cases hb : isB ((g.length + 7) / 8) k = true
  · rw [if_pos hb] at hown
    obtain ⟨h1, h2⟩ := of_decide_eq_true hb
    obtain ⟨j, rfl⟩ : ∃ j : Nat, k = j := ⟨k.toNat, by omega⟩
    rw [Int.toNat_natCast] at hown
    rw [lastB_mk (by omega)]
    have hol : own.length = min 8 (g.length - 8 * j) := by rw [← hown, List.length_take, List.length_drop]
    rw [← hown, List.getElem?_take, if_pos (by rw [hown]; omega), List.getElem?_drop, hown] at hx
    rw [← lastPo_get hx (-1), show g.take (8 * j + 8) = g.take (8 * j + (own.length - 1) + 1) from by rw [List.take_eq_take_iff]; omega]
  · rw [if_neg hb] at hown
    rw [← hown] at hl; simp at hl
theorem last_none {g own : List Po} {k : Int} (hgm : mayPo (-1) g = true) (hown : (if isB ((g.length + 7) / 8) k then (g.drop (8 * k.toNat)).take 8 else []) = own) (h0 : own.length = 0) : lastB (mkLi g).2.1 k = -1 := by
  have hl : (mkLi g).2.1.length = (g.length + 7) / 8 := by simp [mkLi, blks]
  by_cases hb : isB ((g.length + 7) / 8) k = true
  · rw [if_pos hb] at hown
    obtain ⟨h1, h2⟩ := of_decide_eq_true hb
    rw [← hown, List.length_take, List.length_drop] at h0
    omega
  · unfold lastB
    rw [hl, if_neg hb]

set_option maxHeartbeats 1000000 in
/-- 'concordance/concordancelaw05.same' -/
theorem same5_spec {M : PSet} {w0 : World} {p u : Value} {g : List Po} (hM : Lt M w0) (hp : PtrTo RT.li M w0 p (mkLi g)) (hg : ((RT.po).sl).V M w0 g u) (hgm : mayPo (-1) g = true) (hps : ∀ p ∈ g, p.2.length ≤ 1099511627776) (hbl : (putPo (-1) g).length ≤ 1099511627776) (hll : g.length ≤ 1099511627776) (htot : totPo g ≤ 4611686018427387904) :
    Spec Try.prog 29 #[p, u] w0 (fun v' w' => v' = .bool true ∧ Step M w0 M w' none') := by
  have hnb : (mkLi g).2.1.length = (g.length + 7) / 8 := by simp [mkLi, blks]
  have hsn : sumN (mkLi g).2.1 = (g.length : Int) := by
    have : sumN (mkLi g).2.1 = ((min (8 * ((g.length + 7) / 8)) g.length : Nat) : Int) := sumN_blks g _
    omega
  refine spec_of (args := [p, u]) (fn := Try.f29) Try.func29 rfl (n := 91) Try.ntmps29 ?_
  refine T.seq ?_
  refine T.region ?_ -- region 0
  refine Rg.assign rfl rfl ?_
  refine Rg.nil ?_
  refine T.seq ?_
  refine T.seq ?_
  refine T.region ?_ -- region 1
  refine Rg.move rfl rfl ?_
  refine Rg.ptreqnil (v := p) Try.underlying30 rfl (PtrTo.isPtr hp) rfl rfl ?_
  refine Rg.eqv (v' := .bool (decide False)) rfl ?_
  refine Rg.nil ?_
  refine T.iffp rfl ((fun h => h)) ?_
  refine T.skip ?_
  refine T.seq ?_
  refine T.region ?_ -- region 3
  refine Rg.move rfl rfl ?_
  refine Rg.lensl Try.underlying28 rfl hg rfl ?_
  refine Rg.call rfl rfl E58 (rBlocks_spec (by omega)) (fun r wc h => ?_)
  obtain ⟨rfl, rfl⟩ := h
  refine Rg.assign rfl rfl ?_
  refine Rg.nil ?_
  refine T.seq ?_
  refine T.region ?_ -- region 4
  refine Rg.assign rfl rfl ?_
  refine Rg.nil ?_
  refine T.seq ?_
  refine T.seq ?_
  refine T.region ?_ -- region 5
  refine Rg.assign rfl rfl ?_
  refine Rg.nil ?_
  refine T.block ?_
  refine T.loop (σ := Nat) (fun s => [(0, p), (1, u), (5, .int .i64 (((g.length + 7) / 8 : Nat) : Int)), (6, .int .i64 (totPo (g.take s))), (7, .int .i64 s)]) (fun s w => s ≤ g.length ∧ Step M w0 M w none') (fun s => g.length - s) 0 (.cons rfl (.cons rfl (.cons rfl (.cons rfl (.cons rfl .nil))))) ?_ ?_ -- loop 0
  · exact ⟨Nat.zero_le _, Step.refl _ _⟩
  · rintro k w1 ⟨hk, S⟩
    refine T.seq ?_
    refine T.seq ?_
    refine T.region ?_ -- region 6
    refine Rg.move rfl rfl ?_
    refine Rg.move rfl rfl ?_
    refine Rg.lensl Try.underlying28 rfl hg rfl ?_
    refine Rg.ilt rfl rfl rfl ?_
    refine Rg.nil ?_
    refine T.ifp rfl (fun c6 => ?_) (fun c6 => ?_)
    · -- c6 True
      refine T.skip ?_
      refine T.seq ?_
      refine T.block ?_
      refine T.region ?_ -- region 8
      refine Rg.move rfl rfl ?_
      refine Rg.move rfl rfl ?_
      refine Rg.move rfl rfl ?_
      obtain ⟨⟨d, ps⟩, hx⟩ : ∃ x, (g)[k]? = some x := ⟨_, List.getElem?_eq_getElem (by omega)⟩
      refine Rg.idx (M := M) Try.underlying28 I37 rfl rfl rfl (hg.le S.le) (Le.refl _ _) (by omega) (fun u8_3 a8_3 hg8_3 hu8_3 => ?_)
      obtain rfl : (d, ps) = a8_3 := Eq.symm (Option.some.inj (hg8_3.symm.trans (by simpa using hx)))
      refine Rg.fieldAddr (M := M) (A := RT.po) (B := (RT.int .i64).sl) Try.underlying37 rfl rfl I23 (by decide) (po1) rfl rfl (by decide) (by assumption) (by repeat (first | exact Le.refl _ _ | refine Le.trans (Step.le (by assumption)) ?_)) (fun u8_4 hu8_4 => ?_)
      refine Rg.load (M := M) Try.underlying23 rfl rfl rfl rfl rfl (by assumption) (by repeat (first | exact Le.refl _ _ | refine Le.trans (Step.le (by assumption)) ?_)) (fun v8_5 hv8_5 => ?_)
      replace hv8_5 : ((RT.int .i64).sl).V M _ ps v8_5 := hv8_5
      refine Rg.lensl Try.underlying23 rfl hv8_5 rfl ?_
      have ht := totPo_take hx
      have ht2 := totPo_le g (k + 1)
      have ht0 := totPo_le g k
      refine Rg.iadd rfl rfl rfl (by omega) ?_
      refine Rg.assign rfl rfl ?_
      refine Rg.nil ?_
      refine T.region ?_ -- region 7
      refine Rg.move rfl rfl ?_
      refine Rg.iadd rfl rfl rfl (by omega) ?_
      refine Rg.assign rfl rfl ?_
      refine Rg.nil ?_
      refine ⟨rfl, k + 1, (.cons rfl (.cons rfl (.cons rfl (.cons (by rw [ht]; rfl) (.cons rfl .nil))))), ?_, ?_⟩
      · exact ⟨by omega, S⟩
      · show _ - (k + 1) < _ - k; omega
    · -- c6 False
      refine T.exit ?_
      refine T.seq ?_
      refine T.seq ?_
      rw [show k = g.length from by omega, List.take_length]
      by_cases g9_5 : ¬ (g.length : Int) = (g.length : Int)
      · -- g9_5 True
        exact absurd rfl g9_5
      · -- g9_5 False
        by_cases g9_11 : ¬ (((g.length + 7) / 8 : Nat) : Int) = (((g.length + 7) / 8 : Nat) : Int)
        · -- g9_11 True
          exact absurd rfl g9_11
        · -- g9_11 False
          by_cases g9_17 : ¬ totPo g = totPo g
          · -- g9_17 True
            exact absurd rfl g9_17
          · -- g9_17 False
            apply T.draw (M := M) mixed [Asr.eq _, Asr.eq _, Asr.eq _, Asr.eq _, Asr.eq _, Asr.eq (.bool false), Asr.eq _, Asr.eq _, Asr.eq _, Asr.eq _, Asr.eq _, Asr.eq (.bool false), Asr.eq _, Asr.eq _, Asr.eq _, Asr.eq _, Asr.eq _, Asr.eq (.bool false), Asr.eq _, Asr.V (RT.u8.sl) (putPo (-1) g), Asr.eq _, Asr.eq _, Asr.V (RT.u8.sl) (putPo (-1) g), Asr.eq _, Asr.eq (.bool false), Asr.eq (.bool false)] -- region 9
            · rfl
            · -- its operations
              refine Obls.cons ?_ ?_
              · intro wD E sD -- 0
                refine Rg.move rfl rfl ?_
                exact Rg.nil ⟨rfl, rfl, _, rfl, rfl, Step.refl _ _⟩
              refine Obls.cons ?_ ?_
              · intro wD E sD -- 1
                intro x_ hx_; have hx_ : x_ = _ := hx_; subst x_
                refine Rg.call rfl rfl E25 (Len_spec (M := M) (sD.lt (S.lt hM)) (hm := blks_many _ _) (hv := (hp.le (by decide) S.le).le (by decide) sD.le)) (fun r1 w1 h => ?_)
                obtain ⟨rfl, s1⟩ := h
                exact Rg.nil ⟨rfl, rfl, _, rfl, congrArg (Value.int .i64) hsn, s1⟩
              refine Obls.cons ?_ ?_
              · intro wD E sD -- 2
                refine Rg.move rfl rfl ?_
                exact Rg.nil ⟨rfl, rfl, _, rfl, rfl, Step.refl _ _⟩
              refine Obls.cons ?_ ?_
              · intro wD E sD -- 3
                intro x_ hx_; have hx_ : x_ = _ := hx_; subst x_
                refine Rg.lensl Try.underlying28 rfl hg rfl ?_
                exact Rg.nil ⟨rfl, rfl, _, rfl, rfl, Step.refl _ _⟩
              refine Obls.cons ?_ ?_
              · intro wD E sD -- 4
                intro x_ hx_; have hx_ : x_ = _ := hx_; subst x_
                intro x_ hx_; have hx_ : x_ = _ := hx_; subst x_
                refine Rg.ine rfl rfl rfl ?_
                exact Rg.nil ⟨rfl, rfl, _, rfl, rfl, Step.refl _ _⟩
              refine Obls.cons ?_ ?_
              · intro wD E sD -- 5
                intro x_ hx_; have hx_ : x_ = _ := hx_; subst x_
                intro x_ hx_; have hx_ : x_ = _ := hx_; subst x_
                refine Rg.move rfl rfl ?_
                refine Rg.nil ⟨rfl, rfl, _, rfl, ?_, Step.refl _ _⟩
                exact congrArg Value.bool (decide_eq_false g9_5)
              refine Obls.cons ?_ ?_
              · intro wD E sD -- 6
                intro x_ hx_; have hx_ : x_ = _ := hx_; subst x_
                refine Rg.gyes rfl rfl ?_
                refine Rg.move rfl rfl ?_
                exact Rg.nil ⟨rfl, rfl, _, rfl, rfl, Step.refl _ _⟩
              refine Obls.cons ?_ ?_
              · intro wD E sD -- 7
                intro x_ hx_; have hx_ : x_ = _ := hx_; subst x_
                intro x_ hx_; have hx_ : x_ = _ := hx_; subst x_
                intro x_ hx_; have hx_ : x_ = _ := hx_; subst x_
                refine Rg.gyes rfl rfl ?_
                refine Rg.call rfl rfl E20 (Blocks_spec (M := M) ((hp.le (by decide) S.le).le (by decide) sD.le)) (fun r wc h => ?_)
                obtain ⟨rfl, rfl⟩ := h
                exact Rg.nil ⟨rfl, rfl, _, rfl, congrArg (fun n : Nat => Value.int .i64 n) hnb, Step.refl _ _⟩
              refine Obls.cons ?_ ?_
              · intro wD E sD -- 8
                intro x_ hx_; have hx_ : x_ = _ := hx_; subst x_
                refine Rg.gyes rfl rfl ?_
                refine Rg.move rfl rfl ?_
                exact Rg.nil ⟨rfl, rfl, _, rfl, rfl, Step.refl _ _⟩
              refine Obls.cons ?_ ?_
              · intro wD E sD -- 9
                intro x_ hx_; have hx_ : x_ = _ := hx_; subst x_
                intro x_ hx_; have hx_ : x_ = _ := hx_; subst x_
                intro x_ hx_; have hx_ : x_ = _ := hx_; subst x_
                refine Rg.gyes rfl rfl ?_
                refine Rg.ine rfl rfl rfl ?_
                exact Rg.nil ⟨rfl, rfl, _, rfl, rfl, Step.refl _ _⟩
              refine Obls.cons ?_ ?_
              · intro wD E sD -- 10
                intro x_ hx_; have hx_ : x_ = _ := hx_; subst x_
                intro x_ hx_; have hx_ : x_ = _ := hx_; subst x_
                refine Rg.pickf rfl rfl rfl ?_
                exact Rg.nil ⟨rfl, rfl, _, rfl, rfl, Step.refl _ _⟩
              refine Obls.cons ?_ ?_
              · intro wD E sD -- 11
                intro x_ hx_; have hx_ : x_ = _ := hx_; subst x_
                intro x_ hx_; have hx_ : x_ = _ := hx_; subst x_
                refine Rg.move rfl rfl ?_
                refine Rg.nil ⟨rfl, rfl, _, rfl, ?_, Step.refl _ _⟩
                exact congrArg Value.bool (decide_eq_false g9_11)
              refine Obls.cons ?_ ?_
              · intro wD E sD -- 12
                intro x_ hx_; have hx_ : x_ = _ := hx_; subst x_
                refine Rg.gyes rfl rfl ?_
                refine Rg.move rfl rfl ?_
                exact Rg.nil ⟨rfl, rfl, _, rfl, rfl, Step.refl _ _⟩
              refine Obls.cons ?_ ?_
              · intro wD E sD -- 13
                intro x_ hx_; have hx_ : x_ = _ := hx_; subst x_
                intro x_ hx_; have hx_ : x_ = _ := hx_; subst x_
                intro x_ hx_; have hx_ : x_ = _ := hx_; subst x_
                refine Rg.gyes rfl rfl ?_
                refine Rg.call rfl rfl E59 (Total_spec (M := M) ((hp.le (by decide) S.le).le (by decide) sD.le)) (fun r wc h => ?_)
                obtain ⟨rfl, rfl⟩ := h
                exact Rg.nil ⟨rfl, rfl, _, rfl, rfl, Step.refl _ _⟩
              refine Obls.cons ?_ ?_
              · intro wD E sD -- 14
                intro x_ hx_; have hx_ : x_ = _ := hx_; subst x_
                refine Rg.gyes rfl rfl ?_
                refine Rg.move rfl rfl ?_
                exact Rg.nil ⟨rfl, rfl, _, rfl, rfl, Step.refl _ _⟩
              refine Obls.cons ?_ ?_
              · intro wD E sD -- 15
                intro x_ hx_; have hx_ : x_ = _ := hx_; subst x_
                intro x_ hx_; have hx_ : x_ = _ := hx_; subst x_
                intro x_ hx_; have hx_ : x_ = _ := hx_; subst x_
                refine Rg.gyes rfl rfl ?_
                refine Rg.ine rfl rfl rfl ?_
                exact Rg.nil ⟨rfl, rfl, _, rfl, rfl, Step.refl _ _⟩
              refine Obls.cons ?_ ?_
              · intro wD E sD -- 16
                intro x_ hx_; have hx_ : x_ = _ := hx_; subst x_
                intro x_ hx_; have hx_ : x_ = _ := hx_; subst x_
                refine Rg.pickf rfl rfl rfl ?_
                exact Rg.nil ⟨rfl, rfl, _, rfl, rfl, Step.refl _ _⟩
              refine Obls.cons ?_ ?_
              · intro wD E sD -- 17
                intro x_ hx_; have hx_ : x_ = _ := hx_; subst x_
                intro x_ hx_; have hx_ : x_ = _ := hx_; subst x_
                refine Rg.move rfl rfl ?_
                refine Rg.nil ⟨rfl, rfl, _, rfl, ?_, Step.refl _ _⟩
                exact congrArg Value.bool (decide_eq_false g9_17)
              refine Obls.cons ?_ ?_
              · intro wD E sD -- 18
                intro x_ hx_; have hx_ : x_ = _ := hx_; subst x_
                refine Rg.gyes rfl rfl ?_
                refine Rg.move rfl rfl ?_
                exact Rg.nil ⟨rfl, rfl, _, rfl, rfl, Step.refl _ _⟩
              refine Obls.cons ?_ ?_
              · intro wD E sD -- 19
                intro x_ hx_; have hx_ : x_ = _ := hx_; subst x_
                intro x_ hx_; have hx_ : x_ = _ := hx_; subst x_
                intro x_ hx_; have hx_ : x_ = _ := hx_; subst x_
                refine Rg.gyes rfl rfl ?_
                refine Rg.call rfl rfl E55 (Bytes_spec (M := M) ((hp.le (by decide) S.le).le (by decide) sD.le) (sD.lt (S.lt hM))) (fun r1 w1 h => ?_)
                obtain ⟨hr, s1⟩ := h
                exact Rg.nil ⟨rfl, rfl, _, rfl, hr, s1⟩
              refine Obls.cons ?_ ?_
              · intro wD E sD -- 20
                intro v19 hv19
                intro x_ hx_; have hx_ : x_ = _ := hx_; subst x_
                refine Rg.gyes rfl rfl ?_
                refine Rg.b2s (M := M) Try.underlying48 Try.underlying5 Try.underlying9 rfl rfl (show (RT.u8.sl).V M wD (putPo (-1) g) v19 from hv19) (Le.refl _ _) ?_
                exact Rg.nil ⟨rfl, rfl, _, rfl, rfl, Step.refl _ _⟩
              refine Obls.cons ?_ ?_
              · intro wD E sD -- 21
                intro x_ hx_; have hx_ : x_ = _ := hx_; subst x_
                refine Rg.gyes rfl rfl ?_
                refine Rg.move rfl rfl ?_
                exact Rg.nil ⟨rfl, rfl, _, rfl, rfl, Step.refl _ _⟩
              refine Obls.cons ?_ ?_
              · intro wD E sD -- 22
                intro x_ hx_; have hx_ : x_ = _ := hx_; subst x_
                intro v19 hv19
                intro x_ hx_; have hx_ : x_ = _ := hx_; subst x_
                refine Rg.gyes rfl rfl ?_
                refine Rg.call rfl rfl E36 (rBytes5_spec (M := M) (sD.lt (S.lt hM)) ((hg.le S.le).le sD.le) hgm hps (by omega)) (fun r1 w1 h => ?_)
                obtain ⟨s1, hr⟩ := h
                exact Rg.nil ⟨rfl, rfl, _, rfl, hr, s1⟩
              refine Obls.cons ?_ ?_
              · intro wD E sD -- 23
                intro v22 hv22
                intro x_ hx_; have hx_ : x_ = _ := hx_; subst x_
                refine Rg.gyes rfl rfl ?_
                refine Rg.b2s (M := M) Try.underlying48 Try.underlying5 Try.underlying9 rfl rfl (show (RT.u8.sl).V M wD (putPo (-1) g) v22 from hv22) (Le.refl _ _) ?_
                exact Rg.nil ⟨rfl, rfl, _, rfl, rfl, Step.refl _ _⟩
              refine Obls.cons ?_ ?_
              · intro wD E sD -- 24
                intro x_ hx_; have hx_ : x_ = _ := hx_; subst x_
                intro x_ hx_; have hx_ : x_ = _ := hx_; subst x_
                intro x_ hx_; have hx_ : x_ = _ := hx_; subst x_
                refine Rg.gyes rfl rfl ?_
                refine Rg.strne rfl rfl rfl ?_
                refine Rg.eqv (v' := .bool false) (by simp) ?_
                exact Rg.nil ⟨rfl, rfl, _, rfl, rfl, Step.refl _ _⟩
              refine Obls.cons ?_ ?_
              · intro wD E sD -- 25
                intro x_ hx_; have hx_ : x_ = _ := hx_; subst x_
                intro x_ hx_; have hx_ : x_ = _ := hx_; subst x_
                refine Rg.pickf rfl rfl rfl ?_
                exact Rg.nil ⟨rfl, rfl, _, rfl, rfl, Step.refl _ _⟩
              exact Obls.nil
            · -- behind it
              intro wD9 sD9
              intro x_ hx_; have hx_ : x_ = _ := hx_; subst x_
              intro x_ hx_; have hx_ : x_ = _ := hx_; subst x_
              intro x_ hx_; have hx_ : x_ = _ := hx_; subst x_
              intro x_ hx_; have hx_ : x_ = _ := hx_; subst x_
              intro x_ hx_; have hx_ : x_ = _ := hx_; subst x_
              intro x_ hx_; have hx_ : x_ = _ := hx_; subst x_
              intro x_ hx_; have hx_ : x_ = _ := hx_; subst x_
              intro x_ hx_; have hx_ : x_ = _ := hx_; subst x_
              intro x_ hx_; have hx_ : x_ = _ := hx_; subst x_
              intro x_ hx_; have hx_ : x_ = _ := hx_; subst x_
              intro x_ hx_; have hx_ : x_ = _ := hx_; subst x_
              intro x_ hx_; have hx_ : x_ = _ := hx_; subst x_
              intro x_ hx_; have hx_ : x_ = _ := hx_; subst x_
              intro x_ hx_; have hx_ : x_ = _ := hx_; subst x_
              intro x_ hx_; have hx_ : x_ = _ := hx_; subst x_
              intro x_ hx_; have hx_ : x_ = _ := hx_; subst x_
              intro x_ hx_; have hx_ : x_ = _ := hx_; subst x_
              intro x_ hx_; have hx_ : x_ = _ := hx_; subst x_
              intro x_ hx_; have hx_ : x_ = _ := hx_; subst x_
              intro v9_19 hv9_19
              intro x_ hx_; have hx_ : x_ = _ := hx_; subst x_
              intro x_ hx_; have hx_ : x_ = _ := hx_; subst x_
              intro v9_22 hv9_22
              intro x_ hx_; have hx_ : x_ = _ := hx_; subst x_
              intro x_ hx_; have hx_ : x_ = _ := hx_; subst x_
              intro x_ hx_; have hx_ : x_ = _ := hx_; subst x_
              replace S := S.trans0 sD9
              refine T.iff rfl ?_
              refine T.skip ?_
              refine T.seq ?_
              refine T.seq ?_
              refine T.region ?_ -- region 11
              refine Rg.assign rfl rfl ?_
              refine Rg.nil ?_
              refine T.block ?_
              refine T.loop (σ := Int) (fun s => [(0, p), (1, u), (5, .int .i64 (((g.length + 7) / 8 : Nat) : Int)), (8, .int .i64 s)]) (fun s w => -1 ≤ s ∧ s ≤ ((g.length + 7) / 8 : Nat) + 1 ∧ Step M w0 M w none') (fun s => (((g.length + 7) / 8 : Nat) + 1 - s).toNat) (-1) (.cons rfl (.cons rfl (.cons rfl (.cons rfl .nil)))) ?_ ?_ -- loop 1
              · exact ⟨by omega, by omega, S⟩
              · rintro k w2 ⟨hk0, hk, S⟩
                refine T.seq ?_
                refine T.seq ?_
                refine T.region ?_ -- region 12
                refine Rg.move rfl rfl ?_
                refine Rg.move rfl rfl ?_
                refine Rg.ile rfl rfl rfl ?_
                refine Rg.nil ?_
                refine T.ifp rfl (fun c12 => ?_) (fun c12 => ?_)
                · -- c12 True
                  refine T.skip ?_
                  refine T.seq ?_
                  refine T.block ?_
                  refine T.seq ?_
                  refine T.region ?_ -- region 14
                  refine Rg.move rfl rfl ?_
                  refine Rg.move rfl rfl ?_
                  refine Rg.call rfl rfl E60 (rBlock_spec (M := M) (k := k) (hg.le S.le) (by omega)) (fun u9 wc h => ?_)
                  obtain ⟨hb, rfl⟩ := h
                  generalize hown : (if isB ((g.length + 7) / 8) k then (g.drop (8 * k.toNat)).take 8 else []) = own at hb
                  have hownl := V_sl_len hb
                  refine Rg.assign rfl rfl ?_
                  refine Rg.nil ?_
                  refine T.seq ?_
                  refine T.region ?_ -- region 15
                  refine Rg.assign rfl rfl ?_
                  refine Rg.nil ?_
                  refine T.seq ?_
                  refine T.seq ?_
                  refine T.region ?_ -- region 16
                  refine Rg.move rfl rfl ?_
                  refine Rg.lensl Try.underlying28 rfl hb rfl ?_
                  refine Rg.igt rfl rfl rfl ?_
                  refine Rg.nil ?_
                  refine T.ifp rfl (fun c16 => ?_) (fun c16 => ?_)
                  · -- c16 True
                    obtain ⟨⟨d, ps⟩, hx⟩ : ∃ x, own[own.length - 1]? = some x := ⟨_, List.getElem?_eq_getElem (by omega)⟩
                    have hlk : lastB (mkLi g).2.1 k = d := last_own hown hx
                    refine T.region ?_ -- region 17
                    refine Rg.move rfl rfl ?_
                    refine Rg.move rfl rfl ?_
                    refine Rg.lensl Try.underlying28 rfl hb rfl ?_
                    refine Rg.isub rfl rfl rfl (by omega) ?_

                    refine Rg.idx (M := M) Try.underlying28 I37 rfl rfl rfl (hb) (Le.refl _ _) (by omega) (fun u17_4 a17_4 hg17_4 hu17_4 => ?_)
                    obtain rfl : (d, ps) = a17_4 := Eq.symm (Option.some.inj (hg17_4.symm.trans (by rw [show ((own.length : Int) - 1).toNat = own.length - 1 from by omega]; exact hx)))
                    refine Rg.fieldAddr (M := M) (A := RT.po) (B := RT.int .i64) Try.underlying37 rfl rfl I3 (by decide) (po0) rfl rfl (by decide) (by assumption) (by repeat (first | exact Le.refl _ _ | refine Le.trans (Step.le (by assumption)) ?_)) (fun u17_5 hu17_5 => ?_)
                    refine Rg.loadi64 (M := M) Try.underlying3 rfl rfl (by assumption) (by repeat (first | exact Le.refl _ _ | refine Le.trans (Step.le (by assumption)) ?_)) (fun in17_6 => ?_)
                    refine Rg.eqv (v' := .int .i64 d) rfl ?_
                    replace in17_6 : -9223372036854775808 ≤ (d : Int) ∧ d ≤ 9223372036854775807 := in17_6
                    refine Rg.assign rfl rfl ?_
                    refine Rg.nil ?_
                    refine T.seq ?_
                    refine T.region ?_ -- region 18
                    refine Rg.move rfl rfl ?_
                    refine Rg.move rfl rfl ?_
                    refine Rg.call rfl rfl E22 (Last_spec (k := k) (hp.le (by decide) S.le)) (fun r wc h => ?_)
                    obtain ⟨rfl, rfl⟩ := h
                    refine Rg.move rfl rfl ?_
                    refine Rg.ine rfl rfl rfl ?_
                    refine Rg.move rfl rfl ?_
                    refine Rg.gfalse (g := 79) rfl ((fun h => h hlk)) ?_
                    refine Rg.gyes rfl rfl ?_
                    refine Rg.move rfl rfl ?_
                    refine Rg.gyes rfl rfl ?_
                    refine Rg.move rfl rfl ?_
                    refine Rg.gyes rfl rfl ?_
                    refine Rg.call rfl rfl E21 (Block_spec (M := M) (k := k) (S.lt hM) (hp.le (by decide) S.le) hgm hps hbl) (fun u8 w8 h => ?_)
                    obtain ⟨s8, h8⟩ := h
                    rw [hown] at h8
                    refine Rg.gyes rfl rfl ?_
                    refine Rg.move rfl rfl ?_
                    refine Rg.gyes rfl rfl ?_
                    refine Rg.call rfl rfl E61 (Same5_spec (M := M) (s8.lt (S.lt hM)) h8 (hb.le s8.le)) (fun r10 w10 h => ?_)
                    obtain ⟨rfl, s10⟩ := h
                    refine Rg.eqv (v' := .bool true) (by simp) ?_
                    refine Rg.gyes rfl rfl ?_
                    refine Rg.not rfl rfl ?_
                    refine Rg.eqv (v' := .bool (decide False)) (by simp) ?_
                    refine Rg.pickf rfl rfl rfl ?_
                    refine Rg.nil ?_
                    refine T.iffp rfl ((fun h => h)) ?_
                    refine T.skip ?_
                    refine T.region ?_ -- region 13
                    refine Rg.move rfl rfl ?_
                    refine Rg.iadd rfl rfl rfl (by omega) ?_
                    refine Rg.assign rfl rfl ?_
                    refine Rg.nil ?_
                    refine ⟨rfl, k + 1, (.cons rfl (.cons rfl (.cons rfl (.cons rfl .nil)))), ?_, ?_⟩
                    · exact ⟨by omega, by omega, (S.trans0 s8).trans0 s10⟩
                    · show (_ - (k + 1)).toNat < (_ - k).toNat; omega
                  · -- c16 False
                    have hlk : lastB (mkLi g).2.1 k = -1 := last_none hgm hown (by omega)
                    refine T.skip ?_
                    refine T.seq ?_
                    refine T.region ?_ -- region 18
                    refine Rg.move rfl rfl ?_
                    refine Rg.move rfl rfl ?_
                    refine Rg.call rfl rfl E22 (Last_spec (k := k) (hp.le (by decide) S.le)) (fun r wc h => ?_)
                    obtain ⟨rfl, rfl⟩ := h
                    refine Rg.move rfl rfl ?_
                    refine Rg.ine rfl rfl rfl ?_
                    refine Rg.move rfl rfl ?_
                    refine Rg.gfalse (g := 79) rfl ((fun h => h hlk)) ?_
                    refine Rg.gyes rfl rfl ?_
                    refine Rg.move rfl rfl ?_
                    refine Rg.gyes rfl rfl ?_
                    refine Rg.move rfl rfl ?_
                    refine Rg.gyes rfl rfl ?_
                    refine Rg.call rfl rfl E21 (Block_spec (M := M) (k := k) (S.lt hM) (hp.le (by decide) S.le) hgm hps hbl) (fun u8 w8 h => ?_)
                    obtain ⟨s8, h8⟩ := h
                    rw [hown] at h8
                    refine Rg.gyes rfl rfl ?_
                    refine Rg.move rfl rfl ?_
                    refine Rg.gyes rfl rfl ?_
                    refine Rg.call rfl rfl E61 (Same5_spec (M := M) (s8.lt (S.lt hM)) h8 (hb.le s8.le)) (fun r10 w10 h => ?_)
                    obtain ⟨rfl, s10⟩ := h
                    refine Rg.eqv (v' := .bool true) (by simp) ?_
                    refine Rg.gyes rfl rfl ?_
                    refine Rg.not rfl rfl ?_
                    refine Rg.eqv (v' := .bool (decide False)) (by simp) ?_
                    refine Rg.pickf rfl rfl rfl ?_
                    refine Rg.nil ?_
                    refine T.iffp rfl ((fun h => h)) ?_
                    refine T.skip ?_
                    refine T.region ?_ -- region 13
                    refine Rg.move rfl rfl ?_
                    refine Rg.iadd rfl rfl rfl (by omega) ?_
                    refine Rg.assign rfl rfl ?_
                    refine Rg.nil ?_
                    refine ⟨rfl, k + 1, (.cons rfl (.cons rfl (.cons rfl (.cons rfl .nil)))), ?_, ?_⟩
                    · exact ⟨by omega, by omega, (S.trans0 s8).trans0 s10⟩
                    · show (_ - (k + 1)).toNat < (_ - k).toNat; omega
                · -- c12 False
                  refine T.exit ?_
                  refine T.seq ?_
                  refine T.region ?_ -- region 20
                  refine Rg.move rfl rfl ?_
                  refine Rg.call rfl rfl E62 (All_spec (M := M) (S.lt hM) (hp.le (by decide) S.le) hgm hps hbl hll) (fun u20 w20 h => ?_)
                  obtain ⟨h20, s20⟩ := h
                  refine Rg.move rfl rfl ?_
                  refine Rg.call rfl rfl E61 (Same5_spec (M := M) (s20.lt (S.lt hM)) h20 ((hg.le S.le).le s20.le)) (fun r21 w21 h => ?_)
                  obtain ⟨rfl, s21⟩ := h
                  refine Rg.eqv (v' := .bool true) (by simp) ?_
                  refine Rg.assign rfl rfl ?_
                  refine Rg.nil ?_
                  refine T.ret ?_
                  exact Kret1 rfl rfl ⟨rfl, (S.trans0 s20).trans0 s21⟩

end Go.K

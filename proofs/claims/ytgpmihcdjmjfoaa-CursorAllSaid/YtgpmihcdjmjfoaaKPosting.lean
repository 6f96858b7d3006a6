/- The walks of Go functions, operation by operation. -/
import Derived.Test.YtgpmihcdjmjfoaaKTypes
import Derived.Test.YtgpmihcdjmjfoaaKNum
import Derived.Test.YtgpmihcdjmjfoaaKPost
import Derived.Test.YtgpmihcdjmjfoaaKDraw
import Derived.Test.YtgpmihcdjmjfoaaKVint
import Derived.Test.YtgpmihcdjmjfoaaKRef04
import Derived.Test.YtgpmihcdjmjfoaaProg
import Derived.KernelRfl
namespace Go.K
open Go.Proofs
namespace TKPosting
theorem I23 : TI Try.prog 23 (.slice none 0 0) 1 24 := by unfold TI; kernel_rfl -- []int
theorem I37 : TI Try.prog 37 (.agg #[(.int .i64 0), (.slice none 0 0)]) 2 32 := by unfold TI; kernel_rfl -- api.Posting
theorem I48 : TI Try.prog 48 (.slice none 0 0) 1 24 := by unfold TI; kernel_rfl -- []uint8
theorem I74 : TI Try.prog 74 (.slice none 0 0) 1 24 := by unfold TI; kernel_rfl -- []posting.block
theorem I81 : TI Try.prog 81 (.agg #[(.int .i64 0), (.int .i64 0), (.int .i64 0), (.int .i64 0)]) 4 32 := by unfold TI; kernel_rfl -- posting.block
theorem B37 : placesOf Try.prog 37 = [(0, 1), (1, 1)].map some := by kernel_rfl
theorem E14 : Enters Try.prog 14 := enters Try.func14 rfl (by decide) -- concordance/concordanceref04.Good
theorem E53 : Enters Try.prog 53 := enters Try.func53 rfl (by decide) -- (*concordance/posting.List).is
theorem E54 : Enters Try.prog 54 := enters Try.func54 rfl (by decide) -- concordance/posting.take
theorem E79 : Enters Try.prog 79 := enters Try.func79 rfl (by decide) -- concordance/vint.GetRising
theorem E80 : Enters Try.prog 80 := enters Try.func80 rfl (by decide) -- slices.Clone[[]byte,byte]
end TKPosting
open TKPosting
set_option linter.unusedVariables false
set_option linter.unusedSimpArgs false
set_option maxRecDepth 10000

/-- '(*concordance/posting.List).is' -/
theorem is_spec {M : PSet} {w0 : World} {v : Value} {x : Li} (hv : PtrTo RT.li M w0 v x) {k : Int} :
    Spec Try.prog 53 #[v, .int .i64 k] w0 (fun v' w' => v' = .bool (isB x.2.1.length k) ∧ w0 = w') := by
  refine spec_of (args := [v, .int .i64 k]) (fn := Try.f53) Try.func53 rfl (n := 16) Try.ntmps53 ?_
  refine T.seq ?_
  refine T.region ?_ -- region 0
  refine Rg.assign rfl rfl ?_
  refine Rg.nil ?_
  refine T.seq ?_
  refine T.region ?_ -- region 1
  refine Rg.move rfl rfl ?_
  refine Rg.ige rfl rfl rfl ?_
  refine Rg.move rfl rfl ?_
  refine Rg.gsplitp (g := 7) rfl (fun g1_2 => ?_) (fun g1_2 => ?_)
  · -- g1_2 True
    refine Rg.gyes rfl rfl ?_
    refine Rg.move rfl rfl ?_
    refine Rg.gyes rfl rfl ?_
    refine Rg.move rfl rfl ?_
    refine Rg.gyes rfl rfl ?_
    refine Rg.nilCheck rfl (PtrTo.isPtr (by assumption)) rfl ?_
    refine Rg.gyes rfl rfl ?_
    refine Rg.fieldAddr (M := M) (A := RT.li) (B := (RT.bl).sl) Try.underlying76 rfl rfl I74 (by decide) (li1) rfl rfl (by decide) (by assumption) (by repeat (first | exact Le.refl _ _ | refine Le.trans (Step.le (by assumption)) ?_)) (fun u1_6 hu1_6 => ?_)
    refine Rg.gyes rfl rfl ?_
    refine Rg.load (M := M) Try.underlying74 rfl rfl rfl rfl rfl (by assumption) (by repeat (first | exact Le.refl _ _ | refine Le.trans (Step.le (by assumption)) ?_)) (fun v1_7 hv1_7 => ?_)
    refine Rg.gyes rfl rfl ?_
    first | refine Rg.lensl Try.underlying74 rfl (by assumption) rfl ?_ | refine Rg.lenown Try.underlying74 rfl (by assumption) rfl ?_
    refine Rg.gyes rfl rfl ?_
    refine Rg.ilt rfl rfl rfl ?_
    refine Rg.pickt rfl rfl rfl ?_
    refine Rg.assign rfl rfl ?_
    refine Rg.nil ?_
    refine T.ret ?_
    first
    | exact Kret1 rfl rfl ⟨congrArg Value.bool (decide_eq_decide.2 (by omega)), rfl⟩
    | exact Kret1 rfl rfl ⟨congrArg Value.bool (Eq.symm (decide_eq_false (by omega))), rfl⟩
  · -- g1_2 False
    refine Rg.gno rfl rfl rfl rfl ?_
    refine Rg.gno rfl rfl rfl rfl ?_
    refine Rg.gno rfl rfl rfl rfl ?_
    refine Rg.gno rfl rfl rfl rfl ?_
    refine Rg.gno rfl rfl rfl rfl ?_
    refine Rg.gno rfl rfl rfl rfl ?_
    refine Rg.gno rfl rfl rfl rfl ?_
    refine Rg.pickf rfl rfl rfl ?_
    refine Rg.assign rfl rfl ?_
    refine Rg.nil ?_
    refine T.ret ?_
    first
    | exact Kret1 rfl rfl ⟨congrArg Value.bool (decide_eq_decide.2 (by omega)), rfl⟩
    | exact Kret1 rfl rfl ⟨congrArg Value.bool (Eq.symm (decide_eq_false (by omega))), rfl⟩

/-- '(*concordance/posting.List).Blocks' -/
theorem Blocks_spec {M : PSet} {w0 : World} {v : Value} {x : Li} (hv : PtrTo RT.li M w0 v x) :
    Spec Try.prog 20 #[v] w0 (fun v' w' => v' = .int .i64 x.2.1.length ∧ w0 = w') := by
  refine spec_of (args := [v]) (fn := Try.f20) Try.func20 rfl (n := 8) Try.ntmps20 ?_
  refine T.seq ?_
  refine T.region ?_ -- region 0
  refine Rg.assign rfl rfl ?_
  refine Rg.nil ?_
  refine T.seq ?_
  refine T.region ?_ -- region 1
  refine Rg.move rfl rfl ?_
  refine Rg.nilCheck rfl (PtrTo.isPtr (by assumption)) rfl ?_
  refine Rg.fieldAddr (M := M) (A := RT.li) (B := (RT.bl).sl) Try.underlying76 rfl rfl I74 (by decide) (li1) rfl rfl (by decide) (by assumption) (by repeat (first | exact Le.refl _ _ | refine Le.trans (Step.le (by assumption)) ?_)) (fun u1_2 hu1_2 => ?_)
  refine Rg.load (M := M) Try.underlying74 rfl rfl rfl rfl rfl (by assumption) (by repeat (first | exact Le.refl _ _ | refine Le.trans (Step.le (by assumption)) ?_)) (fun v1_3 hv1_3 => ?_)
  first | refine Rg.lensl Try.underlying74 rfl (by assumption) rfl ?_ | refine Rg.lenown Try.underlying74 rfl (by assumption) rfl ?_
  refine Rg.assign rfl rfl ?_
  refine Rg.nil ?_
  refine T.ret ?_
  exact Kret1 rfl rfl ⟨rfl, rfl⟩

/-- '(*concordance/posting.List).Total' -/
theorem Total_spec {M : PSet} {w0 : World} {v : Value} {x : Li} (hv : PtrTo RT.li M w0 v x) :
    Spec Try.prog 59 #[v] w0 (fun v' w' => v' = .int .i64 x.2.2 ∧ w0 = w') := by
  refine spec_of (args := [v]) (fn := Try.f59) Try.func59 rfl (n := 7) Try.ntmps59 ?_
  refine T.seq ?_
  refine T.region ?_ -- region 0
  refine Rg.assign rfl rfl ?_
  refine Rg.nil ?_
  refine T.seq ?_
  refine T.region ?_ -- region 1
  refine Rg.move rfl rfl ?_
  refine Rg.nilCheck rfl (PtrTo.isPtr (by assumption)) rfl ?_
  refine Rg.fieldAddr (M := M) (A := RT.li) (B := RT.int .i64) Try.underlying76 rfl rfl I3 (by decide) (li2) rfl rfl (by decide) (by assumption) (by repeat (first | exact Le.refl _ _ | refine Le.trans (Step.le (by assumption)) ?_)) (fun u1_2 hu1_2 => ?_)
  refine Rg.loadi64 (M := M) Try.underlying3 rfl rfl (by assumption) (by repeat (first | exact Le.refl _ _ | refine Le.trans (Step.le (by assumption)) ?_)) (fun in1_3 => ?_)
  refine Rg.assign rfl rfl ?_
  refine Rg.nil ?_
  refine T.ret ?_
  exact Kret1 rfl rfl ⟨rfl, rfl⟩

/-- '(*concordance/posting.List).Last' -/
theorem Last_spec {M : PSet} {w0 : World} {v : Value} {x : Li} (hv : PtrTo RT.li M w0 v x) {k : Int} :
    Spec Try.prog 22 #[v, .int .i64 k] w0 (fun v' w' => v' = .int .i64 (lastB x.2.1 k) ∧ w0 = w') := by
  refine spec_of (args := [v, .int .i64 k]) (fn := Try.f22) Try.func22 rfl (n := 17) Try.ntmps22 ?_
  refine T.seq ?_
  refine T.region ?_ -- region 0
  refine Rg.assign rfl rfl ?_
  refine Rg.nil ?_
  refine T.seq ?_
  refine T.seq ?_
  refine T.region ?_ -- region 1
  refine Rg.move rfl rfl ?_
  refine Rg.move rfl rfl ?_
  refine Rg.call rfl rfl E53 (is_spec hv (k := k)) (fun r w1 h1 => ?_)
  obtain ⟨rfl, rfl⟩ := h1
  refine Rg.not rfl rfl ?_
  refine Rg.eqv (v' := .bool (decide (¬ (0 ≤ k ∧ k < x.2.1.length)))) (by unfold isB; rw [decide_not]) ?_
  refine Rg.nil ?_
  refine T.ifp rfl (fun c1 => ?_) (fun c1 => ?_)
  · -- c1 True
    refine T.seq ?_
    refine T.region ?_ -- region 2
    refine Rg.assign rfl rfl ?_
    refine Rg.nil ?_
    refine T.ret ?_
    exact Kret1 rfl rfl ⟨by unfold lastB isB; rw [if_neg (by simpa using c1)], rfl⟩
  · -- c1 False
    refine T.skip ?_
    refine T.seq ?_
    refine T.region ?_ -- region 3
    refine Rg.move rfl rfl ?_
    refine Rg.nilCheck rfl (PtrTo.isPtr (by assumption)) rfl ?_
    refine Rg.fieldAddr (M := M) (A := RT.li) (B := (RT.bl).sl) Try.underlying76 rfl rfl I74 (by decide) (li1) rfl rfl (by decide) (by assumption) (by repeat (first | exact Le.refl _ _ | refine Le.trans (Step.le (by assumption)) ?_)) (fun u3_2 hu3_2 => ?_)
    refine Rg.load (M := M) Try.underlying74 rfl rfl rfl rfl rfl (by assumption) (by repeat (first | exact Le.refl _ _ | refine Le.trans (Step.le (by assumption)) ?_)) (fun v3_3 hv3_3 => ?_)
    refine Rg.move rfl rfl ?_
    obtain ⟨b, hb⟩ : ∃ b, x.2.1[k.toNat]? = some b := ⟨_, List.getElem?_eq_getElem (by omega)⟩
    refine Rg.idx (M := M) Try.underlying74 I81 rfl rfl rfl (by assumption) (Le.refl _ _) (by omega) (fun u3_5 a3_5 hg3_5 hu3_5 => ?_)
    obtain rfl : a3_5 = b := Option.some.inj (hg3_5.symm.trans hb)
    refine Rg.fieldAddr (M := M) (A := RT.bl) (B := RT.int .i64) Try.underlying81 rfl rfl I3 (by decide) (bl2) rfl rfl (by decide) (by assumption) (by repeat (first | exact Le.refl _ _ | refine Le.trans (Step.le (by assumption)) ?_)) (fun u3_6 hu3_6 => ?_)
    refine Rg.loadi64 (M := M) Try.underlying3 rfl rfl (by assumption) (by repeat (first | exact Le.refl _ _ | refine Le.trans (Step.le (by assumption)) ?_)) (fun in3_7 => ?_)
    refine Rg.assign rfl rfl ?_
    refine Rg.nil ?_
    refine T.ret ?_
    exact Kret1 rfl rfl ⟨by unfold lastB isB; rw [if_pos (by simpa using c1), List.getD_eq_getElem?_getD, hb]; rfl, rfl⟩

/-- '(*concordance/posting.List).Len' -/
theorem Len_spec {M : PSet} {w0 : World} {v : Value} {x : Li} (hv : PtrTo RT.li M w0 v x) (hM : Lt M w0) (hm : ∀ b ∈ x.2.1, 0 ≤ b.2.2.2 ∧ b.2.2.2 ≤ 8) :
    Spec Try.prog 25 #[v] w0 (fun v' w' => v' = .int .i64 (sumN x.2.1) ∧ Step M w0 M w' none') := by
  refine spec_of (args := [v]) (fn := Try.f25) Try.func25 rfl (n := 21) Try.ntmps25 ?_
  refine T.seq ?_
  refine T.region ?_ -- region 0
  refine Rg.assign rfl rfl ?_
  refine Rg.nil ?_
  refine T.seq ?_
  refine T.region ?_ -- region 1
  refine Rg.assign rfl rfl ?_
  refine Rg.nil ?_
  refine T.seq ?_
  refine T.seq ?_
  refine T.region ?_ -- region 2
  refine Rg.move rfl rfl ?_
  refine Rg.nilCheck rfl (PtrTo.isPtr (by assumption)) rfl ?_
  refine Rg.fieldAddr (M := M) (A := RT.li) (B := (RT.bl).sl) Try.underlying76 rfl rfl I74 (by decide) (li1) rfl rfl (by decide) (by assumption) (by repeat (first | exact Le.refl _ _ | refine Le.trans (Step.le (by assumption)) ?_)) (fun u2_2 hu2_2 => ?_)
  refine Rg.load (M := M) Try.underlying74 rfl rfl rfl rfl rfl (by assumption) (Le.refl _ _) (fun vb hvb => ?_)
  have hbl := V_sl_len hvb
  first | refine Rg.lensl Try.underlying74 rfl (by assumption) rfl ?_ | refine Rg.lenown Try.underlying74 rfl (by assumption) rfl ?_
  refine Rg.move rfl rfl ?_
  refine Rg.nil ?_
  refine T.block ?_
  refine T.loop (σ := Nat) (fun s => [(3, .int .i64 (sumN (x.2.1.take s))), (9, vb), (10, .int .i64 x.2.1.length), (11, .int .i64 s)]) (fun s w => s ≤ x.2.1.length ∧ Step M w0 M w none') (fun s => x.2.1.length - s) 0 (.cons rfl (.cons rfl (.cons rfl (.cons rfl .nil)))) ?_ ?_ -- loop 0
  · exact ⟨Nat.zero_le _, Step.refl _ _⟩
  · rintro k w1 ⟨hk, S⟩
    have hMw := S.lt hM
    refine T.seq ?_
    refine T.region ?_ -- region 3
    refine Rg.ilt rfl rfl rfl ?_
    refine Rg.nil ?_
    refine T.seq ?_
    refine T.ifp rfl (fun c3 => ?_) (fun c3 => ?_)
    · -- c3 True
      refine T.skip ?_
      refine T.seq ?_
      refine T.block ?_
      refine T.seq ?_
      refine T.region ?_ -- region 4
      obtain ⟨b, hb⟩ : ∃ b, x.2.1[k]? = some b := ⟨_, List.getElem?_eq_getElem (by omega)⟩
      have hbm := hm b (List.mem_of_getElem? hb)
      have hsl := sumN_le (x.2.1.take k) fun c hc => hm c (List.mem_of_mem_take hc)
      rw [List.length_take, Nat.min_eq_left hk] at hsl
      refine Rg.idx (M := M) Try.underlying74 I81 rfl rfl rfl (hvb.le S.le) (Le.refl _ _) (by omega) (fun u4_0 a4_0 hg4_0 hu4_0 => ?_)
      obtain rfl : a4_0 = b := Option.some.inj (hg4_0.symm.trans (by simpa using hb))
      refine Rg.loadagg (M := M) (A := RT.bl) Try.underlying81 rfl I81 (by decide) rfl rfl rfl (by assumption) (by repeat (first | exact Le.refl _ _ | refine Le.trans (Step.le (by assumption)) ?_)) (fun v4_1 hv4_1 => ?_)
      refine Rg.newagg (A := RT.bl) (M := M) I81 rfl rfl rfl rfl rfl (by assumption) (by repeat (first | exact Le.refl _ _ | refine Le.trans (Step.le (by assumption)) ?_)) (by first | assumption | exact Step.lt (by assumption) (by assumption) | exact Step.lt (by assumption) (Step.lt (by assumption) (by assumption))) (fun u4_2 w4_2 hu4_2 s4_2 z4_2 => ?_)
      refine Rg.nil ?_
      refine T.region ?_ -- region 5
      refine Rg.move rfl rfl ?_
      refine Rg.fieldAddr (M := M) (A := RT.bl) (B := RT.int .i64) Try.underlying81 rfl rfl I3 (by decide) (bl3) rfl rfl (by decide) (by assumption) (by repeat (first | exact Le.refl _ _ | refine Le.trans (Step.le (by assumption)) ?_)) (fun u5_1 hu5_1 => ?_)
      refine Rg.loadi64 (M := M) Try.underlying3 rfl rfl (by assumption) (by repeat (first | exact Le.refl _ _ | refine Le.trans (Step.le (by assumption)) ?_)) (fun in5_2 => ?_)
      refine Rg.iadd rfl rfl rfl (by omega) ?_
      refine Rg.assign rfl rfl ?_
      refine Rg.nil ?_
      refine T.region ?_ -- region 6
      refine Rg.iadd rfl rfl rfl (by omega) ?_
      refine Rg.move rfl rfl ?_
      refine Rg.nil ?_
      refine ⟨rfl, k + 1, (.cons (by rw [sumN_take hb]; rfl) (.cons rfl (.cons rfl (.cons rfl .nil)))), ?_, ?_⟩
      · exact ⟨by omega, S.trans0 s4_2⟩
      · show _ - (k + 1) < _ - k; omega
    · -- c3 False
      refine T.exit ?_
      refine T.seq ?_
      refine T.region ?_ -- region 7
      refine Rg.move rfl rfl ?_
      refine Rg.assign rfl rfl ?_
      refine Rg.nil ?_
      refine T.ret ?_
      refine Kret1 rfl rfl ⟨?_, S⟩
      rw [List.take_of_length_le (by omega)]

/-- 'slices.Clone[[]byte,byte]' -/
theorem CloneB_spec {M : PSet} {w0 : World} {v : Value} {b : List UInt8} (hM : Lt M w0) (hv : (RT.u8.sl).V M w0 b v) :
    Spec Try.prog 80 #[v] w0 (fun v' w' => (RT.u8.sl).V M w' b v' ∧ Step M w0 M w' none') := by
  obtain ⟨a, cap, hva, hc, hl, hs⟩ := V_sl.1 hv
  refine spec_of (args := [v]) (fn := Try.f80) Try.func80 rfl (n := 8) Try.ntmps80 ?_
  refine T.seq ?_
  refine T.region ?_ -- region 0
  refine Rg.assign rfl rfl ?_
  refine Rg.nil ?_
  refine T.seq ?_
  refine T.seq ?_
  refine T.region ?_ -- region 1
  refine Rg.move rfl rfl ?_
  refine Rg.eqv (v' := .slice a b.length cap) hva ?_
  refine Rg.sleqnil Try.underlying48 rfl rfl rfl ?_
  refine Rg.nil ?_
  refine T.ifp rfl (fun c1 => ?_) (fun c1 => ?_)
  · -- c1 True
    refine T.seq ?_
    refine T.region ?_ -- region 2
    refine Rg.assign rfl rfl ?_
    refine Rg.nil ?_
    refine T.ret ?_
    have hb : b = [] := by
      rcases hs with h | ⟨_, _, h, _⟩
      · exact h
      · rw [c1] at h; cases h
    exact Kret1 rfl rfl ⟨by rw [hb]; exact V_nil, Step.refl _ _⟩
  · -- c1 False
    refine T.skip ?_
    refine T.seq ?_
    refine T.region ?_ -- region 3
    refine Rg.sl0 Try.underlying48 I5 M rfl (fun a0 w1 s1 => ?_)
    refine Rg.move rfl rfl ?_
    refine Rg.appendnew (A := RT.u8) (hn := by decide) (M := M) Try.underlying48 I5 rfl rfl rfl rfl hv s1.le (s1.lt hM) (by omega) (fun u2 w2 hu2 s2 => ?_)
    refine Rg.assign rfl rfl ?_
    refine Rg.nil ?_
    refine T.ret ?_
    exact Kret1 rfl rfl ⟨hu2, s1.trans0 s2⟩

/-- '(*concordance/posting.List).Bytes' -/
theorem Bytes_spec {M : PSet} {w0 : World} {v : Value} {x : Li} (hv : PtrTo RT.li M w0 v x) (hM : Lt M w0) :
    Spec Try.prog 55 #[v] w0 (fun v' w' => (RT.u8.sl).V M w' x.1 v' ∧ Step M w0 M w' none') := by
  refine spec_of (args := [v]) (fn := Try.f55) Try.func55 rfl (n := 8) Try.ntmps55 ?_
  refine T.seq ?_
  refine T.region ?_ -- region 0
  refine Rg.assign rfl rfl ?_
  refine Rg.nil ?_
  refine T.seq ?_
  refine T.region ?_ -- region 1
  refine Rg.move rfl rfl ?_
  refine Rg.nilCheck rfl (PtrTo.isPtr (by assumption)) rfl ?_
  refine Rg.fieldAddr (M := M) (A := RT.li) (B := RT.u8.sl) Try.underlying76 rfl rfl I48 (by decide) (li0) rfl rfl (by decide) (by assumption) (by repeat (first | exact Le.refl _ _ | refine Le.trans (Step.le (by assumption)) ?_)) (fun u1_2 hu1_2 => ?_)
  refine Rg.load (M := M) Try.underlying48 rfl rfl rfl rfl rfl (by assumption) (by repeat (first | exact Le.refl _ _ | refine Le.trans (Step.le (by assumption)) ?_)) (fun v1_3 hv1_3 => ?_)
  refine Rg.call rfl rfl E80 (CloneB_spec (M := M) hM hv1_3) (fun r w1 h1 => ?_)
  obtain ⟨hr, s1⟩ := h1
  refine Rg.assign rfl rfl ?_
  refine Rg.nil ?_
  refine T.ret ?_
  exact Kret1 rfl rfl ⟨hr, s1⟩

/-- 'concordance/posting.take' -/
theorem take5_spec {M : PSet} {w0 : World} {v : Value} {b : List UInt8} {at_ ahead : Int} (hM : Lt M w0) (hv : (RT.u8.sl).V M w0 b v) (hat : -9223372036854775808 ≤ at_ ∧ at_ ≤ 9223372036854775807) (hah : -9223372036854775808 ≤ ahead ∧ ahead ≤ 9223372036854775807) (hbl : b.length ≤ 1099511627776) :
    Spec Try.prog 54 #[v, .int .i64 at_, .int .i64 ahead] w0 (fun v' w' => ∃ p, v' = .tuple #[p, .int .i64 (takeP b at_ ahead).2.1, .int .i64 (takeP b at_ ahead).2.2] ∧ RT.po.V M w' (takeP b at_ ahead).1 p ∧ Step M w0 M w' none') := by
  refine spec_of (args := [v, .int .i64 at_, .int .i64 ahead]) (fn := Try.f54) Try.func54 rfl (n := 38) Try.ntmps54 ?_
  refine T.seq ?_
  refine T.region ?_ -- region 0
  refine Rg.alloc M I37 rfl (fun b0 w1 hb0 hb0' hB s1 => ?_)
  have hM1 := s1.lt hM
  have hv1 := hv.le s1.le
  refine Rg.assign rfl rfl ?_
  refine Rg.assign rfl rfl ?_
  refine Rg.nil ?_
  refine T.seq ?_
  refine T.region ?_ -- region 1
  refine Rg.move rfl rfl ?_
  refine Rg.move rfl rfl ?_
  refine Rg.call rfl rfl E78 (Get_spec hv1 hat) (fun r w2 h2 => ?_)
  obtain ⟨rfl, rfl⟩ := h2
  have hgr := get_range b at_
  obtain ⟨hn0, hn1, hn2, hn3⟩ := get_nonneg b at_
  refine Rg.move rfl rfl ?_
  refine Rg.extract rfl rfl rfl ?_
  refine Rg.extract rfl rfl rfl ?_
  refine Rg.extract rfl rfl rfl ?_
  refine Rg.assign rfl rfl ?_
  refine Rg.assign rfl rfl ?_
  refine Rg.assign rfl rfl ?_
  refine Rg.nil ?_
  refine T.seq ?_
  refine T.seq ?_
  refine T.region ?_ -- region 2
  refine Rg.move rfl rfl ?_
  refine Rg.ine rfl rfl rfl ?_
  refine Rg.nil ?_
  refine T.ifp rfl (fun c2 => ?_) (fun c2 => ?_)
  · -- c2 True
    refine T.seq ?_
    refine T.region ?_ -- region 3
    refine Rg.build (places := [(0, 1), (1, 1)]) Try.underlying37 I37 B37 rfl rfl (out := [.int .i64 0, .slice none 0 0]) rfl ?_
    refine Rg.move rfl rfl ?_
    refine Rg.storeaggc (M := ins M b0) I37 rfl rfl (by intro u hu; simp at hu; rcases hu with rfl | rfl <;> rfl) rfl rfl hB (.inl rfl) (fun w3 hB3 s3 => ?_)
    refine Rg.assign rfl rfl ?_
    refine Rg.assign rfl rfl ?_
    refine Rg.nil ?_
    refine T.ret ?_
    have hsz := s1.size
    have S : Step M w0 M w3 none' := (s1.transNew s3 (fun k hk => by subst hk; omega)).back
    refine KretC3 rfl rfl Try.underlying37 rfl I37 rfl hB3 rfl rfl ⟨_, by unfold takeP; rw [if_pos c2] <;> rfl, ?_, S⟩
    unfold takeP; rw [if_pos c2]
    exact V_pair_mk (V_i64 (x := 0) (by omega)) V_nil rfl rfl rfl rfl
  · -- c2 False
    refine T.skip ?_
    refine T.seq ?_
    refine T.region ?_ -- region 4
    refine Rg.move rfl rfl ?_
    refine Rg.move rfl rfl ?_
    have hok := get_ok (b := b) (at_ := at_) (by omega)
    refine Rg.call rfl rfl E79 (GetRising_spec (M := ins M b0) hM1 hv1 (by omega) hbl) (fun r w3 h3 => ?_)
    obtain ⟨x3, rfl, hx3, s3⟩ := h3
    refine Rg.move rfl rfl ?_
    refine Rg.extract rfl rfl rfl ?_
    refine Rg.extract rfl rfl rfl ?_
    refine Rg.extract rfl rfl rfl ?_
    refine Rg.assign rfl rfl ?_
    refine Rg.assign rfl rfl ?_
    refine Rg.assign rfl rfl ?_
    refine Rg.nil ?_
    refine T.seq ?_
    refine T.region ?_ -- region 5
    refine Rg.move rfl rfl ?_
    refine Rg.addw rfl rfl rfl ?_
    refine Rg.move rfl rfl ?_
    refine Rg.addw rfl rfl rfl ?_
    refine Rg.move rfl rfl ?_
    refine Rg.build (places := [(0, 1), (1, 1)]) Try.underlying37 I37 B37 rfl ⟨_, _, rfl, rfl, _, _, rfl, rfl, rfl⟩ (out := [_, _]) ⟨0, [_], rfl, rfl, by simp [Value.cells], 1, [_], rfl, V_cells hx3, by simp [Value.cells], rfl⟩ ?_
    refine Rg.move rfl rfl ?_
    refine Rg.move rfl rfl ?_
    obtain ⟨vx, hvx⟩ : ∃ vx, vx = x3 := ⟨_, rfl⟩
    have hone := V_one hx3 rfl rfl
    refine Rg.storeaggc (M := ins M b0) I37 rfl rfl (by intro u hu; simp at hu; rcases hu with rfl | rfl; rfl; exact hone) rfl rfl (s3.same0 hB) (.inl rfl) (fun w4 hB4 s4 => ?_)
    refine Rg.assign rfl rfl ?_
    refine Rg.assign rfl rfl ?_
    refine Rg.nil ?_
    refine T.ret ?_
    have hsz := s1.size
    have hsz3 := s3.size
    have S3 := s1.trans0 s3
    have S : Step M w0 M w4 none' := (S3.transNew s4 (fun k hk => by subst hk; omega)).back
    refine KretC3 rfl rfl Try.underlying37 rfl I37 rfl hB4 rfl rfl ⟨_, by unfold takeP; rw [if_neg c2] <;> rfl, ?_, S⟩
    unfold takeP; rw [if_neg c2]
    have hx4 := (hx3.le s4.le).le (Le.close hM (S3.transNew s4 (fun k hk => by subst hk; omega)))
    exact V_pair_mk (V_i64 wrap_rng) hx4 rfl rfl rfl rfl

/-- 'concordance/concordanceref05.Good' -/
theorem Good5_spec {M : PSet} {w0 : World} {v : Value} {l : List Po} {most : Nat} (hM : Lt M w0) (hv : ((RT.po).sl).V M w0 l v) (hmost : most ≤ 1000) :
    Spec Try.prog 18 #[v, .int .i64 most] w0 (fun v' w' => Step M w0 M w' none' ∧ ((RT.po).sl).V M w' (goodPo (-1) (l.take most)) v') := by
  have hlen := V_sl_len hv
  refine spec_of (args := [v, .int .i64 most]) (fn := Try.f18) Try.func18 rfl (n := 53) Try.ntmps18 ?_
  refine T.seq ?_
  refine T.region ?_ -- region 0
  refine Rg.assign rfl rfl ?_
  refine Rg.nil ?_
  refine T.seq ?_
  refine T.region ?_ -- region 1
  refine Rg.assign rfl rfl ?_
  refine Rg.nil ?_
  refine T.seq ?_
  refine T.region ?_ -- region 2
  refine Rg.assign rfl rfl ?_
  refine Rg.nil ?_
  refine T.seq ?_
  refine T.seq ?_
  refine T.region ?_ -- region 3
  refine Rg.assign rfl rfl ?_
  refine Rg.nil ?_
  refine T.block ?_
  refine T.loop (σ := Nat × Int × Value × List Po) (fun s => [(0, v), (1, .int .i64 most), (5, s.2.2.1), (6, .int .i64 s.2.1), (7, .int .i64 s.1)]) (fun s w => s.2.2.2 ++ goodPo s.2.1 ((l.take most).drop s.1) = goodPo (-1) (l.take most) ∧ s.1 ≤ l.length ∧ s.1 ≤ most ∧ -1 ≤ s.2.1 ∧ s.2.1 < 50 * s.1 ∧ s.2.2.2.length = s.1 ∧ ∃ M1, Lt M1 w ∧ Step M w0 M1 w none' ∧ Own RT.po 37 M1 w w0.heap.size s.2.2.1 s.2.2.2) (fun s => l.length - s.1) (0, -1, _, []) (.cons rfl (.cons rfl (.cons rfl (.cons rfl (.cons rfl .nil))))) ?_ ?_ -- loop 0
  · exact ⟨rfl, Nat.zero_le _, Nat.zero_le _, by decide, by decide, rfl, M, hM, Step.refl _ _, Own.nil _ _ _ _ _⟩
  · rintro ⟨k, last, u0, acc⟩ w1 ⟨hacc, hk, hkm, hl0, hl1, hal, M1, hM1, S, ho⟩
    dsimp only at hacc hk hkm hl0 hl1 hal ho ⊢
    refine T.seq ?_
    refine T.seq ?_
    refine T.region ?_ -- region 4
    refine Rg.move rfl rfl ?_
    refine Rg.move rfl rfl ?_
    first | refine Rg.lensl Try.underlying28 rfl (by assumption) rfl ?_ | refine Rg.lenown Try.underlying28 rfl (by assumption) rfl ?_
    refine Rg.ilt rfl rfl rfl ?_
    refine Rg.move rfl rfl ?_
    refine Rg.gsplitp (g := 14) rfl (fun g4_4 => ?_) (fun g4_4 => ?_)
    · -- g4_4 True
      refine Rg.gyes rfl rfl ?_
      refine Rg.move rfl rfl ?_
      refine Rg.gyes rfl rfl ?_
      refine Rg.move rfl rfl ?_
      refine Rg.gyes rfl rfl ?_
      refine Rg.ilt rfl rfl rfl ?_
      refine Rg.pickt rfl rfl rfl ?_
      refine Rg.nil ?_
      refine T.ifp rfl (fun c4 => ?_) (fun c4 => ?_)
      · -- c4 True
        refine T.skip ?_
        refine T.seq ?_
        refine T.block ?_
        refine T.seq ?_
        refine T.region ?_ -- region 6
        refine Rg.move rfl rfl ?_
        refine Rg.move rfl rfl ?_
        obtain ⟨⟨d, ps⟩, hx⟩ : ∃ x, l[k]? = some x := ⟨_, List.getElem?_eq_getElem (by omega)⟩
        refine Rg.idx (M := M1) Try.underlying28 I37 rfl rfl rfl (hv.le S.le) (Le.refl _ _) (by omega) (fun u6_2 a6_2 hg6_2 hu6_2 => ?_)
        obtain rfl : a6_2 = (d, ps) := Option.some.inj (hg6_2.symm.trans (by simpa using hx))
        refine Rg.fieldAddr (M := M1) (A := RT.po) (B := RT.int .i64) Try.underlying37 rfl rfl I3 (by decide) (po0) rfl rfl (by decide) (by assumption) (by repeat (first | exact Le.refl _ _ | refine Le.trans (Step.le (by assumption)) ?_)) (fun u6_3 hu6_3 => ?_)
        refine Rg.loadi64 (M := M1) Try.underlying3 rfl rfl hu6_3 (Le.refl _ _) (fun hdr => ?_)
        simp only at hdr
        refine Rg.eqv (v' := .int .i64 d) rfl ?_
        refine Rg.assign rfl rfl ?_
        refine Rg.nil ?_
        refine T.seq ?_
        refine T.seq ?_
        refine T.region ?_ -- region 7
        refine Rg.move rfl rfl ?_
        refine Rg.ilt rfl rfl rfl ?_
        refine Rg.nil ?_
        refine T.ifp rfl (fun c7 => ?_) (fun c7 => ?_)
        · -- c7 True
          refine T.region ?_ -- region 8
          refine Rg.move rfl rfl ?_
          refine Rg.iadd rfl rfl rfl (by omega) ?_
          refine Rg.neg rfl rfl (by omega) ?_
          refine Rg.assign rfl rfl ?_
          refine Rg.nil ?_
          refine T.seq ?_
          refine T.region ?_ -- region 9
          refine Rg.move rfl rfl ?_
          refine Rg.iadd rfl rfl rfl (by omega) ?_
          refine Rg.move rfl rfl ?_
          refine Rg.eqv (v' := .int .i64 (fixD d)) (by unfold fixD; first | rw [if_pos c7] | rw [if_neg c7]) ?_
          have hf0 : 0 ≤ fixD d := by unfold fixD; split <;> omega
          refine Rg.imod rfl rfl rfl (by omega) ?_
          have hmod := Int.emod_nonneg (fixD d) (show (50 : Int) ≠ 0 by decide)
          have hmod2 := Int.emod_lt_of_pos (fixD d) (show (0 : Int) < 50 by decide)
          refine Rg.iadd rfl rfl rfl (by omega) ?_
          refine Rg.assign rfl rfl ?_
          refine Rg.nil ?_
          refine T.seq ?_
          refine T.region ?_ -- region 10
          refine Rg.move rfl rfl ?_
          refine Rg.move rfl rfl ?_
          refine Rg.idx (M := M1) Try.underlying28 I37 rfl rfl rfl (hv.le S.le) (Le.refl _ _) (by omega) (fun u10_2 a10_2 hg10_2 hu10_2 => ?_)
          obtain rfl : a10_2 = (d, ps) := Option.some.inj (hg10_2.symm.trans (by simpa using hx))
          refine Rg.fieldAddr (M := M1) (A := RT.po) (B := (RT.int .i64).sl) Try.underlying37 rfl rfl I23 (by decide) (po1) rfl rfl (by decide) (by assumption) (by repeat (first | exact Le.refl _ _ | refine Le.trans (Step.le (by assumption)) ?_)) (fun u10_3 hu10_3 => ?_)
          refine Rg.load (M := M1) Try.underlying23 rfl rfl rfl rfl rfl (by assumption) (by repeat (first | exact Le.refl _ _ | refine Le.trans (Step.le (by assumption)) ?_)) (fun v10_4 hv10_4 => ?_)
          refine Rg.call rfl rfl E14 (Good_spec (M := M1) (most := 5) hM1 hv10_4 (by decide)) (fun u10 w10 h10 => ?_)
          obtain ⟨s10, hps⟩ := h10
          simp only at hps
          replace S := S.trans0 s10
          replace ho := ho.step0 s10
          replace hM1 := s10.lt hM1
          have hgl := good_len ps 5
          have hmr : (RT.int .i64).V M1 w10 (last + 1 + fixD d % 50) (.int .i64 (last + 1 + fixD d % 50)) := V_i64 (by omega)
          refine Rg.assign rfl rfl ?_
          refine Rg.nil ?_
          refine T.seq ?_
          refine T.seq ?_
          refine T.region ?_ -- region 11
          refine Rg.move rfl rfl ?_
          first | refine Rg.lensl Try.underlying23 rfl (by assumption) rfl ?_ | refine Rg.lenown Try.underlying23 rfl (by assumption) rfl ?_
          refine Rg.ieq rfl rfl rfl ?_
          refine Rg.nil ?_
          refine T.ifp rfl (fun c11 => ?_) (fun c11 => ?_)
          · -- c11 True
            refine T.region ?_ -- region 12
            refine Rg.sl1 (A := RT.int .i64) (hn := by decide) (M := M1) Try.underlying23 I3 (by decide) rfl rfl hM1 (V_i64 (x := 0) (by omega)) (.inr ⟨rfl, rfl⟩) (fun u12 w12 hps12 s12 => ?_)
            replace S := S.trans0 s12
            replace ho := ho.step0 s12
            replace hM1 := s12.lt hM1
            replace hmr := hmr.le s12.le
            clear hps
            have hfx : fixP ps = [0] := by unfold fixP; rw [if_pos (List.length_eq_zero_iff.1 (by omega))]
            have hps : ((RT.int .i64).sl).V M1 w12 (fixP ps) u12 := by rw [hfx]; exact hps12
            refine Rg.assign rfl rfl ?_
            refine Rg.nil ?_
            refine T.region ?_ -- region 13
            refine Rg.move rfl rfl ?_
            refine Rg.move rfl rfl ?_
            refine Rg.move rfl rfl ?_
            refine Rg.build (places := [(0, 1), (1, 1)]) Try.underlying37 I37 B37 rfl ⟨_, _, rfl, rfl, _, _, rfl, rfl, rfl⟩ (out := [_, _]) ⟨0, [_], rfl, rfl, by simp [Value.cells], 1, [_], rfl, V_cells hps, by simp [Value.cells], rfl⟩ ?_
            refine Rg.sl1 (A := RT.po) (hn := by decide) (M := M1) Try.underlying28 I37 (by decide) rfl rfl hM1 (V_pair_mk hmr hps rfl rfl rfl rfl) (.inl rfl) (fun u2 w2 hu2 s2 => ?_)
            refine Rg.append (M := M1) (base := w0.heap.size) Try.underlying28 I37 rfl rfl rfl rfl (ho.step0 s2) hu2 (Le.refl _ _) (by simp; omega) (by simp; omega) (Nat.le_trans S.size s2.size) (fun v3 M3 w3 ho3 s3 => ?_)
            refine Rg.assign rfl rfl ?_
            refine Rg.nil ?_
            refine T.region ?_ -- region 5
            refine Rg.move rfl rfl ?_
            refine Rg.iadd rfl rfl rfl (by omega) ?_
            refine Rg.assign rfl rfl ?_
            refine Rg.nil ?_
            refine ⟨rfl, (k + 1, last + 1 + fixD d % 50, v3, acc ++ [(last + 1 + fixD d % 50, fixP ps)]), (.cons rfl (.cons rfl (.cons rfl (.cons rfl (.cons rfl .nil))))), ?_, ?_⟩
            · refine ⟨?_, by simp only; omega, by simp only; omega, by simp only; omega, by simp only; omega, by simp; omega, M3, s3.lt (s2.lt hM1), (S.trans0 s2).transBlk s3 (ho.step0 s2) (Nat.le_refl _), ho3⟩
              rw [← hacc, goodPo_drop (l := l.take most) (k := k) (d := d) (ps := ps) (by rw [List.getElem?_take, if_pos (by omega)]; exact hx)]; simp
            · simp only; omega
          · -- c11 False
            have hfx : fixP ps = good ps 5 := by unfold fixP; rw [if_neg (fun h => by rw [h] at c11; exact c11 rfl)]
            rw [← hfx] at hps
            refine T.skip ?_
            refine T.region ?_ -- region 13
            refine Rg.move rfl rfl ?_
            refine Rg.move rfl rfl ?_
            refine Rg.move rfl rfl ?_
            refine Rg.build (places := [(0, 1), (1, 1)]) Try.underlying37 I37 B37 rfl ⟨_, _, rfl, rfl, _, _, rfl, rfl, rfl⟩ (out := [_, _]) ⟨0, [_], rfl, rfl, by simp [Value.cells], 1, [_], rfl, V_cells hps, by simp [Value.cells], rfl⟩ ?_
            refine Rg.sl1 (A := RT.po) (hn := by decide) (M := M1) Try.underlying28 I37 (by decide) rfl rfl hM1 (V_pair_mk hmr hps rfl rfl rfl rfl) (.inl rfl) (fun u2 w2 hu2 s2 => ?_)
            refine Rg.append (M := M1) (base := w0.heap.size) Try.underlying28 I37 rfl rfl rfl rfl (ho.step0 s2) hu2 (Le.refl _ _) (by simp; omega) (by simp; omega) (Nat.le_trans S.size s2.size) (fun v3 M3 w3 ho3 s3 => ?_)
            refine Rg.assign rfl rfl ?_
            refine Rg.nil ?_
            refine T.region ?_ -- region 5
            refine Rg.move rfl rfl ?_
            refine Rg.iadd rfl rfl rfl (by omega) ?_
            refine Rg.assign rfl rfl ?_
            refine Rg.nil ?_
            refine ⟨rfl, (k + 1, last + 1 + fixD d % 50, v3, acc ++ [(last + 1 + fixD d % 50, fixP ps)]), (.cons rfl (.cons rfl (.cons rfl (.cons rfl (.cons rfl .nil))))), ?_, ?_⟩
            · refine ⟨?_, by simp only; omega, by simp only; omega, by simp only; omega, by simp only; omega, by simp; omega, M3, s3.lt (s2.lt hM1), (S.trans0 s2).transBlk s3 (ho.step0 s2) (Nat.le_refl _), ho3⟩
              rw [← hacc, goodPo_drop (l := l.take most) (k := k) (d := d) (ps := ps) (by rw [List.getElem?_take, if_pos (by omega)]; exact hx)]; simp
            · simp only; omega
        · -- c7 False
          refine T.skip ?_
          refine T.seq ?_
          refine T.region ?_ -- region 9
          refine Rg.move rfl rfl ?_
          refine Rg.iadd rfl rfl rfl (by omega) ?_
          refine Rg.move rfl rfl ?_
          refine Rg.eqv (v' := .int .i64 (fixD d)) (by unfold fixD; first | rw [if_pos c7] | rw [if_neg c7]) ?_
          have hf0 : 0 ≤ fixD d := by unfold fixD; split <;> omega
          refine Rg.imod rfl rfl rfl (by omega) ?_
          have hmod := Int.emod_nonneg (fixD d) (show (50 : Int) ≠ 0 by decide)
          have hmod2 := Int.emod_lt_of_pos (fixD d) (show (0 : Int) < 50 by decide)
          refine Rg.iadd rfl rfl rfl (by omega) ?_
          refine Rg.assign rfl rfl ?_
          refine Rg.nil ?_
          refine T.seq ?_
          refine T.region ?_ -- region 10
          refine Rg.move rfl rfl ?_
          refine Rg.move rfl rfl ?_
          refine Rg.idx (M := M1) Try.underlying28 I37 rfl rfl rfl (hv.le S.le) (Le.refl _ _) (by omega) (fun u10_2 a10_2 hg10_2 hu10_2 => ?_)
          obtain rfl : a10_2 = (d, ps) := Option.some.inj (hg10_2.symm.trans (by simpa using hx))
          refine Rg.fieldAddr (M := M1) (A := RT.po) (B := (RT.int .i64).sl) Try.underlying37 rfl rfl I23 (by decide) (po1) rfl rfl (by decide) (by assumption) (by repeat (first | exact Le.refl _ _ | refine Le.trans (Step.le (by assumption)) ?_)) (fun u10_3 hu10_3 => ?_)
          refine Rg.load (M := M1) Try.underlying23 rfl rfl rfl rfl rfl (by assumption) (by repeat (first | exact Le.refl _ _ | refine Le.trans (Step.le (by assumption)) ?_)) (fun v10_4 hv10_4 => ?_)
          refine Rg.call rfl rfl E14 (Good_spec (M := M1) (most := 5) hM1 hv10_4 (by decide)) (fun u10 w10 h10 => ?_)
          obtain ⟨s10, hps⟩ := h10
          simp only at hps
          replace S := S.trans0 s10
          replace ho := ho.step0 s10
          replace hM1 := s10.lt hM1
          have hgl := good_len ps 5
          have hmr : (RT.int .i64).V M1 w10 (last + 1 + fixD d % 50) (.int .i64 (last + 1 + fixD d % 50)) := V_i64 (by omega)
          refine Rg.assign rfl rfl ?_
          refine Rg.nil ?_
          refine T.seq ?_
          refine T.seq ?_
          refine T.region ?_ -- region 11
          refine Rg.move rfl rfl ?_
          first | refine Rg.lensl Try.underlying23 rfl (by assumption) rfl ?_ | refine Rg.lenown Try.underlying23 rfl (by assumption) rfl ?_
          refine Rg.ieq rfl rfl rfl ?_
          refine Rg.nil ?_
          refine T.ifp rfl (fun c11 => ?_) (fun c11 => ?_)
          · -- c11 True
            refine T.region ?_ -- region 12
            refine Rg.sl1 (A := RT.int .i64) (hn := by decide) (M := M1) Try.underlying23 I3 (by decide) rfl rfl hM1 (V_i64 (x := 0) (by omega)) (.inr ⟨rfl, rfl⟩) (fun u12 w12 hps12 s12 => ?_)
            replace S := S.trans0 s12
            replace ho := ho.step0 s12
            replace hM1 := s12.lt hM1
            replace hmr := hmr.le s12.le
            clear hps
            have hfx : fixP ps = [0] := by unfold fixP; rw [if_pos (List.length_eq_zero_iff.1 (by omega))]
            have hps : ((RT.int .i64).sl).V M1 w12 (fixP ps) u12 := by rw [hfx]; exact hps12
            refine Rg.assign rfl rfl ?_
            refine Rg.nil ?_
            refine T.region ?_ -- region 13
            refine Rg.move rfl rfl ?_
            refine Rg.move rfl rfl ?_
            refine Rg.move rfl rfl ?_
            refine Rg.build (places := [(0, 1), (1, 1)]) Try.underlying37 I37 B37 rfl ⟨_, _, rfl, rfl, _, _, rfl, rfl, rfl⟩ (out := [_, _]) ⟨0, [_], rfl, rfl, by simp [Value.cells], 1, [_], rfl, V_cells hps, by simp [Value.cells], rfl⟩ ?_
            refine Rg.sl1 (A := RT.po) (hn := by decide) (M := M1) Try.underlying28 I37 (by decide) rfl rfl hM1 (V_pair_mk hmr hps rfl rfl rfl rfl) (.inl rfl) (fun u2 w2 hu2 s2 => ?_)
            refine Rg.append (M := M1) (base := w0.heap.size) Try.underlying28 I37 rfl rfl rfl rfl (ho.step0 s2) hu2 (Le.refl _ _) (by simp; omega) (by simp; omega) (Nat.le_trans S.size s2.size) (fun v3 M3 w3 ho3 s3 => ?_)
            refine Rg.assign rfl rfl ?_
            refine Rg.nil ?_
            refine T.region ?_ -- region 5
            refine Rg.move rfl rfl ?_
            refine Rg.iadd rfl rfl rfl (by omega) ?_
            refine Rg.assign rfl rfl ?_
            refine Rg.nil ?_
            refine ⟨rfl, (k + 1, last + 1 + fixD d % 50, v3, acc ++ [(last + 1 + fixD d % 50, fixP ps)]), (.cons rfl (.cons rfl (.cons rfl (.cons rfl (.cons rfl .nil))))), ?_, ?_⟩
            · refine ⟨?_, by simp only; omega, by simp only; omega, by simp only; omega, by simp only; omega, by simp; omega, M3, s3.lt (s2.lt hM1), (S.trans0 s2).transBlk s3 (ho.step0 s2) (Nat.le_refl _), ho3⟩
              rw [← hacc, goodPo_drop (l := l.take most) (k := k) (d := d) (ps := ps) (by rw [List.getElem?_take, if_pos (by omega)]; exact hx)]; simp
            · simp only; omega
          · -- c11 False
            have hfx : fixP ps = good ps 5 := by unfold fixP; rw [if_neg (fun h => by rw [h] at c11; exact c11 rfl)]
            rw [← hfx] at hps
            refine T.skip ?_
            refine T.region ?_ -- region 13
            refine Rg.move rfl rfl ?_
            refine Rg.move rfl rfl ?_
            refine Rg.move rfl rfl ?_
            refine Rg.build (places := [(0, 1), (1, 1)]) Try.underlying37 I37 B37 rfl ⟨_, _, rfl, rfl, _, _, rfl, rfl, rfl⟩ (out := [_, _]) ⟨0, [_], rfl, rfl, by simp [Value.cells], 1, [_], rfl, V_cells hps, by simp [Value.cells], rfl⟩ ?_
            refine Rg.sl1 (A := RT.po) (hn := by decide) (M := M1) Try.underlying28 I37 (by decide) rfl rfl hM1 (V_pair_mk hmr hps rfl rfl rfl rfl) (.inl rfl) (fun u2 w2 hu2 s2 => ?_)
            refine Rg.append (M := M1) (base := w0.heap.size) Try.underlying28 I37 rfl rfl rfl rfl (ho.step0 s2) hu2 (Le.refl _ _) (by simp; omega) (by simp; omega) (Nat.le_trans S.size s2.size) (fun v3 M3 w3 ho3 s3 => ?_)
            refine Rg.assign rfl rfl ?_
            refine Rg.nil ?_
            refine T.region ?_ -- region 5
            refine Rg.move rfl rfl ?_
            refine Rg.iadd rfl rfl rfl (by omega) ?_
            refine Rg.assign rfl rfl ?_
            refine Rg.nil ?_
            refine ⟨rfl, (k + 1, last + 1 + fixD d % 50, v3, acc ++ [(last + 1 + fixD d % 50, fixP ps)]), (.cons rfl (.cons rfl (.cons rfl (.cons rfl (.cons rfl .nil))))), ?_, ?_⟩
            · refine ⟨?_, by simp only; omega, by simp only; omega, by simp only; omega, by simp only; omega, by simp; omega, M3, s3.lt (s2.lt hM1), (S.trans0 s2).transBlk s3 (ho.step0 s2) (Nat.le_refl _), ho3⟩
              rw [← hacc, goodPo_drop (l := l.take most) (k := k) (d := d) (ps := ps) (by rw [List.getElem?_take, if_pos (by omega)]; exact hx)]; simp
            · simp only; omega
      · -- c4 False
        refine T.exit ?_
        refine T.seq ?_
        refine T.region ?_ -- region 14
        refine Rg.move rfl rfl ?_
        refine Rg.assign rfl rfl ?_
        refine Rg.nil ?_
        refine T.ret ?_
        refine Kret1 rfl rfl ⟨S.back, ?_⟩
        rw [← hacc, List.drop_eq_nil_of_le (by rw [List.length_take]; omega), goodPo, List.append_nil]
        exact Own.close hM S ho (by omega)
    · -- g4_4 False
      refine Rg.gno rfl rfl rfl rfl ?_
      refine Rg.gno rfl rfl rfl rfl ?_
      refine Rg.gno rfl rfl rfl rfl ?_
      refine Rg.pickf rfl rfl rfl ?_
      refine Rg.nil ?_
      refine T.iff rfl ?_
      refine T.exit ?_
      refine T.seq ?_
      refine T.region ?_ -- region 14
      refine Rg.move rfl rfl ?_
      refine Rg.assign rfl rfl ?_
      refine Rg.nil ?_
      refine T.ret ?_
      refine Kret1 rfl rfl ⟨S.back, ?_⟩
      rw [← hacc, List.drop_eq_nil_of_le (by rw [List.length_take]; omega), goodPo, List.append_nil]
      exact Own.close hM S ho (by omega)

/-- '(*concordance/posting.List).Block' -/
theorem Block_spec {M : PSet} {w0 : World} {v : Value} {l : List Po} {k : Int} (hM : Lt M w0) (hv : PtrTo RT.li M w0 v (mkLi l)) (hmay : mayPo (-1) l = true) (hps : ∀ p ∈ l, p.2.length ≤ 1099511627776) (hbl : (putPo (-1) l).length ≤ 1099511627776) :
    Spec Try.prog 21 #[v, .int .i64 k] w0 (fun v' w' => Step M w0 M w' none' ∧ ((RT.po).sl).V M w' (if isB ((l.length + 7) / 8) k then (l.drop (8 * k.toNat)).take 8 else []) v') := by
  have hbl2 : (mkLi l).2.1.length = (l.length + 7) / 8 := by simp [mkLi, blks]
  refine spec_of (args := [v, .int .i64 k]) (fn := Try.f21) Try.func21 rfl (n := 51) Try.ntmps21 ?_
  refine T.seq ?_
  refine T.region ?_ -- region 0
  refine Rg.assign rfl rfl ?_
  refine Rg.nil ?_
  refine T.seq ?_
  refine T.seq ?_
  refine T.region ?_ -- region 1
  refine Rg.move rfl rfl ?_
  refine Rg.move rfl rfl ?_
  refine Rg.call rfl rfl E53 (is_spec hv (k := k)) (fun r w1 h1 => ?_)
  obtain ⟨rfl, rfl⟩ := h1
  refine Rg.not rfl rfl ?_
  refine Rg.eqv (v' := .bool (decide (¬ (0 ≤ k ∧ k < (mkLi l).2.1.length)))) (by unfold isB; rw [decide_not]) ?_
  refine Rg.nil ?_
  refine T.ifp rfl (fun c1 => ?_) (fun c1 => ?_)
  · -- c1 True
    refine T.seq ?_
    refine T.region ?_ -- region 2
    refine Rg.assign rfl rfl ?_
    refine Rg.nil ?_
    refine T.ret ?_
    refine Kret1 rfl rfl ⟨Step.refl _ _, ?_⟩
    rw [if_neg (by unfold isB; rw [hbl2] at c1; simpa using c1)]
    exact V_nil
  · -- c1 False
    refine T.skip ?_
    refine T.seq ?_
    refine T.region ?_ -- region 3
    refine Rg.move rfl rfl ?_
    refine Rg.nilCheck rfl (PtrTo.isPtr (by assumption)) rfl ?_
    refine Rg.fieldAddr (M := M) (A := RT.li) (B := (RT.bl).sl) Try.underlying76 rfl rfl I74 (by decide) (li1) rfl rfl (by decide) (by assumption) (by repeat (first | exact Le.refl _ _ | refine Le.trans (Step.le (by assumption)) ?_)) (fun u3_2 hu3_2 => ?_)
    refine Rg.load (M := M) Try.underlying74 rfl rfl rfl rfl rfl (by assumption) (by repeat (first | exact Le.refl _ _ | refine Le.trans (Step.le (by assumption)) ?_)) (fun v3_3 hv3_3 => ?_)
    refine Rg.move rfl rfl ?_
    obtain ⟨j, rfl⟩ : ∃ j : Nat, k = j := ⟨k.toNat, by omega⟩
    have hb : (mkLi l).2.1[j]? = some (blkOf l j) := by simp only [mkLi, blks, List.getElem?_map]; rw [List.getElem?_range (by omega)]; rfl
    refine Rg.idx (M := M) Try.underlying74 I81 rfl rfl rfl (by assumption) (Le.refl _ _) (by omega) (fun u3_5 a3_5 hg3_5 hu3_5 => ?_)
    obtain rfl : a3_5 = blkOf l j := Option.some.inj (hg3_5.symm.trans (by simpa using hb))
    have hmany : (blkOf l j).2.2.2 = (((l.drop (8 * j)).take 8).length : Int) := rfl
    have hownl : ((l.drop (8 * j)).take 8).length ≤ 8 := by rw [List.length_take]; omega
    refine Rg.loadagg (M := M) (A := RT.bl) Try.underlying81 rfl I81 (by decide) rfl rfl rfl (by assumption) (by repeat (first | exact Le.refl _ _ | refine Le.trans (Step.le (by assumption)) ?_)) (fun v3_6 hv3_6 => ?_)
    refine Rg.newagg (A := RT.bl) (M := M) I81 rfl rfl rfl rfl rfl (by assumption) (by repeat (first | exact Le.refl _ _ | refine Le.trans (Step.le (by assumption)) ?_)) (by first | assumption | exact Step.lt (by assumption) (by assumption) | exact Step.lt (by assumption) (Step.lt (by assumption) (by assumption))) (fun u3_7 w3_7 hu3_7 s3_7 z3_7 => ?_)
    refine Rg.nil ?_
    refine T.seq ?_
    refine T.region ?_ -- region 4
    refine Rg.assign rfl rfl ?_
    refine Rg.nil ?_
    refine T.seq ?_
    refine T.seq ?_
    apply T.draw (M := M) mixed [Asr.ptr (RT.int .i64) (blkOf l j).1, Asr.eq _, Asr.ptr (RT.int .i64) (blkOf l j).2.1, Asr.eq _, Asr.eq _, Asr.eq _] -- region 5
    · rfl
    · -- its operations
      refine Obls.cons ?_ ?_
      · intro wD E sD -- 0
        refine Rg.fieldAddr (M := M) (A := RT.bl) (B := RT.int .i64) Try.underlying81 rfl rfl I3 (by decide) (bl0) rfl rfl (by decide) (by assumption) (by repeat (first | exact Le.refl _ _ | refine Le.trans (Step.le (by assumption)) ?_)) (fun u5_0 hu5_0 => ?_)
        exact Rg.nil ⟨rfl, rfl, _, rfl, by assumption, Step.refl _ _⟩
      refine Obls.cons ?_ ?_
      · intro wD E sD -- 1
        intro v0 hv0
        refine Rg.loadi64 (M := M) Try.underlying3 rfl rfl (by assumption) (by repeat (first | exact Le.refl _ _ | refine Le.trans (Step.le (by assumption)) ?_)) (fun in5_1 => ?_)
        exact Rg.nil ⟨rfl, rfl, _, rfl, rfl, Step.refl _ _⟩
      refine Obls.cons ?_ ?_
      · intro wD E sD -- 2
        refine Rg.fieldAddr (M := M) (A := RT.bl) (B := RT.int .i64) Try.underlying81 rfl rfl I3 (by decide) (bl1) rfl rfl (by decide) (by assumption) (by repeat (first | exact Le.refl _ _ | refine Le.trans (Step.le (by assumption)) ?_)) (fun u5_2 hu5_2 => ?_)
        exact Rg.nil ⟨rfl, rfl, _, rfl, by assumption, Step.refl _ _⟩
      refine Obls.cons ?_ ?_
      · intro wD E sD -- 3
        intro v2 hv2
        refine Rg.loadi64 (M := M) Try.underlying3 rfl rfl (by assumption) (by repeat (first | exact Le.refl _ _ | refine Le.trans (Step.le (by assumption)) ?_)) (fun in5_3 => ?_)
        exact Rg.nil ⟨rfl, rfl, _, rfl, rfl, Step.refl _ _⟩
      refine Obls.cons ?_ ?_
      · intro wD E sD -- 4
        intro x_ hx_; have hx_ : x_ = _ := hx_; subst x_
        intro v0 hv0
        intro x_ hx_; have hx_ : x_ = _ := hx_; subst x_
        refine Rg.assign rfl rfl ?_
        exact Rg.nil ⟨rfl, rfl, _, rfl, rfl, Step.refl _ _⟩
      refine Obls.cons ?_ ?_
      · intro wD E sD -- 5
        intro x_ hx_; have hx_ : x_ = _ := hx_; subst x_
        intro x_ hx_; have hx_ : x_ = _ := hx_; subst x_
        intro v0 hv0
        intro x_ hx_; have hx_ : x_ = _ := hx_; subst x_
        intro v2 hv2
        intro x_ hx_; have hx_ : x_ = _ := hx_; subst x_
        intro x_ hx_; have hx_ : x_ = _ := hx_; subst x_
        refine Rg.assign rfl rfl ?_
        exact Rg.nil ⟨rfl, rfl, _, rfl, rfl, Step.refl _ _⟩
      exact Obls.nil
    · -- behind it
      intro wD5 sD5
      intro v5_0 hv5_0
      intro x_ hx_; have hx_ : x_ = _ := hx_; subst x_
      intro v5_2 hv5_2
      intro x_ hx_; have hx_ : x_ = _ := hx_; subst x_
      intro x_ hx_; have hx_ : x_ = _ := hx_; subst x_
      intro x_ hx_; have hx_ : x_ = _ := hx_; subst x_
      refine T.block ?_
      have hz5 := s3_7.size
      refine T.loop (σ := Nat × Value) (fun s => [(0, v), (5, u3_7), (6, s.2), (7, .int .i64 (putPo (-1) (l.take (8 * j + s.1))).length), (8, .int .i64 (lastPo (-1) (l.take (8 * j + s.1))))]) (fun s w => s.1 ≤ ((l.drop (8 * j)).take 8).length ∧ ∃ M1, Lt M1 w ∧ Step M w0 M1 w none' ∧ Step M w3_7 M1 w none' ∧ Own RT.po 37 M1 w w3_7.heap.size s.2 (((l.drop (8 * j)).take 8).take s.1)) (fun s => ((l.drop (8 * j)).take 8).length - s.1) (0, _) (.cons rfl (.cons rfl (.cons rfl (.cons rfl (.cons rfl .nil))))) ?_ ?_ -- loop 0
      · exact ⟨Nat.zero_le _, M, sD5.lt (s3_7.lt hM), s3_7.trans0 sD5, sD5, Own.nil _ _ _ _ _⟩
      · rintro ⟨i, u0⟩ w1 ⟨hi, M1, hM1, S, S5, ho⟩
        dsimp only at hi ho ⊢
        refine T.seq ?_
        refine T.seq ?_
        refine T.region ?_ -- region 6
        refine Rg.move rfl rfl ?_
        refine Rg.lenown Try.underlying28 rfl ho rfl ?_
        refine Rg.eqv (v' := .int .i64 i) (by rw [List.length_take, Nat.min_eq_left hi]) ?_
        refine Rg.fieldAddr (M := M1) (A := RT.bl) (B := RT.int .i64) Try.underlying81 rfl rfl I3 (by decide) (bl3) rfl rfl (by decide) (by assumption) (by repeat (first | exact Le.refl _ _ | refine Le.trans (Step.le (by assumption)) ?_)) (fun u6_2 hu6_2 => ?_)
        refine Rg.loadi64 (M := M1) Try.underlying3 rfl rfl hu6_2 (Le.refl _ _) (fun in6_3 => ?_)
        refine Rg.eqv (v' := .int .i64 ((l.drop (8 * j)).take 8).length) rfl ?_
        refine Rg.ilt rfl rfl rfl ?_
        refine Rg.nil ?_
        refine T.ifp rfl (fun c6 => ?_) (fun c6 => ?_)
        · -- c6 True
          refine T.skip ?_
          refine T.block ?_
          refine T.seq ?_
          refine T.region ?_ -- region 7
          refine Rg.move rfl rfl ?_
          refine Rg.nilCheck rfl (PtrTo.isPtr (by assumption)) rfl ?_
          refine Rg.fieldAddr (M := M1) (A := RT.li) (B := RT.u8.sl) Try.underlying76 rfl rfl I48 (by decide) (li0) rfl rfl (by decide) (by assumption) (by repeat (first | exact Le.refl _ _ | refine Le.trans (Step.le (by assumption)) ?_)) (fun u7_2 hu7_2 => ?_)
          refine Rg.load (M := M1) Try.underlying48 rfl rfl rfl rfl rfl (by assumption) (by repeat (first | exact Le.refl _ _ | refine Le.trans (Step.le (by assumption)) ?_)) (fun v7_3 hv7_3 => ?_)
          refine Rg.move rfl rfl ?_
          refine Rg.move rfl rfl ?_
          obtain ⟨⟨d, ps⟩, hx⟩ : ∃ x, l[8 * j + i]? = some x := ⟨_, List.getElem?_eq_getElem (by rw [List.length_take, List.length_drop] at c6; omega)⟩
          obtain ⟨f1, f2, f3, f4, f5, f6⟩ := may_at hmay hx
          have htk : takeP (mkLi l).1 _ _ = _ := takeP_at hmay hx (hps _ (List.mem_of_getElem? hx))
          have hpre : (putPo (-1) (l.take (8 * j + i))).length ≤ (putPo (-1) l).length := by rw [putPo_split (l := l) (i := 8 * j + i) (-1)]; simp
          refine Rg.call rfl rfl E54 (take5_spec (M := M1) hM1 hv7_3 (by omega) (by omega) hbl) (fun r7 w7 h7 => ?_)
          obtain ⟨p7, h7e, hp7, s7⟩ := h7
          rw [htk] at h7e hp7
          subst h7e
          change RT.po.V M1 w7 (d, ps) p7 at hp7
          replace S := S.trans0 s7
          replace S5 := S5.trans0 s7
          replace ho := ho.step0 s7
          replace hM1 := s7.lt hM1
          have hci : ((l.drop (8 * j)).take 8)[i]? = some (d, ps) := by rw [List.getElem?_take, if_pos (by omega), List.getElem?_drop]; exact hx
          refine Rg.move rfl rfl ?_
          refine Rg.extract rfl rfl rfl ?_
          refine Rg.extract rfl rfl rfl ?_
          refine Rg.extract rfl rfl rfl ?_
          refine Rg.newagg (A := RT.po) (M := M1) I37 rfl rfl rfl rfl rfl (by assumption) (by repeat (first | exact Le.refl _ _ | refine Le.trans (Step.le (by assumption)) ?_)) (by first | assumption | exact Step.lt (by assumption) (by assumption) | exact Step.lt (by assumption) (Step.lt (by assumption) (by assumption))) (fun u7_11 w7_11 hu7_11 s7_11 z7_11 => ?_)
          refine Rg.assign rfl rfl ?_
          refine Rg.assign rfl rfl ?_
          refine Rg.nil ?_
          refine T.seq ?_
          refine T.region ?_ -- region 8
          refine Rg.move rfl rfl ?_
          replace S := S.trans0 s7_11
          replace S5 := S5.trans0 s7_11
          replace ho := ho.step0 s7_11
          replace hM1 := s7_11.lt hM1
          clear hp7
          refine Rg.loadagg (M := M1) (A := RT.po) Try.underlying37 rfl I37 (by decide) rfl rfl rfl hu7_11 (Le.refl _ _) (fun v8 hv8 => ?_)
          refine Rg.sl1 (A := RT.po) (hn := by decide) (M := M1) Try.underlying28 I37 (by decide) rfl rfl hM1 hv8 (.inl rfl) (fun u2 w2 hu2 s2 => ?_)
          refine Rg.append (M := M1) (base := w3_7.heap.size) Try.underlying28 I37 rfl rfl rfl rfl (ho.step0 s2) hu2 (Le.refl _ _) (by simp; omega) (by simp; omega) (Nat.le_trans S5.size s2.size) (fun v3 M3 w3 ho3 s3 => ?_)
          replace S := (S.trans0 s2).transBlk s3 (ho.step0 s2) hz5
          have hu9 := (hu7_11.le (by decide) s2.le).le (by decide) s3.le
          have hM3 := s3.lt (s2.lt hM1)
          replace S5 := (S5.trans0 s2).transBlk s3 (ho.step0 s2) (Nat.le_refl _)
          refine Rg.assign rfl rfl ?_
          refine Rg.nil ?_
          apply T.draw (M := M3) mixed [Asr.eq _, Asr.ptr (RT.int .i64) d, Asr.eq _, Asr.eq _, Asr.eq _] -- region 9
          · rfl
          · -- its operations
            refine Obls.cons ?_ ?_
            · intro wD E sD -- 0
              refine Rg.move rfl rfl ?_
              exact Rg.nil ⟨rfl, rfl, _, rfl, rfl, Step.refl _ _⟩
            refine Obls.cons ?_ ?_
            · intro wD E sD -- 1
              refine Rg.fieldAddr (M := M3) (A := RT.po) (B := RT.int .i64) Try.underlying37 rfl rfl I3 (by decide) (po0) rfl rfl (by decide) hu9 sD.le (fun u9_1 hu9_1 => ?_)
              exact Rg.nil ⟨rfl, rfl, _, rfl, hu9_1, Step.refl _ _⟩
            refine Obls.cons ?_ ?_
            · intro wD E sD -- 2
              intro v1 hv1
              refine Rg.loadi64 (M := M3) Try.underlying3 rfl rfl (by assumption) (by repeat (first | exact Le.refl _ _ | refine Le.trans (Step.le (by assumption)) ?_)) (fun in9_2 => ?_)
              exact Rg.nil ⟨rfl, rfl, _, rfl, rfl, Step.refl _ _⟩
            refine Obls.cons ?_ ?_
            · intro wD E sD -- 3
              intro x_ hx_; have hx_ : x_ = _ := hx_; subst x_
              intro x_ hx_; have hx_ : x_ = _ := hx_; subst x_
              refine Rg.assign rfl rfl ?_
              exact Rg.nil ⟨rfl, rfl, _, rfl, rfl, Step.refl _ _⟩
            refine Obls.cons ?_ ?_
            · intro wD E sD -- 4
              intro x_ hx_; have hx_ : x_ = _ := hx_; subst x_
              intro x_ hx_; have hx_ : x_ = _ := hx_; subst x_
              intro x_ hx_; have hx_ : x_ = _ := hx_; subst x_
              intro v1 hv1
              intro x_ hx_; have hx_ : x_ = _ := hx_; subst x_
              intro x_ hx_; have hx_ : x_ = _ := hx_; subst x_
              refine Rg.assign rfl rfl ?_
              exact Rg.nil ⟨rfl, rfl, _, rfl, rfl, Step.refl _ _⟩
            exact Obls.nil
          · -- behind it
            intro wD9 sD9
            intro x_ hx_; have hx_ : x_ = _ := hx_; subst x_
            intro v9_1 hv9_1
            intro x_ hx_; have hx_ : x_ = _ := hx_; subst x_
            intro x_ hx_; have hx_ : x_ = _ := hx_; subst x_
            intro x_ hx_; have hx_ : x_ = _ := hx_; subst x_
            refine ⟨rfl, (i + 1, v3), (.cons rfl (.cons rfl (.cons rfl (.cons rfl (.cons (by rw [← f5]; rfl) .nil))))), ?_, ?_⟩
            · refine ⟨by simp only; omega, M3, sD9.lt hM3, S.trans0 sD9, S5.trans0 sD9, ?_⟩
              simp only
              obtain ⟨hc1, hc2⟩ := List.getElem?_eq_some_iff.1 hci
              rw [List.take_succ_eq_append_getElem hc1, hc2]
              exact ho3.step0 sD9
            · simp only; omega
        · -- c6 False
          refine T.exit ?_
          refine T.seq ?_
          refine T.region ?_ -- region 10
          refine Rg.move rfl rfl ?_
          refine Rg.assign rfl rfl ?_
          refine Rg.nil ?_
          refine T.ret ?_
          refine Kret1 rfl rfl ⟨S.back, ?_⟩
          rw [if_pos (by unfold isB; rw [hbl2] at c1; simpa using c1), Int.toNat_natCast]
          rw [List.take_of_length_le (by omega)] at ho
          exact Own.close hM S (ho.rebase hz5) (by omega)

end Go.K

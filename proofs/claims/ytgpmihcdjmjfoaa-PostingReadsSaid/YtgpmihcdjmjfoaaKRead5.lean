/- The walks of Go functions, operation by operation. -/
import Derived.Test.YtgpmihcdjmjfoaaKTypes
import Derived.Test.YtgpmihcdjmjfoaaKNum
import Derived.Test.YtgpmihcdjmjfoaaKPost
import Derived.Test.YtgpmihcdjmjfoaaKPtr
import Derived.Test.YtgpmihcdjmjfoaaKRead
import Derived.Test.YtgpmihcdjmjfoaaKDraw
import Derived.Test.YtgpmihcdjmjfoaaKRef04
import Derived.Test.YtgpmihcdjmjfoaaKPosting
import Derived.Test.YtgpmihcdjmjfoaaKMake
import Derived.Test.YtgpmihcdjmjfoaaKMake2
import Derived.Test.YtgpmihcdjmjfoaaKMay5
import Derived.Test.YtgpmihcdjmjfoaaKSame5
import Derived.Test.YtgpmihcdjmjfoaaProg
import Derived.KernelRfl
namespace Go.K
open Go.Proofs
namespace TKRead5
theorem I37 : TI Try.prog 37 (.agg #[(.int .i64 0), (.slice none 0 0)]) 2 32 := by unfold TI; kernel_rfl -- api.Posting
theorem I48 : TI Try.prog 48 (.slice none 0 0) 1 24 := by unfold TI; kernel_rfl -- []uint8
theorem B37 : placesOf Try.prog 37 = [(0, 1), (1, 1)].map some := by kernel_rfl
theorem E19 : Enters Try.prog 19 := enters Try.func19 rfl (by decide) -- concordance/posting.Make
theorem E27 : Enters Try.prog 27 := enters Try.func27 rfl (by decide) -- concordance/concordanceref05.May
theorem E36 : Enters Try.prog 36 := enters Try.func36 rfl (by decide) -- concordance/concordanceref05.Bytes
theorem E54 : Enters Try.prog 54 := enters Try.func54 rfl (by decide) -- concordance/posting.take
theorem E63 : Enters Try.prog 63 := enters Try.func63 rfl (by decide) -- concordance/concordanceref04.Get
theorem E64 : Enters Try.prog 64 := enters Try.func64 rfl (by decide) -- concordance/concordanceref04.GetRising
end TKRead5
open TKRead5
set_option linter.unusedVariables false
set_option linter.unusedSimpArgs false
set_option maxRecDepth 10000

set_option maxHeartbeats 1000000 in
/-- 'concordance/posting.Read' -/
theorem Read5_spec {M : PSet} {w0 : World} {v : Value} {b : List UInt8} {many : Int} (hM : Lt M w0) (hv : (RT.u8.sl).V M w0 b v) (hmr : -9223372036854775808 ≤ many ∧ many ≤ 9223372036854775807) (hbl : b.length ≤ 1099511627776) :
    Spec Try.prog 34 #[.int .i64 many, v] w0 (fun v' w' => Step M w0 M w' none' ∧ ((∃ l p, RP many b l ∧ v' = .tuple #[p, .int .i64 0] ∧ PtrTo RT.li M w' p (mkLi l)) ∨ ((¬ ∃ l, RP many b l) ∧ v' = .tuple #[.pointer none, .int .i64 2]))) := by
  have hlen := V_sl_len hv
  refine spec_of (args := [.int .i64 many, v]) (fn := Try.f34) Try.func34 rfl (n := 62) Try.ntmps34 ?_
  refine T.seq ?_
  refine T.region ?_ -- region 0
  refine Rg.assign rfl rfl ?_
  refine Rg.assign rfl rfl ?_
  refine Rg.nil ?_
  refine T.seq ?_
  refine T.region ?_ -- region 1
  refine Rg.assign rfl rfl ?_
  refine Rg.nil ?_
  refine T.seq ?_
  refine T.region ?_ -- region 2
  refine Rg.assign rfl rfl ?_
  refine Rg.nil ?_
  refine T.seq ?_
  refine T.seq ?_
  refine T.region ?_ -- region 3
  refine Rg.assign rfl rfl ?_
  refine Rg.nil ?_
  refine T.block ?_
  refine T.loop (σ := List Po × Value × Int) (fun s => [(0, .int .i64 many), (1, v), (6, s.2.1), (7, .int .i64 (lastPo (-1) s.1)), (8, .int .i64 s.2.2)]) (fun s w => RD b s.1 s.2.2 ∧ (s.1 = [] ∨ (s.1.length : Int) ≤ many) ∧ (-9223372036854775808 ≤ (lastPo (-1) s.1) ∧ (lastPo (-1) s.1) ≤ 9223372036854775807) ∧ ∃ M1, Lt M1 w ∧ Step M w0 M1 w none' ∧ Own RT.po 37 M1 w w0.heap.size s.2.1 s.1) (fun s => (many - (s.1.length : Int)).toNat) ([], _, 0) (.cons rfl (.cons rfl (.cons rfl (.cons rfl (.cons rfl .nil))))) ?_ ?_ -- loop 0
  · exact ⟨RD.nil b, .inl rfl, by decide, M, hM, Step.refl _ _, Own.nil _ _ _ _ _⟩
  · rintro ⟨o, u0, a⟩ w1 ⟨hrd, hom, hlr, M1, hM1, S, ho⟩
    dsimp only at hrd hom hlr ho ⊢
    obtain ⟨hr1, hr2, hr3, hr4, hr5, hr6⟩ := id hrd
    have htn := totPo_nonneg o
    refine T.seq ?_
    refine T.seq ?_
    refine T.region ?_ -- region 4
    refine Rg.move rfl rfl ?_
    first | refine Rg.lensl Try.underlying28 rfl (by assumption) rfl ?_ | refine Rg.lenown Try.underlying28 rfl (by assumption) rfl ?_
    refine Rg.move rfl rfl ?_
    refine Rg.ilt rfl rfl rfl ?_
    refine Rg.nil ?_
    refine T.ifp rfl (fun c4 => ?_) (fun c4 => ?_)
    · -- c4 True
      refine T.skip ?_
      refine T.block ?_
      refine T.seq ?_
      refine T.region ?_ -- region 5
      refine Rg.move rfl rfl ?_
      refine Rg.move rfl rfl ?_
      refine Rg.move rfl rfl ?_
      generalize htk : takeP b a (lastPo (-1) o) = tk
      refine Rg.call rfl rfl E54 (take5_spec (M := M1) hM1 (hv.le S.le) (by omega) hlr hbl) (fun r2 w2 h2 => ?_)
      obtain ⟨p7, h2e, hp7, s2⟩ := h2
      rw [htk] at h2e hp7
      obtain ⟨⟨d, ps⟩, next, e⟩ := tk
      subst h2e
      simp only at hp7
      replace S := S.trans0 s2
      replace ho := ho.step0 s2
      replace hM1 := s2.lt hM1
      refine Rg.move rfl rfl ?_
      refine Rg.extract rfl rfl rfl ?_
      refine Rg.extract rfl rfl rfl ?_
      refine Rg.extract rfl rfl rfl ?_
      refine Rg.newagg (A := RT.po) (M := M1) I37 rfl rfl rfl rfl rfl (by assumption) (by repeat (first | exact Le.refl _ _ | refine Le.trans (Step.le (by assumption)) ?_)) (by first | assumption | exact Step.lt (by assumption) (by assumption) | exact Step.lt (by assumption) (Step.lt (by assumption) (by assumption))) (fun u5_8 w5_8 hu5_8 s5_8 z5_8 => ?_)
      refine Rg.assign rfl rfl ?_
      refine Rg.assign rfl rfl ?_
      refine Rg.nil ?_
      refine T.seq ?_
      refine T.seq ?_
      refine T.region ?_ -- region 6
      refine Rg.move rfl rfl ?_
      refine Rg.ine rfl rfl rfl ?_
      refine Rg.move rfl rfl ?_
      refine Rg.gsplitp (g := 28) rfl (fun g6_2 => ?_) (fun g6_2 => ?_)
      · -- g6_2 True
        refine Rg.gno rfl rfl rfl rfl ?_
        refine Rg.gno rfl rfl rfl rfl ?_
        refine Rg.gno rfl rfl rfl rfl ?_
        refine Rg.pickt rfl rfl rfl ?_
        refine Rg.nil ?_
        refine T.ift rfl ?_
        refine T.seq ?_
        refine T.region ?_ -- region 7
        refine Rg.assign rfl rfl ?_
        refine Rg.assign rfl rfl ?_
        refine Rg.nil ?_
        refine T.ret ?_
        refine Kret2 rfl rfl rfl ⟨(S.trans0 s5_8).back, .inr ⟨hrd.none hbl ?_ c4, rfl⟩⟩
        rw [htk]
        first | exact .inl g6_2 | exact .inr c6
      · -- g6_2 False
        obtain rfl : e = 0 := Decidable.not_not.1 g6_2
        refine Rg.gyes rfl rfl ?_
        refine Rg.fieldAddr (M := M1) (A := RT.po) (B := RT.int .i64) Try.underlying37 rfl rfl I3 (by decide) (po0) rfl rfl (by decide) (by assumption) (by repeat (first | exact Le.refl _ _ | refine Le.trans (Step.le (by assumption)) ?_)) (fun u6_3 hu6_3 => ?_)
        refine Rg.gyes rfl rfl ?_
        refine Rg.loadi64 (M := M1) Try.underlying3 rfl rfl hu6_3 (Le.refl _ _) (fun hdr => ?_)
        refine Rg.eqv (v' := .int .i64 d) rfl ?_
        simp only at hdr
        refine Rg.gyes rfl rfl ?_
        refine Rg.ilt rfl rfl rfl ?_
        refine Rg.pickf rfl rfl rfl ?_
        refine Rg.nil ?_
        refine T.ifp rfl (fun c6 => ?_) (fun c6 => ?_)
        · -- c6 True
          refine T.seq ?_
          refine T.region ?_ -- region 7
          refine Rg.assign rfl rfl ?_
          refine Rg.assign rfl rfl ?_
          refine Rg.nil ?_
          refine T.ret ?_
          refine Kret2 rfl rfl rfl ⟨(S.trans0 s5_8).back, .inr ⟨hrd.none hbl ?_ c4, rfl⟩⟩
          rw [htk]
          first | exact .inl g6_2 | exact .inr c6
        · -- c6 False
          refine T.skip ?_
          refine T.seq ?_
          refine T.region ?_ -- region 8
          refine Rg.move rfl rfl ?_
          have hpt := hu5_8
          replace S := S.trans0 s5_8
          replace ho := ho.step0 s5_8
          replace hM1 := s5_8.lt hM1
          clear hp7
          refine Rg.loadagg (M := M1) (A := RT.po) Try.underlying37 rfl I37 (by decide) rfl rfl rfl hu5_8 (Le.refl _ _) (fun v8 hv8 => ?_)
          refine Rg.sl1 (A := RT.po) (hn := by decide) (M := M1) Try.underlying28 I37 (by decide) rfl rfl hM1 hv8 (.inl rfl) (fun u2 w4 hu2 s4 => ?_)
          refine Rg.append (M := M1) (base := w0.heap.size) Try.underlying28 I37 rfl rfl rfl rfl (ho.step0 s4) hu2 (Le.refl _ _) (by simp; omega) (by simp; omega) (Nat.le_trans S.size s4.size) (fun v3 M3 w5 ho3 s5 => ?_)
          replace S := (S.trans0 s4).transBlk s5 (ho.step0 s4) (Nat.le_refl _)
          have hu9 := (hu5_8.le (by decide) s4.le).le (by decide) s5.le
          have hM3 := s5.lt (s4.lt hM1)
          refine Rg.assign rfl rfl ?_
          refine Rg.nil ?_
          apply T.draw (M := M3) mixed [Asr.eq _, Asr.ptr (RT.int .i64) d, Asr.eq (.int .i64 d), Asr.eq _, Asr.eq _] -- region 9
          · rfl
          · -- its operations
            refine Obls.cons ?_ ?_
            · intro wD E sD -- 0
              refine Rg.move rfl rfl ?_
              exact Rg.nil ⟨rfl, rfl, _, rfl, rfl, Step.refl _ _⟩
            refine Obls.cons ?_ ?_
            · intro wD E sD -- 1
              refine Rg.fieldAddr (M := M3) (A := RT.po) (B := RT.int .i64) Try.underlying37 rfl rfl I3 (by decide) (po0) rfl rfl (by decide) hu9 sD.le (fun u9_1 hu9_1 => ?_)
              exact Rg.nil ⟨rfl, rfl, _, rfl, hu9_1, Step.refl _ _⟩
            refine Obls.cons ?_ ?_
            · intro wD E sD -- 2
              intro v1 hv1
              refine Rg.loadi64 (M := M3) Try.underlying3 rfl rfl (by assumption) (by repeat (first | exact Le.refl _ _ | refine Le.trans (Step.le (by assumption)) ?_)) (fun in9_2 => ?_)
              exact Rg.nil ⟨rfl, rfl, _, rfl, rfl, Step.refl _ _⟩
            refine Obls.cons ?_ ?_
            · intro wD E sD -- 3
              intro x_ hx_; have hx_ : x_ = _ := hx_; subst x_
              intro x_ hx_; have hx_ : x_ = _ := hx_; subst x_
              refine Rg.assign rfl rfl ?_
              exact Rg.nil ⟨rfl, rfl, _, rfl, rfl, Step.refl _ _⟩
            refine Obls.cons ?_ ?_
            · intro wD E sD -- 4
              intro x_ hx_; have hx_ : x_ = _ := hx_; subst x_
              intro x_ hx_; have hx_ : x_ = _ := hx_; subst x_
              intro x_ hx_; have hx_ : x_ = _ := hx_; subst x_
              intro v1 hv1
              intro x_ hx_; have hx_ : x_ = _ := hx_; subst x_
              intro x_ hx_; have hx_ : x_ = _ := hx_; subst x_
              refine Rg.assign rfl rfl ?_
              exact Rg.nil ⟨rfl, rfl, _, rfl, rfl, Step.refl _ _⟩
            exact Obls.nil
          · -- behind it
            intro wD9 sD9
            intro x_ hx_; have hx_ : x_ = _ := hx_; subst x_
            intro v9_1 hv9_1
            intro x_ hx_; have hx_ : x_ = _ := hx_; subst x_
            intro x_ hx_; have hx_ : x_ = _ := hx_; subst x_
            intro x_ hx_; have hx_ : x_ = _ := hx_; subst x_
            refine ⟨rfl, (o ++ [(d, ps)], v3, next), (.cons rfl (.cons rfl (.cons rfl (.cons (by rw [lastPo_append]; rfl) (.cons rfl .nil))))), ?_, ?_⟩
            · refine ⟨hrd.step hbl htk, .inr (by simp; omega), by rw [lastPo_append]; exact hdr, M3, sD9.lt hM3, S.trans0 sD9, ho3.step0 sD9⟩
            · simp only [List.length_append, List.length_singleton]; omega
    · -- c4 False
      refine T.exit ?_
      refine T.seq ?_
      refine T.region ?_ -- region 10
      refine Rg.move rfl rfl ?_
      have hcl : ((RT.po).sl).V M w1 o u0 := Own.close hM S ho (by omega)
      have hps : ∀ p ∈ o, p.2.length ≤ 1099511627776 := fun p hp => by have := hr6 p hp; omega
      have hpa := po_all hcl
      have hpb := putPo_any2 o (-1) (by decide) (fun p hp => ⟨(hpa p hp).1, hps p hp, (hpa p hp).2⟩)
      replace hpb : (putPo (-1) o).length ≤ 35184372088832 := by omega
      have hle : 0 ≤ many → many = o.length := hle_of hom c4
      refine Rg.call rfl rfl E19 (Make_spec (M := M) (S.back.lt hM) hcl hps hpb (by omega) (by omega)) (fun r3 w3 h3 => ?_)
      obtain ⟨s3, hmk, hno⟩ := h3
      obtain ⟨p, e, rfl, h1e, h0e⟩ : ∃ p e, r3 = .tuple #[p, .int .i64 e] ∧ (mayPo (-1) o = true → e = 0 ∧ PtrTo RT.li M w3 p (mkLi o)) ∧ (mayPo (-1) o = false → e = 1) := by
        cases hmy : mayPo (-1) o with
        | true => obtain ⟨p, hp, hq⟩ := hmk hmy; exact ⟨p, 0, hp, fun _ => ⟨rfl, hq⟩, fun h => by cases h⟩
        | false => exact ⟨_, 1, hno hmy, fun h => by (cases h), fun _ => rfl⟩
      clear hmk hno
      refine Rg.move rfl rfl ?_
      refine Rg.extract rfl rfl rfl ?_
      refine Rg.extract rfl rfl rfl ?_
      refine Rg.assign rfl rfl ?_
      refine Rg.assign rfl rfl ?_
      refine Rg.nil ?_
      refine T.seq ?_
      refine T.seq ?_
      by_cases g11_2 : many < 0
      · -- g11_2 True
        apply T.draw (M := M) mixed [Asr.eq _, Asr.eq _, Asr.eq (.bool true), Asr.eq undef, Asr.eq undef, Asr.eq _, Asr.eq _, Asr.eq undef, Asr.eq undef, Asr.eq undef, Asr.eq undef, Asr.eq undef, Asr.eq undef, Asr.eq undef, Asr.eq undef, Asr.eq _] -- region 11
        · rfl
        · -- its operations
          refine Obls.cons ?_ ?_
          · intro wD E sD -- 0
            refine Rg.move rfl rfl ?_
            exact Rg.nil ⟨rfl, rfl, _, rfl, rfl, Step.refl _ _⟩
          refine Obls.cons ?_ ?_
          · intro wD E sD -- 1
            intro x_ hx_; have hx_ : x_ = _ := hx_; subst x_
            refine Rg.ilt rfl rfl rfl ?_
            exact Rg.nil ⟨rfl, rfl, _, rfl, rfl, Step.refl _ _⟩
          refine Obls.cons ?_ ?_
          · intro wD E sD -- 2
            intro x_ hx_; have hx_ : x_ = _ := hx_; subst x_
            refine Rg.move rfl rfl ?_
            refine Rg.nil ⟨rfl, rfl, _, rfl, ?_, Step.refl _ _⟩
            exact congrArg Value.bool (decide_eq_true g11_2)
          refine Obls.cons ?_ ?_
          · intro wD E sD -- 3
            intro x_ hx_; have hx_ : x_ = _ := hx_; subst x_
            exact Rg.gno rfl rfl rfl rfl (Rg.nil ⟨rfl, rfl, _, rfl, rfl, Step.refl _ _⟩)
          refine Obls.cons ?_ ?_
          · intro wD E sD -- 4
            intro x_ hx_; have hx_ : x_ = _ := hx_; subst x_
            intro x_ hx_; have hx_ : x_ = _ := hx_; subst x_
            exact Rg.gno rfl rfl rfl rfl (Rg.nil ⟨rfl, rfl, _, rfl, rfl, Step.refl _ _⟩)
          refine Obls.cons ?_ ?_
          · intro wD E sD -- 5
            intro x_ hx_; have hx_ : x_ = _ := hx_; subst x_
            intro x_ hx_; have hx_ : x_ = _ := hx_; subst x_
            refine Rg.pickt rfl rfl rfl ?_
            exact Rg.nil ⟨rfl, rfl, _, rfl, rfl, Step.refl _ _⟩
          refine Obls.cons ?_ ?_
          · intro wD E sD -- 6
            intro x_ hx_; have hx_ : x_ = _ := hx_; subst x_
            intro x_ hx_; have hx_ : x_ = _ := hx_; subst x_
            refine Rg.move rfl rfl ?_
            exact Rg.nil ⟨rfl, rfl, _, rfl, rfl, Step.refl _ _⟩
          refine Obls.cons ?_ ?_
          · intro wD E sD -- 7
            intro x_ hx_; have hx_ : x_ = _ := hx_; subst x_
            exact Rg.gno rfl rfl rfl rfl (Rg.nil ⟨rfl, rfl, _, rfl, rfl, Step.refl _ _⟩)
          refine Obls.cons ?_ ?_
          · intro wD E sD -- 8
            intro x_ hx_; have hx_ : x_ = _ := hx_; subst x_
            intro x_ hx_; have hx_ : x_ = _ := hx_; subst x_
            exact Rg.gno rfl rfl rfl rfl (Rg.nil ⟨rfl, rfl, _, rfl, rfl, Step.refl _ _⟩)
          refine Obls.cons ?_ ?_
          · intro wD E sD -- 9
            intro x_ hx_; have hx_ : x_ = _ := hx_; subst x_
            intro x_ hx_; have hx_ : x_ = _ := hx_; subst x_
            exact Rg.gno rfl rfl rfl rfl (Rg.nil ⟨rfl, rfl, _, rfl, rfl, Step.refl _ _⟩)
          refine Obls.cons ?_ ?_
          · intro wD E sD -- 10
            intro x_ hx_; have hx_ : x_ = _ := hx_; subst x_
            intro x_ hx_; have hx_ : x_ = _ := hx_; subst x_
            exact Rg.gno rfl rfl rfl rfl (Rg.nil ⟨rfl, rfl, _, rfl, rfl, Step.refl _ _⟩)
          refine Obls.cons ?_ ?_
          · intro wD E sD -- 11
            intro x_ hx_; have hx_ : x_ = _ := hx_; subst x_
            intro x_ hx_; have hx_ : x_ = _ := hx_; subst x_
            exact Rg.gno rfl rfl rfl rfl (Rg.nil ⟨rfl, rfl, _, rfl, rfl, Step.refl _ _⟩)
          refine Obls.cons ?_ ?_
          · intro wD E sD -- 12
            intro x_ hx_; have hx_ : x_ = _ := hx_; subst x_
            exact Rg.gno rfl rfl rfl rfl (Rg.nil ⟨rfl, rfl, _, rfl, rfl, Step.refl _ _⟩)
          refine Obls.cons ?_ ?_
          · intro wD E sD -- 13
            intro x_ hx_; have hx_ : x_ = _ := hx_; subst x_
            intro x_ hx_; have hx_ : x_ = _ := hx_; subst x_
            exact Rg.gno rfl rfl rfl rfl (Rg.nil ⟨rfl, rfl, _, rfl, rfl, Step.refl _ _⟩)
          refine Obls.cons ?_ ?_
          · intro wD E sD -- 14
            intro x_ hx_; have hx_ : x_ = _ := hx_; subst x_
            intro x_ hx_; have hx_ : x_ = _ := hx_; subst x_
            intro x_ hx_; have hx_ : x_ = _ := hx_; subst x_
            exact Rg.gno rfl rfl rfl rfl (Rg.nil ⟨rfl, rfl, _, rfl, rfl, Step.refl _ _⟩)
          refine Obls.cons ?_ ?_
          · intro wD E sD -- 15
            intro x_ hx_; have hx_ : x_ = _ := hx_; subst x_
            intro x_ hx_; have hx_ : x_ = _ := hx_; subst x_
            refine Rg.pickt rfl rfl rfl ?_
            exact Rg.nil ⟨rfl, rfl, _, rfl, rfl, Step.refl _ _⟩
          exact Obls.nil
        · -- behind it
          intro wD11 sD11
          intro x_ hx_; have hx_ : x_ = _ := hx_; subst x_
          intro x_ hx_; have hx_ : x_ = _ := hx_; subst x_
          intro x_ hx_; have hx_ : x_ = _ := hx_; subst x_
          intro x_ hx_; have hx_ : x_ = _ := hx_; subst x_
          intro x_ hx_; have hx_ : x_ = _ := hx_; subst x_
          intro x_ hx_; have hx_ : x_ = _ := hx_; subst x_
          intro x_ hx_; have hx_ : x_ = _ := hx_; subst x_
          intro x_ hx_; have hx_ : x_ = _ := hx_; subst x_
          intro x_ hx_; have hx_ : x_ = _ := hx_; subst x_
          intro x_ hx_; have hx_ : x_ = _ := hx_; subst x_
          intro x_ hx_; have hx_ : x_ = _ := hx_; subst x_
          intro x_ hx_; have hx_ : x_ = _ := hx_; subst x_
          intro x_ hx_; have hx_ : x_ = _ := hx_; subst x_
          intro x_ hx_; have hx_ : x_ = _ := hx_; subst x_
          intro x_ hx_; have hx_ : x_ = _ := hx_; subst x_
          intro x_ hx_; have hx_ : x_ = _ := hx_; subst x_
          refine T.ift rfl ?_
          refine T.seq ?_
          refine T.region ?_ -- region 12
          refine Rg.assign rfl rfl ?_
          refine Rg.assign rfl rfl ?_
          refine Rg.nil ?_
          refine T.ret ?_
          refine Kret2 rfl rfl rfl ⟨(S.back.trans0 s3).trans0 sD11, .inr ⟨hrd.done (by omega) ?_ hle, rfl⟩⟩
          rintro ⟨x1, x2, x3⟩
          first
          | omega
          | exact g11_6 (h1e x2).1
          | exact c11 x3
      · -- g11_2 False
        by_cases g11_6 : ¬ e = 0
        · -- g11_6 True
          apply T.draw (M := M) mixed [Asr.eq _, Asr.eq _, Asr.eq (.bool false), Asr.eq _, Asr.eq _, Asr.eq _, Asr.eq (.bool true), Asr.eq undef, Asr.eq undef, Asr.eq undef, Asr.eq undef, Asr.eq undef, Asr.eq undef, Asr.eq undef, Asr.eq undef, Asr.eq _] -- region 11
          · rfl
          · -- its operations
            refine Obls.cons ?_ ?_
            · intro wD E sD -- 0
              refine Rg.move rfl rfl ?_
              exact Rg.nil ⟨rfl, rfl, _, rfl, rfl, Step.refl _ _⟩
            refine Obls.cons ?_ ?_
            · intro wD E sD -- 1
              intro x_ hx_; have hx_ : x_ = _ := hx_; subst x_
              refine Rg.ilt rfl rfl rfl ?_
              exact Rg.nil ⟨rfl, rfl, _, rfl, rfl, Step.refl _ _⟩
            refine Obls.cons ?_ ?_
            · intro wD E sD -- 2
              intro x_ hx_; have hx_ : x_ = _ := hx_; subst x_
              refine Rg.move rfl rfl ?_
              refine Rg.nil ⟨rfl, rfl, _, rfl, ?_, Step.refl _ _⟩
              exact congrArg Value.bool (decide_eq_false g11_2)
            refine Obls.cons ?_ ?_
            · intro wD E sD -- 3
              intro x_ hx_; have hx_ : x_ = _ := hx_; subst x_
              refine Rg.gyes rfl rfl ?_
              refine Rg.move rfl rfl ?_
              exact Rg.nil ⟨rfl, rfl, _, rfl, rfl, Step.refl _ _⟩
            refine Obls.cons ?_ ?_
            · intro wD E sD -- 4
              intro x_ hx_; have hx_ : x_ = _ := hx_; subst x_
              intro x_ hx_; have hx_ : x_ = _ := hx_; subst x_
              refine Rg.gyes rfl rfl ?_
              refine Rg.ine rfl rfl rfl ?_
              exact Rg.nil ⟨rfl, rfl, _, rfl, rfl, Step.refl _ _⟩
            refine Obls.cons ?_ ?_
            · intro wD E sD -- 5
              intro x_ hx_; have hx_ : x_ = _ := hx_; subst x_
              intro x_ hx_; have hx_ : x_ = _ := hx_; subst x_
              refine Rg.pickf rfl rfl rfl ?_
              exact Rg.nil ⟨rfl, rfl, _, rfl, rfl, Step.refl _ _⟩
            refine Obls.cons ?_ ?_
            · intro wD E sD -- 6
              intro x_ hx_; have hx_ : x_ = _ := hx_; subst x_
              intro x_ hx_; have hx_ : x_ = _ := hx_; subst x_
              refine Rg.move rfl rfl ?_
              refine Rg.nil ⟨rfl, rfl, _, rfl, ?_, Step.refl _ _⟩
              exact congrArg Value.bool (decide_eq_true g11_6)
            refine Obls.cons ?_ ?_
            · intro wD E sD -- 7
              intro x_ hx_; have hx_ : x_ = _ := hx_; subst x_
              exact Rg.gno rfl rfl rfl rfl (Rg.nil ⟨rfl, rfl, _, rfl, rfl, Step.refl _ _⟩)
            refine Obls.cons ?_ ?_
            · intro wD E sD -- 8
              intro x_ hx_; have hx_ : x_ = _ := hx_; subst x_
              intro x_ hx_; have hx_ : x_ = _ := hx_; subst x_
              exact Rg.gno rfl rfl rfl rfl (Rg.nil ⟨rfl, rfl, _, rfl, rfl, Step.refl _ _⟩)
            refine Obls.cons ?_ ?_
            · intro wD E sD -- 9
              intro x_ hx_; have hx_ : x_ = _ := hx_; subst x_
              intro x_ hx_; have hx_ : x_ = _ := hx_; subst x_
              exact Rg.gno rfl rfl rfl rfl (Rg.nil ⟨rfl, rfl, _, rfl, rfl, Step.refl _ _⟩)
            refine Obls.cons ?_ ?_
            · intro wD E sD -- 10
              intro x_ hx_; have hx_ : x_ = _ := hx_; subst x_
              intro x_ hx_; have hx_ : x_ = _ := hx_; subst x_
              exact Rg.gno rfl rfl rfl rfl (Rg.nil ⟨rfl, rfl, _, rfl, rfl, Step.refl _ _⟩)
            refine Obls.cons ?_ ?_
            · intro wD E sD -- 11
              intro x_ hx_; have hx_ : x_ = _ := hx_; subst x_
              intro x_ hx_; have hx_ : x_ = _ := hx_; subst x_
              exact Rg.gno rfl rfl rfl rfl (Rg.nil ⟨rfl, rfl, _, rfl, rfl, Step.refl _ _⟩)
            refine Obls.cons ?_ ?_
            · intro wD E sD -- 12
              intro x_ hx_; have hx_ : x_ = _ := hx_; subst x_
              exact Rg.gno rfl rfl rfl rfl (Rg.nil ⟨rfl, rfl, _, rfl, rfl, Step.refl _ _⟩)
            refine Obls.cons ?_ ?_
            · intro wD E sD -- 13
              intro x_ hx_; have hx_ : x_ = _ := hx_; subst x_
              intro x_ hx_; have hx_ : x_ = _ := hx_; subst x_
              exact Rg.gno rfl rfl rfl rfl (Rg.nil ⟨rfl, rfl, _, rfl, rfl, Step.refl _ _⟩)
            refine Obls.cons ?_ ?_
            · intro wD E sD -- 14
              intro x_ hx_; have hx_ : x_ = _ := hx_; subst x_
              intro x_ hx_; have hx_ : x_ = _ := hx_; subst x_
              intro x_ hx_; have hx_ : x_ = _ := hx_; subst x_
              exact Rg.gno rfl rfl rfl rfl (Rg.nil ⟨rfl, rfl, _, rfl, rfl, Step.refl _ _⟩)
            refine Obls.cons ?_ ?_
            · intro wD E sD -- 15
              intro x_ hx_; have hx_ : x_ = _ := hx_; subst x_
              intro x_ hx_; have hx_ : x_ = _ := hx_; subst x_
              refine Rg.pickt rfl rfl rfl ?_
              exact Rg.nil ⟨rfl, rfl, _, rfl, rfl, Step.refl _ _⟩
            exact Obls.nil
          · -- behind it
            intro wD11 sD11
            intro x_ hx_; have hx_ : x_ = _ := hx_; subst x_
            intro x_ hx_; have hx_ : x_ = _ := hx_; subst x_
            intro x_ hx_; have hx_ : x_ = _ := hx_; subst x_
            intro x_ hx_; have hx_ : x_ = _ := hx_; subst x_
            intro x_ hx_; have hx_ : x_ = _ := hx_; subst x_
            intro x_ hx_; have hx_ : x_ = _ := hx_; subst x_
            intro x_ hx_; have hx_ : x_ = _ := hx_; subst x_
            intro x_ hx_; have hx_ : x_ = _ := hx_; subst x_
            intro x_ hx_; have hx_ : x_ = _ := hx_; subst x_
            intro x_ hx_; have hx_ : x_ = _ := hx_; subst x_
            intro x_ hx_; have hx_ : x_ = _ := hx_; subst x_
            intro x_ hx_; have hx_ : x_ = _ := hx_; subst x_
            intro x_ hx_; have hx_ : x_ = _ := hx_; subst x_
            intro x_ hx_; have hx_ : x_ = _ := hx_; subst x_
            intro x_ hx_; have hx_ : x_ = _ := hx_; subst x_
            intro x_ hx_; have hx_ : x_ = _ := hx_; subst x_
            refine T.ift rfl ?_
            refine T.seq ?_
            refine T.region ?_ -- region 12
            refine Rg.assign rfl rfl ?_
            refine Rg.assign rfl rfl ?_
            refine Rg.nil ?_
            refine T.ret ?_
            refine Kret2 rfl rfl rfl ⟨(S.back.trans0 s3).trans0 sD11, .inr ⟨hrd.done (by omega) ?_ hle, rfl⟩⟩
            rintro ⟨x1, x2, x3⟩
            first
            | omega
            | exact g11_6 (h1e x2).1
            | exact c11 x3
        · -- g11_6 False
          have hmy : mayPo (-1) o = true := by
            cases h : mayPo (-1) o with
            | true => rfl
            | false => exact absurd (h0e h) (by omega)
          have hp := (h1e hmy).2
          apply T.draw (M := M) mixed [Asr.eq _, Asr.eq _, Asr.eq (.bool false), Asr.eq _, Asr.eq _, Asr.eq _, Asr.eq (.bool false), Asr.eq _, Asr.eq _, Asr.ptr (RT.u8.sl) (putPo (-1) o), Asr.V (RT.u8.sl) (putPo (-1) o), Asr.eq _, Asr.eq _, Asr.eq _, Asr.eq _, Asr.eq _] -- region 11
          · rfl
          · -- its operations
            refine Obls.cons ?_ ?_
            · intro wD E sD -- 0
              refine Rg.move rfl rfl ?_
              exact Rg.nil ⟨rfl, rfl, _, rfl, rfl, Step.refl _ _⟩
            refine Obls.cons ?_ ?_
            · intro wD E sD -- 1
              intro x_ hx_; have hx_ : x_ = _ := hx_; subst x_
              refine Rg.ilt rfl rfl rfl ?_
              exact Rg.nil ⟨rfl, rfl, _, rfl, rfl, Step.refl _ _⟩
            refine Obls.cons ?_ ?_
            · intro wD E sD -- 2
              intro x_ hx_; have hx_ : x_ = _ := hx_; subst x_
              refine Rg.move rfl rfl ?_
              refine Rg.nil ⟨rfl, rfl, _, rfl, ?_, Step.refl _ _⟩
              exact congrArg Value.bool (decide_eq_false g11_2)
            refine Obls.cons ?_ ?_
            · intro wD E sD -- 3
              intro x_ hx_; have hx_ : x_ = _ := hx_; subst x_
              refine Rg.gyes rfl rfl ?_
              refine Rg.move rfl rfl ?_
              exact Rg.nil ⟨rfl, rfl, _, rfl, rfl, Step.refl _ _⟩
            refine Obls.cons ?_ ?_
            · intro wD E sD -- 4
              intro x_ hx_; have hx_ : x_ = _ := hx_; subst x_
              intro x_ hx_; have hx_ : x_ = _ := hx_; subst x_
              refine Rg.gyes rfl rfl ?_
              refine Rg.ine rfl rfl rfl ?_
              exact Rg.nil ⟨rfl, rfl, _, rfl, rfl, Step.refl _ _⟩
            refine Obls.cons ?_ ?_
            · intro wD E sD -- 5
              intro x_ hx_; have hx_ : x_ = _ := hx_; subst x_
              intro x_ hx_; have hx_ : x_ = _ := hx_; subst x_
              refine Rg.pickf rfl rfl rfl ?_
              exact Rg.nil ⟨rfl, rfl, _, rfl, rfl, Step.refl _ _⟩
            refine Obls.cons ?_ ?_
            · intro wD E sD -- 6
              intro x_ hx_; have hx_ : x_ = _ := hx_; subst x_
              intro x_ hx_; have hx_ : x_ = _ := hx_; subst x_
              refine Rg.move rfl rfl ?_
              refine Rg.nil ⟨rfl, rfl, _, rfl, ?_, Step.refl _ _⟩
              exact congrArg Value.bool (decide_eq_false g11_6)
            refine Obls.cons ?_ ?_
            · intro wD E sD -- 7
              intro x_ hx_; have hx_ : x_ = _ := hx_; subst x_
              refine Rg.gyes rfl rfl ?_
              refine Rg.move rfl rfl ?_
              exact Rg.nil ⟨rfl, rfl, _, rfl, rfl, Step.refl _ _⟩
            refine Obls.cons ?_ ?_
            · intro wD E sD -- 8
              intro x_ hx_; have hx_ : x_ = _ := hx_; subst x_
              intro x_ hx_; have hx_ : x_ = _ := hx_; subst x_
              refine Rg.gyes rfl rfl ?_
              refine Rg.nilCheck rfl (PtrTo.isPtr hp) rfl ?_
              exact Rg.nil ⟨rfl, rfl, _, rfl, rfl, Step.refl _ _⟩
            refine Obls.cons ?_ ?_
            · intro wD E sD -- 9
              intro x_ hx_; have hx_ : x_ = _ := hx_; subst x_
              intro x_ hx_; have hx_ : x_ = _ := hx_; subst x_
              refine Rg.gyes rfl rfl ?_
              refine Rg.fieldAddr (M := M) (A := RT.li) (B := RT.u8.sl) Try.underlying76 rfl rfl I48 (by decide) li0 rfl rfl (by decide) hp sD.le (fun uf huf => ?_)
              exact Rg.nil ⟨rfl, rfl, _, rfl, huf, Step.refl _ _⟩
            refine Obls.cons ?_ ?_
            · intro wD E sD -- 10
              intro v9 hv9
              intro x_ hx_; have hx_ : x_ = _ := hx_; subst x_
              refine Rg.gyes rfl rfl ?_
              refine Rg.load (M := M) Try.underlying48 rfl rfl rfl rfl rfl (show PtrTo (RT.u8.sl) M wD v9 (putPo (-1) o) from hv9) (Le.refl _ _) (fun uf huf => ?_)
              exact Rg.nil ⟨rfl, rfl, _, rfl, huf, Step.refl _ _⟩
            refine Obls.cons ?_ ?_
            · intro wD E sD -- 11
              intro v10 hv10
              intro x_ hx_; have hx_ : x_ = _ := hx_; subst x_
              refine Rg.gyes rfl rfl ?_
              refine Rg.b2s (M := M) Try.underlying48 Try.underlying5 Try.underlying9 rfl rfl (show (RT.u8.sl).V M wD (putPo (-1) o) v10 from hv10) (Le.refl _ _) ?_
              exact Rg.nil ⟨rfl, rfl, _, rfl, rfl, Step.refl _ _⟩
            refine Obls.cons ?_ ?_
            · intro wD E sD -- 12
              intro x_ hx_; have hx_ : x_ = _ := hx_; subst x_
              refine Rg.gyes rfl rfl ?_
              refine Rg.move rfl rfl ?_
              exact Rg.nil ⟨rfl, rfl, _, rfl, rfl, Step.refl _ _⟩
            refine Obls.cons ?_ ?_
            · intro wD E sD -- 13
              intro x_ hx_; have hx_ : x_ = _ := hx_; subst x_
              intro x_ hx_; have hx_ : x_ = _ := hx_; subst x_
              refine Rg.gyes rfl rfl ?_
              refine Rg.b2s (M := M) Try.underlying48 Try.underlying5 Try.underlying9 rfl rfl (hv.le ((S.back.trans0 s3).trans0 sD).le) (Le.refl _ _) ?_
              exact Rg.nil ⟨rfl, rfl, _, rfl, rfl, Step.refl _ _⟩
            refine Obls.cons ?_ ?_
            · intro wD E sD -- 14
              intro x_ hx_; have hx_ : x_ = _ := hx_; subst x_
              intro x_ hx_; have hx_ : x_ = _ := hx_; subst x_
              intro x_ hx_; have hx_ : x_ = _ := hx_; subst x_
              refine Rg.gyes rfl rfl ?_
              refine Rg.strne rfl rfl rfl ?_
              exact Rg.nil ⟨rfl, rfl, _, rfl, rfl, Step.refl _ _⟩
            refine Obls.cons ?_ ?_
            · intro wD E sD -- 15
              intro x_ hx_; have hx_ : x_ = _ := hx_; subst x_
              intro x_ hx_; have hx_ : x_ = _ := hx_; subst x_
              refine Rg.pickf rfl rfl rfl ?_
              exact Rg.nil ⟨rfl, rfl, _, rfl, rfl, Step.refl _ _⟩
            exact Obls.nil
          · -- behind it
            intro wD11 sD11
            intro x_ hx_; have hx_ : x_ = _ := hx_; subst x_
            intro x_ hx_; have hx_ : x_ = _ := hx_; subst x_
            intro x_ hx_; have hx_ : x_ = _ := hx_; subst x_
            intro x_ hx_; have hx_ : x_ = _ := hx_; subst x_
            intro x_ hx_; have hx_ : x_ = _ := hx_; subst x_
            intro x_ hx_; have hx_ : x_ = _ := hx_; subst x_
            intro x_ hx_; have hx_ : x_ = _ := hx_; subst x_
            intro x_ hx_; have hx_ : x_ = _ := hx_; subst x_
            intro x_ hx_; have hx_ : x_ = _ := hx_; subst x_
            intro v11_9 hv11_9
            intro v11_10 hv11_10
            intro x_ hx_; have hx_ : x_ = _ := hx_; subst x_
            intro x_ hx_; have hx_ : x_ = _ := hx_; subst x_
            intro x_ hx_; have hx_ : x_ = _ := hx_; subst x_
            intro x_ hx_; have hx_ : x_ = _ := hx_; subst x_
            intro x_ hx_; have hx_ : x_ = _ := hx_; subst x_
            refine T.ifp rfl (fun c11 => ?_) (fun c11 => ?_)
            · -- c11 True
              refine T.seq ?_
              refine T.region ?_ -- region 12
              refine Rg.assign rfl rfl ?_
              refine Rg.assign rfl rfl ?_
              refine Rg.nil ?_
              refine T.ret ?_
              refine Kret2 rfl rfl rfl ⟨(S.back.trans0 s3).trans0 sD11, .inr ⟨hrd.done (by omega) ?_ hle, rfl⟩⟩
              rintro ⟨x1, x2, x3⟩
              first
              | omega
              | exact g11_6 (h1e x2).1
              | exact c11 x3
            · -- c11 False
              refine T.skip ?_
              refine T.seq ?_
              refine T.region ?_ -- region 13
              refine Rg.move rfl rfl ?_
              refine Rg.assign rfl rfl ?_
              refine Rg.assign rfl rfl ?_
              refine Rg.nil ?_
              refine T.ret ?_
              refine Kret2 rfl rfl rfl ⟨(S.back.trans0 s3).trans0 sD11, .inl ⟨o, p, ⟨hle (by omega), hmy, Decidable.not_not.1 c11⟩, by rw [Decidable.not_not.1 g11_6]; rfl, hp.le (by decide) sD11.le⟩⟩

set_option maxHeartbeats 1000000 in
/-- 'concordance/concordanceref05.Read' -/
theorem rRead5_spec {M : PSet} {w0 : World} {v : Value} {b : List UInt8} {many : Int} (hM : Lt M w0) (hv : (RT.u8.sl).V M w0 b v) (hmr : -9223372036854775808 ≤ many ∧ many ≤ 9223372036854775807) (hbl : b.length ≤ 1099511627776) :
    Spec Try.prog 35 #[.int .i64 many, v] w0 (fun v' w' => Step M w0 M w' none' ∧ ((∃ l u, RP many b l ∧ v' = .tuple #[u, .int .i64 0] ∧ ((RT.po).sl).V M w' l u) ∨ ((¬ ∃ l, RP many b l) ∧ v' = .tuple #[.slice none 0 0, .int .i64 2]))) := by
  have hlen := V_sl_len hv
  refine spec_of (args := [.int .i64 many, v]) (fn := Try.f35) Try.func35 rfl (n := 74) Try.ntmps35 ?_
  refine T.seq ?_
  refine T.region ?_ -- region 0
  refine Rg.assign rfl rfl ?_
  refine Rg.assign rfl rfl ?_
  refine Rg.nil ?_
  refine T.seq ?_
  refine T.region ?_ -- region 1
  refine Rg.assign rfl rfl ?_
  refine Rg.nil ?_
  refine T.seq ?_
  refine T.region ?_ -- region 2
  refine Rg.assign rfl rfl ?_
  refine Rg.nil ?_
  refine T.seq ?_
  refine T.seq ?_
  refine T.region ?_ -- region 3
  refine Rg.assign rfl rfl ?_
  refine Rg.nil ?_
  refine T.block ?_
  refine T.loop (σ := List Po × Value × Int) (fun s => [(0, .int .i64 many), (1, v), (6, s.2.1), (7, .int .i64 s.2.2), (8, .int .i64 s.1.length)]) (fun s w => RD b s.1 s.2.2 ∧ (s.1 = [] ∨ (s.1.length : Int) ≤ many) ∧ (-9223372036854775808 ≤ (lastPo (-1) s.1) ∧ (lastPo (-1) s.1) ≤ 9223372036854775807) ∧ ∃ M1, Lt M1 w ∧ Step M w0 M1 w none' ∧ Own RT.po 37 M1 w w0.heap.size s.2.1 s.1) (fun s => (many - (s.1.length : Int)).toNat) ([], _, 0) (.cons rfl (.cons rfl (.cons rfl (.cons rfl (.cons rfl .nil))))) ?_ ?_ -- loop 0
  · exact ⟨RD.nil b, .inl rfl, by decide, M, hM, Step.refl _ _, Own.nil _ _ _ _ _⟩
  · rintro ⟨o, u0, a⟩ w1 ⟨hrd, hom, hlr, M1, hM1, S, ho⟩
    dsimp only at hrd hom hlr ho ⊢
    obtain ⟨hr1, hr2, hr3, hr4, hr5, hr6⟩ := id hrd
    have htn := totPo_nonneg o
    refine T.seq ?_
    refine T.seq ?_
    refine T.region ?_ -- region 4
    refine Rg.move rfl rfl ?_
    refine Rg.move rfl rfl ?_
    refine Rg.ilt rfl rfl rfl ?_
    refine Rg.nil ?_
    refine T.ifp rfl (fun c4 => ?_) (fun c4 => ?_)
    · -- c4 True
      refine T.skip ?_
      refine T.seq ?_
      refine T.block ?_
      refine T.seq ?_
      refine T.region ?_ -- region 6
      refine Rg.move rfl rfl ?_
      refine Rg.move rfl rfl ?_
      obtain ⟨hn0, hn1, hn2, hn3⟩ := get_nonneg b a
      have hgr := get_range b a
      refine Rg.call rfl rfl E63 (rGet_spec (M := M1) hM1 (hv.le S.le) (by omega)) (fun r2 w2 h => ?_)
      obtain ⟨rfl, s2⟩ := h
      replace S := S.trans0 s2
      replace ho := ho.step0 s2
      replace hM1 := s2.lt hM1
      refine Rg.move rfl rfl ?_
      refine Rg.extract rfl rfl rfl ?_
      refine Rg.extract rfl rfl rfl ?_
      refine Rg.extract rfl rfl rfl ?_
      refine Rg.assign rfl rfl ?_
      refine Rg.assign rfl rfl ?_
      refine Rg.assign rfl rfl ?_
      refine Rg.nil ?_
      refine T.seq ?_
      refine T.seq ?_
      refine T.region ?_ -- region 7
      refine Rg.move rfl rfl ?_
      refine Rg.ine rfl rfl rfl ?_
      refine Rg.nil ?_
      refine T.ifp rfl (fun c7 => ?_) (fun c7 => ?_)
      · -- c7 True
        refine T.seq ?_
        refine T.region ?_ -- region 8
        refine Rg.assign rfl rfl ?_
        refine Rg.assign rfl rfl ?_
        refine Rg.nil ?_
        refine T.ret ?_
        refine Kret2 rfl rfl rfl ⟨S.back, .inr ⟨hrd.none hbl (.inl ?_) c4, rfl⟩⟩
        unfold takeP; rw [if_pos c7]; exact c7
      · -- c7 False
        refine T.skip ?_
        refine T.seq ?_
        refine T.region ?_ -- region 9
        refine Rg.move rfl rfl ?_
        refine Rg.move rfl rfl ?_
        have hgo := get_ok (Decidable.not_not.1 c7)
        refine Rg.call rfl rfl E64 (rGetRising_spec (M := M1) hM1 (hv.le S.le) (by omega) hbl) (fun r3 w3 h => ?_)
        obtain ⟨x3, rfl, hx3, s3⟩ := h
        replace S := S.trans0 s3
        replace ho := ho.step0 s3
        replace hM1 := s3.lt hM1
        refine Rg.move rfl rfl ?_
        refine Rg.extract rfl rfl rfl ?_
        refine Rg.extract rfl rfl rfl ?_
        refine Rg.extract rfl rfl rfl ?_
        refine Rg.assign rfl rfl ?_
        refine Rg.assign rfl rfl ?_
        refine Rg.assign rfl rfl ?_
        refine Rg.nil ?_
        refine T.seq ?_
        refine T.seq ?_
        refine T.region ?_ -- region 10
        refine Rg.move rfl rfl ?_
        refine Rg.ine rfl rfl rfl ?_
        refine Rg.nil ?_
        refine T.ifp rfl (fun c10 => ?_) (fun c10 => ?_)
        · -- c10 True
          refine T.seq ?_
          refine T.region ?_ -- region 11
          refine Rg.assign rfl rfl ?_
          refine Rg.assign rfl rfl ?_
          refine Rg.nil ?_
          refine T.ret ?_
          refine Kret2 rfl rfl rfl ⟨S.back, .inr ⟨hrd.none hbl (.inl ?_) c4, rfl⟩⟩
          unfold takeP; rw [if_neg c7]; exact c10
        · -- c10 False
          obtain ⟨D, hD⟩ : ∃ D, D = IntKind.i64.wrap (IntKind.i64.wrap (lastPo (-1) o + 1) + (get b a).1) := ⟨_, rfl⟩
          have hDr : -9223372036854775808 ≤ D ∧ D ≤ 9223372036854775807 := hD ▸ wrap_rng
          have htk : takeP b a (lastPo (-1) o) = ((D, (getRising b (get b a).2.1).2.1), (getRising b (get b a).2.1).2.2, 0) := by
            unfold takeP
            rw [if_neg c7, Decidable.not_not.1 c10, hD]
          have hadv := takeP_adv (b := b) (a := a) (last := lastPo (-1) o) (by rw [htk])
          rw [htk] at hadv
          simp only at hadv
          refine T.skip ?_
          refine T.seq ?_
          refine T.seq ?_
          refine T.region ?_ -- region 12
          refine Rg.move rfl rfl ?_
          refine Rg.igt rfl rfl rfl ?_
          refine Rg.nil ?_
          refine T.ifp rfl (fun c12 => ?_) (fun c12 => ?_)
          · -- c12 True
            refine T.region ?_ -- region 13
            refine Rg.move rfl rfl ?_
            refine Rg.move rfl rfl ?_
            refine Rg.move rfl rfl ?_
            refine Rg.isub rfl rfl rfl (by omega) ?_
            obtain ⟨⟨e, qs⟩, hy⟩ : ∃ x, o[o.length - 1]? = some x := ⟨_, List.getElem?_eq_getElem (by omega)⟩
            have hel : lastPo (-1) o = e := by have := lastPo_get hy (-1); rwa [show o.length - 1 + 1 = o.length from by omega, List.take_length] at this
            refine Rg.idx (M := rm M1 u0) Try.underlying28 I37 rfl rfl rfl (ho.view (hn := by decide) (by omega)) (Le.refl _ _) (by omega) (fun ui ai hgi hui => ?_)
            obtain rfl : (e, qs) = ai := Eq.symm (Option.some.inj (hgi.symm.trans (by rw [show ((o.length : Int) - 1).toNat = o.length - 1 from by omega]; exact hy)))
            refine Rg.fieldAddr (M := rm M1 u0) (A := RT.po) (B := RT.int .i64) Try.underlying37 rfl rfl I3 (by decide) (po0) rfl rfl (by decide) hui (Le.refl _ _) (fun uf huf => ?_)
            refine Rg.loadi64 (M := rm M1 u0) Try.underlying3 rfl rfl huf (Le.refl _ _) (fun her => ?_)
            refine Rg.eqv (v' := .int .i64 e) rfl ?_
            refine Rg.addw rfl rfl rfl ?_
            refine Rg.addw rfl rfl rfl ?_
            refine Rg.assign rfl rfl ?_
            refine Rg.nil ?_
            refine T.seq ?_
            refine T.region ?_ -- region 14
            refine Rg.move rfl rfl ?_
            refine Rg.move rfl rfl ?_
            refine Rg.eqv (v' := .int .i64 D) (by rw [hD]; first | (rw [hel]; exact congrArg _ (wrap_turn _ _)) | (rw [show o = [] from List.length_eq_zero_iff.1 (by omega)]; exact congrArg _ (wrap_first ⟨hn0, hgr⟩))) ?_
            refine Rg.move rfl rfl ?_
            refine Rg.build (places := [(0, 1), (1, 1)]) Try.underlying37 I37 B37 rfl ⟨_, _, rfl, rfl, _, _, rfl, rfl, rfl⟩ (out := [_, _]) ⟨0, [_], rfl, rfl, by simp [Value.cells], 1, [_], rfl, V_cells hx3, by simp [Value.cells], rfl⟩ ?_
            refine Rg.sl1 (A := RT.po) (hn := by decide) (M := M1) Try.underlying28 I37 (by decide) rfl rfl hM1 (V_pair_mk (V_i64 hDr) hx3 rfl rfl rfl rfl) (.inl rfl) (fun u4 w4 hu4 s4 => ?_)
            refine Rg.append (M := M1) (base := w0.heap.size) Try.underlying28 I37 rfl rfl rfl rfl (ho.step0 s4) hu4 (Le.refl _ _) (by simp; omega) (by simp; omega) (Nat.le_trans S.size s4.size) (fun v3 M3 w5 ho3 s5 => ?_)
            refine Rg.assign rfl rfl ?_
            refine Rg.nil ?_
            refine T.region ?_ -- region 15
            refine Rg.move rfl rfl ?_
            refine Rg.assign rfl rfl ?_
            refine Rg.nil ?_
            refine T.region ?_ -- region 5
            refine Rg.move rfl rfl ?_
            refine Rg.iadd rfl rfl rfl (by omega) ?_
            refine Rg.assign rfl rfl ?_
            refine Rg.nil ?_
            refine ⟨rfl, (o ++ [(D, (getRising b (get b a).2.1).2.1)], v3, (getRising b (get b a).2.1).2.2), (.cons rfl (.cons rfl (.cons rfl (.cons rfl (.cons (by rw [List.length_append]; rfl) .nil))))), ?_, ?_⟩
            · refine ⟨hrd.step hbl htk, .inr (by simp; omega), by rw [lastPo_append]; exact hDr, M3, s5.lt (s4.lt hM1), (S.trans0 s4).transBlk s5 (ho.step0 s4) (Nat.le_refl _), ho3⟩
            · simp only [List.length_append, List.length_singleton]; omega
          · -- c12 False
            refine T.skip ?_
            refine T.seq ?_
            refine T.region ?_ -- region 14
            refine Rg.move rfl rfl ?_
            refine Rg.move rfl rfl ?_
            refine Rg.eqv (v' := .int .i64 D) (by rw [hD]; first | (rw [hel]; exact congrArg _ (wrap_turn _ _)) | (rw [show o = [] from List.length_eq_zero_iff.1 (by omega)]; exact congrArg _ (wrap_first ⟨hn0, hgr⟩))) ?_
            refine Rg.move rfl rfl ?_
            refine Rg.build (places := [(0, 1), (1, 1)]) Try.underlying37 I37 B37 rfl ⟨_, _, rfl, rfl, _, _, rfl, rfl, rfl⟩ (out := [_, _]) ⟨0, [_], rfl, rfl, by simp [Value.cells], 1, [_], rfl, V_cells hx3, by simp [Value.cells], rfl⟩ ?_
            refine Rg.sl1 (A := RT.po) (hn := by decide) (M := M1) Try.underlying28 I37 (by decide) rfl rfl hM1 (V_pair_mk (V_i64 hDr) hx3 rfl rfl rfl rfl) (.inl rfl) (fun u4 w4 hu4 s4 => ?_)
            refine Rg.append (M := M1) (base := w0.heap.size) Try.underlying28 I37 rfl rfl rfl rfl (ho.step0 s4) hu4 (Le.refl _ _) (by simp; omega) (by simp; omega) (Nat.le_trans S.size s4.size) (fun v3 M3 w5 ho3 s5 => ?_)
            refine Rg.assign rfl rfl ?_
            refine Rg.nil ?_
            refine T.region ?_ -- region 15
            refine Rg.move rfl rfl ?_
            refine Rg.assign rfl rfl ?_
            refine Rg.nil ?_
            refine T.region ?_ -- region 5
            refine Rg.move rfl rfl ?_
            refine Rg.iadd rfl rfl rfl (by omega) ?_
            refine Rg.assign rfl rfl ?_
            refine Rg.nil ?_
            refine ⟨rfl, (o ++ [(D, (getRising b (get b a).2.1).2.1)], v3, (getRising b (get b a).2.1).2.2), (.cons rfl (.cons rfl (.cons rfl (.cons rfl (.cons (by rw [List.length_append]; rfl) .nil))))), ?_, ?_⟩
            · refine ⟨hrd.step hbl htk, .inr (by simp; omega), by rw [lastPo_append]; exact hDr, M3, s5.lt (s4.lt hM1), (S.trans0 s4).transBlk s5 (ho.step0 s4) (Nat.le_refl _), ho3⟩
            · simp only [List.length_append, List.length_singleton]; omega
    · -- c4 False
      refine T.exit ?_
      refine T.seq ?_
      refine T.region ?_ -- region 16
      refine Rg.move rfl rfl ?_
      have hcl : ((RT.po).sl).V M w1 o u0 := Own.close hM S ho (by omega)
      have hps : ∀ p ∈ o, p.2.length ≤ 1099511627776 := fun p hp => by have := hr6 p hp; omega
      have hpa := po_all hcl
      have hpb := putPo_any2 o (-1) (by decide) (fun p hp => ⟨(hpa p hp).1, hps p hp, (hpa p hp).2⟩)
      have hle : 0 ≤ many → many = o.length := hle_of hom c4
      refine Rg.call rfl rfl E27 (rMay5_spec (M := M) (S.back.lt hM) hcl) (fun r3 w3 h => ?_)
      obtain ⟨rfl, s3⟩ := h
      have S3 := S.back.trans0 s3
      refine Rg.assign rfl rfl ?_
      refine Rg.nil ?_
      refine T.seq ?_
      refine T.seq ?_
      by_cases g17_2 : many < 0
      · -- g17_2 True
        apply T.draw (M := M) mixed [Asr.eq _, Asr.eq _, Asr.eq (.bool true), Asr.eq undef, Asr.eq undef, Asr.eq _, Asr.eq _, Asr.eq undef, Asr.eq undef, Asr.eq undef, Asr.eq undef, Asr.eq undef, Asr.eq undef, Asr.eq _] -- region 17
        · rfl
        · -- its operations
          refine Obls.cons ?_ ?_
          · intro wD E sD -- 0
            refine Rg.move rfl rfl ?_
            exact Rg.nil ⟨rfl, rfl, _, rfl, rfl, Step.refl _ _⟩
          refine Obls.cons ?_ ?_
          · intro wD E sD -- 1
            intro x_ hx_; have hx_ : x_ = _ := hx_; subst x_
            refine Rg.ilt rfl rfl rfl ?_
            exact Rg.nil ⟨rfl, rfl, _, rfl, rfl, Step.refl _ _⟩
          refine Obls.cons ?_ ?_
          · intro wD E sD -- 2
            intro x_ hx_; have hx_ : x_ = _ := hx_; subst x_
            refine Rg.move rfl rfl ?_
            refine Rg.nil ⟨rfl, rfl, _, rfl, ?_, Step.refl _ _⟩
            exact congrArg Value.bool (decide_eq_true g17_2)
          refine Obls.cons ?_ ?_
          · intro wD E sD -- 3
            intro x_ hx_; have hx_ : x_ = _ := hx_; subst x_
            exact Rg.gno rfl rfl rfl rfl (Rg.nil ⟨rfl, rfl, _, rfl, rfl, Step.refl _ _⟩)
          refine Obls.cons ?_ ?_
          · intro wD E sD -- 4
            intro x_ hx_; have hx_ : x_ = _ := hx_; subst x_
            intro x_ hx_; have hx_ : x_ = _ := hx_; subst x_
            exact Rg.gno rfl rfl rfl rfl (Rg.nil ⟨rfl, rfl, _, rfl, rfl, Step.refl _ _⟩)
          refine Obls.cons ?_ ?_
          · intro wD E sD -- 5
            intro x_ hx_; have hx_ : x_ = _ := hx_; subst x_
            intro x_ hx_; have hx_ : x_ = _ := hx_; subst x_
            refine Rg.pickt rfl rfl rfl ?_
            exact Rg.nil ⟨rfl, rfl, _, rfl, rfl, Step.refl _ _⟩
          refine Obls.cons ?_ ?_
          · intro wD E sD -- 6
            intro x_ hx_; have hx_ : x_ = _ := hx_; subst x_
            intro x_ hx_; have hx_ : x_ = _ := hx_; subst x_
            refine Rg.move rfl rfl ?_
            exact Rg.nil ⟨rfl, rfl, _, rfl, rfl, Step.refl _ _⟩
          refine Obls.cons ?_ ?_
          · intro wD E sD -- 7
            intro x_ hx_; have hx_ : x_ = _ := hx_; subst x_
            exact Rg.gno rfl rfl rfl rfl (Rg.nil ⟨rfl, rfl, _, rfl, rfl, Step.refl _ _⟩)
          refine Obls.cons ?_ ?_
          · intro wD E sD -- 8
            intro x_ hx_; have hx_ : x_ = _ := hx_; subst x_
            intro x_ hx_; have hx_ : x_ = _ := hx_; subst x_
            intro x_ hx_; have hx_ : x_ = _ := hx_; subst x_
            exact Rg.gno rfl rfl rfl rfl (Rg.nil ⟨rfl, rfl, _, rfl, rfl, Step.refl _ _⟩)
          refine Obls.cons ?_ ?_
          · intro wD E sD -- 9
            intro x_ hx_; have hx_ : x_ = _ := hx_; subst x_
            intro x_ hx_; have hx_ : x_ = _ := hx_; subst x_
            exact Rg.gno rfl rfl rfl rfl (Rg.nil ⟨rfl, rfl, _, rfl, rfl, Step.refl _ _⟩)
          refine Obls.cons ?_ ?_
          · intro wD E sD -- 10
            intro x_ hx_; have hx_ : x_ = _ := hx_; subst x_
            exact Rg.gno rfl rfl rfl rfl (Rg.nil ⟨rfl, rfl, _, rfl, rfl, Step.refl _ _⟩)
          refine Obls.cons ?_ ?_
          · intro wD E sD -- 11
            intro x_ hx_; have hx_ : x_ = _ := hx_; subst x_
            intro x_ hx_; have hx_ : x_ = _ := hx_; subst x_
            exact Rg.gno rfl rfl rfl rfl (Rg.nil ⟨rfl, rfl, _, rfl, rfl, Step.refl _ _⟩)
          refine Obls.cons ?_ ?_
          · intro wD E sD -- 12
            intro x_ hx_; have hx_ : x_ = _ := hx_; subst x_
            intro x_ hx_; have hx_ : x_ = _ := hx_; subst x_
            intro x_ hx_; have hx_ : x_ = _ := hx_; subst x_
            exact Rg.gno rfl rfl rfl rfl (Rg.nil ⟨rfl, rfl, _, rfl, rfl, Step.refl _ _⟩)
          refine Obls.cons ?_ ?_
          · intro wD E sD -- 13
            intro x_ hx_; have hx_ : x_ = _ := hx_; subst x_
            intro x_ hx_; have hx_ : x_ = _ := hx_; subst x_
            refine Rg.pickt rfl rfl rfl ?_
            exact Rg.nil ⟨rfl, rfl, _, rfl, rfl, Step.refl _ _⟩
          exact Obls.nil
        · -- behind it
          intro wD17 sD17
          intro x_ hx_; have hx_ : x_ = _ := hx_; subst x_
          intro x_ hx_; have hx_ : x_ = _ := hx_; subst x_
          intro x_ hx_; have hx_ : x_ = _ := hx_; subst x_
          intro x_ hx_; have hx_ : x_ = _ := hx_; subst x_
          intro x_ hx_; have hx_ : x_ = _ := hx_; subst x_
          intro x_ hx_; have hx_ : x_ = _ := hx_; subst x_
          intro x_ hx_; have hx_ : x_ = _ := hx_; subst x_
          intro x_ hx_; have hx_ : x_ = _ := hx_; subst x_
          intro x_ hx_; have hx_ : x_ = _ := hx_; subst x_
          intro x_ hx_; have hx_ : x_ = _ := hx_; subst x_
          intro x_ hx_; have hx_ : x_ = _ := hx_; subst x_
          intro x_ hx_; have hx_ : x_ = _ := hx_; subst x_
          intro x_ hx_; have hx_ : x_ = _ := hx_; subst x_
          intro x_ hx_; have hx_ : x_ = _ := hx_; subst x_
          refine T.ift rfl ?_
          refine T.seq ?_
          refine T.region ?_ -- region 18
          refine Rg.assign rfl rfl ?_
          refine Rg.assign rfl rfl ?_
          refine Rg.nil ?_
          refine T.ret ?_
          refine Kret2 rfl rfl rfl ⟨S3.trans0 sD17, .inr ⟨hrd.done (by omega) ?_ hle, rfl⟩⟩
          rintro ⟨x1, x2, x3⟩
          first
          | omega
          | exact g17_6 x2
          | exact c17 x3
      · -- g17_2 False
        by_cases g17_6 : ¬ mayPo (-1) o = true
        · -- g17_6 True
          apply T.draw (M := M) mixed [Asr.eq _, Asr.eq _, Asr.eq (.bool false), Asr.eq _, Asr.eq _, Asr.eq _, Asr.eq (.bool true), Asr.eq undef, Asr.eq undef, Asr.eq undef, Asr.eq undef, Asr.eq undef, Asr.eq undef, Asr.eq _] -- region 17
          · rfl
          · -- its operations
            refine Obls.cons ?_ ?_
            · intro wD E sD -- 0
              refine Rg.move rfl rfl ?_
              exact Rg.nil ⟨rfl, rfl, _, rfl, rfl, Step.refl _ _⟩
            refine Obls.cons ?_ ?_
            · intro wD E sD -- 1
              intro x_ hx_; have hx_ : x_ = _ := hx_; subst x_
              refine Rg.ilt rfl rfl rfl ?_
              exact Rg.nil ⟨rfl, rfl, _, rfl, rfl, Step.refl _ _⟩
            refine Obls.cons ?_ ?_
            · intro wD E sD -- 2
              intro x_ hx_; have hx_ : x_ = _ := hx_; subst x_
              refine Rg.move rfl rfl ?_
              refine Rg.nil ⟨rfl, rfl, _, rfl, ?_, Step.refl _ _⟩
              exact congrArg Value.bool (decide_eq_false g17_2)
            refine Obls.cons ?_ ?_
            · intro wD E sD -- 3
              intro x_ hx_; have hx_ : x_ = _ := hx_; subst x_
              refine Rg.gyes rfl rfl ?_
              refine Rg.move rfl rfl ?_
              exact Rg.nil ⟨rfl, rfl, _, rfl, rfl, Step.refl _ _⟩
            refine Obls.cons ?_ ?_
            · intro wD E sD -- 4
              intro x_ hx_; have hx_ : x_ = _ := hx_; subst x_
              intro x_ hx_; have hx_ : x_ = _ := hx_; subst x_
              refine Rg.gyes rfl rfl ?_
              refine Rg.not rfl rfl ?_
              refine Rg.eqv (v' := .bool (decide (¬ mayPo (-1) o = true))) (by simp) ?_
              exact Rg.nil ⟨rfl, rfl, _, rfl, rfl, Step.refl _ _⟩
            refine Obls.cons ?_ ?_
            · intro wD E sD -- 5
              intro x_ hx_; have hx_ : x_ = _ := hx_; subst x_
              intro x_ hx_; have hx_ : x_ = _ := hx_; subst x_
              refine Rg.pickf rfl rfl rfl ?_
              exact Rg.nil ⟨rfl, rfl, _, rfl, rfl, Step.refl _ _⟩
            refine Obls.cons ?_ ?_
            · intro wD E sD -- 6
              intro x_ hx_; have hx_ : x_ = _ := hx_; subst x_
              intro x_ hx_; have hx_ : x_ = _ := hx_; subst x_
              refine Rg.move rfl rfl ?_
              refine Rg.nil ⟨rfl, rfl, _, rfl, ?_, Step.refl _ _⟩
              exact congrArg Value.bool (decide_eq_true g17_6)
            refine Obls.cons ?_ ?_
            · intro wD E sD -- 7
              intro x_ hx_; have hx_ : x_ = _ := hx_; subst x_
              exact Rg.gno rfl rfl rfl rfl (Rg.nil ⟨rfl, rfl, _, rfl, rfl, Step.refl _ _⟩)
            refine Obls.cons ?_ ?_
            · intro wD E sD -- 8
              intro x_ hx_; have hx_ : x_ = _ := hx_; subst x_
              intro x_ hx_; have hx_ : x_ = _ := hx_; subst x_
              intro x_ hx_; have hx_ : x_ = _ := hx_; subst x_
              exact Rg.gno rfl rfl rfl rfl (Rg.nil ⟨rfl, rfl, _, rfl, rfl, Step.refl _ _⟩)
            refine Obls.cons ?_ ?_
            · intro wD E sD -- 9
              intro x_ hx_; have hx_ : x_ = _ := hx_; subst x_
              intro x_ hx_; have hx_ : x_ = _ := hx_; subst x_
              exact Rg.gno rfl rfl rfl rfl (Rg.nil ⟨rfl, rfl, _, rfl, rfl, Step.refl _ _⟩)
            refine Obls.cons ?_ ?_
            · intro wD E sD -- 10
              intro x_ hx_; have hx_ : x_ = _ := hx_; subst x_
              exact Rg.gno rfl rfl rfl rfl (Rg.nil ⟨rfl, rfl, _, rfl, rfl, Step.refl _ _⟩)
            refine Obls.cons ?_ ?_
            · intro wD E sD -- 11
              intro x_ hx_; have hx_ : x_ = _ := hx_; subst x_
              intro x_ hx_; have hx_ : x_ = _ := hx_; subst x_
              exact Rg.gno rfl rfl rfl rfl (Rg.nil ⟨rfl, rfl, _, rfl, rfl, Step.refl _ _⟩)
            refine Obls.cons ?_ ?_
            · intro wD E sD -- 12
              intro x_ hx_; have hx_ : x_ = _ := hx_; subst x_
              intro x_ hx_; have hx_ : x_ = _ := hx_; subst x_
              intro x_ hx_; have hx_ : x_ = _ := hx_; subst x_
              exact Rg.gno rfl rfl rfl rfl (Rg.nil ⟨rfl, rfl, _, rfl, rfl, Step.refl _ _⟩)
            refine Obls.cons ?_ ?_
            · intro wD E sD -- 13
              intro x_ hx_; have hx_ : x_ = _ := hx_; subst x_
              intro x_ hx_; have hx_ : x_ = _ := hx_; subst x_
              refine Rg.pickt rfl rfl rfl ?_
              exact Rg.nil ⟨rfl, rfl, _, rfl, rfl, Step.refl _ _⟩
            exact Obls.nil
          · -- behind it
            intro wD17 sD17
            intro x_ hx_; have hx_ : x_ = _ := hx_; subst x_
            intro x_ hx_; have hx_ : x_ = _ := hx_; subst x_
            intro x_ hx_; have hx_ : x_ = _ := hx_; subst x_
            intro x_ hx_; have hx_ : x_ = _ := hx_; subst x_
            intro x_ hx_; have hx_ : x_ = _ := hx_; subst x_
            intro x_ hx_; have hx_ : x_ = _ := hx_; subst x_
            intro x_ hx_; have hx_ : x_ = _ := hx_; subst x_
            intro x_ hx_; have hx_ : x_ = _ := hx_; subst x_
            intro x_ hx_; have hx_ : x_ = _ := hx_; subst x_
            intro x_ hx_; have hx_ : x_ = _ := hx_; subst x_
            intro x_ hx_; have hx_ : x_ = _ := hx_; subst x_
            intro x_ hx_; have hx_ : x_ = _ := hx_; subst x_
            intro x_ hx_; have hx_ : x_ = _ := hx_; subst x_
            intro x_ hx_; have hx_ : x_ = _ := hx_; subst x_
            refine T.ift rfl ?_
            refine T.seq ?_
            refine T.region ?_ -- region 18
            refine Rg.assign rfl rfl ?_
            refine Rg.assign rfl rfl ?_
            refine Rg.nil ?_
            refine T.ret ?_
            refine Kret2 rfl rfl rfl ⟨S3.trans0 sD17, .inr ⟨hrd.done (by omega) ?_ hle, rfl⟩⟩
            rintro ⟨x1, x2, x3⟩
            first
            | omega
            | exact g17_6 x2
            | exact c17 x3
        · -- g17_6 False
          apply T.draw (M := M) mixed [Asr.eq _, Asr.eq _, Asr.eq (.bool false), Asr.eq _, Asr.eq _, Asr.eq _, Asr.eq (.bool false), Asr.eq _, Asr.V (RT.u8.sl) (putPo (-1) o), Asr.eq _, Asr.eq _, Asr.eq _, Asr.eq _, Asr.eq _] -- region 17
          · rfl
          · -- its operations
            refine Obls.cons ?_ ?_
            · intro wD E sD -- 0
              refine Rg.move rfl rfl ?_
              exact Rg.nil ⟨rfl, rfl, _, rfl, rfl, Step.refl _ _⟩
            refine Obls.cons ?_ ?_
            · intro wD E sD -- 1
              intro x_ hx_; have hx_ : x_ = _ := hx_; subst x_
              refine Rg.ilt rfl rfl rfl ?_
              exact Rg.nil ⟨rfl, rfl, _, rfl, rfl, Step.refl _ _⟩
            refine Obls.cons ?_ ?_
            · intro wD E sD -- 2
              intro x_ hx_; have hx_ : x_ = _ := hx_; subst x_
              refine Rg.move rfl rfl ?_
              refine Rg.nil ⟨rfl, rfl, _, rfl, ?_, Step.refl _ _⟩
              exact congrArg Value.bool (decide_eq_false g17_2)
            refine Obls.cons ?_ ?_
            · intro wD E sD -- 3
              intro x_ hx_; have hx_ : x_ = _ := hx_; subst x_
              refine Rg.gyes rfl rfl ?_
              refine Rg.move rfl rfl ?_
              exact Rg.nil ⟨rfl, rfl, _, rfl, rfl, Step.refl _ _⟩
            refine Obls.cons ?_ ?_
            · intro wD E sD -- 4
              intro x_ hx_; have hx_ : x_ = _ := hx_; subst x_
              intro x_ hx_; have hx_ : x_ = _ := hx_; subst x_
              refine Rg.gyes rfl rfl ?_
              refine Rg.not rfl rfl ?_
              refine Rg.eqv (v' := .bool (decide (¬ mayPo (-1) o = true))) (by simp) ?_
              exact Rg.nil ⟨rfl, rfl, _, rfl, rfl, Step.refl _ _⟩
            refine Obls.cons ?_ ?_
            · intro wD E sD -- 5
              intro x_ hx_; have hx_ : x_ = _ := hx_; subst x_
              intro x_ hx_; have hx_ : x_ = _ := hx_; subst x_
              refine Rg.pickf rfl rfl rfl ?_
              exact Rg.nil ⟨rfl, rfl, _, rfl, rfl, Step.refl _ _⟩
            refine Obls.cons ?_ ?_
            · intro wD E sD -- 6
              intro x_ hx_; have hx_ : x_ = _ := hx_; subst x_
              intro x_ hx_; have hx_ : x_ = _ := hx_; subst x_
              refine Rg.move rfl rfl ?_
              refine Rg.nil ⟨rfl, rfl, _, rfl, ?_, Step.refl _ _⟩
              exact congrArg Value.bool (decide_eq_false g17_6)
            refine Obls.cons ?_ ?_
            · intro wD E sD -- 7
              intro x_ hx_; have hx_ : x_ = _ := hx_; subst x_
              refine Rg.gyes rfl rfl ?_
              refine Rg.move rfl rfl ?_
              exact Rg.nil ⟨rfl, rfl, _, rfl, rfl, Step.refl _ _⟩
            refine Obls.cons ?_ ?_
            · intro wD E sD -- 8
              intro x_ hx_; have hx_ : x_ = _ := hx_; subst x_
              intro x_ hx_; have hx_ : x_ = _ := hx_; subst x_
              intro x_ hx_; have hx_ : x_ = _ := hx_; subst x_
              refine Rg.gyes rfl rfl ?_
              refine Rg.call rfl rfl E36 (rBytes5_spec (M := M) (sD.lt (S3.lt hM)) ((hcl.le s3.le).le sD.le) (Decidable.not_not.1 g17_6) hps (by omega)) (fun r8 w8 h => ?_)
              obtain ⟨s8, h8⟩ := h
              exact Rg.nil ⟨rfl, rfl, _, rfl, h8, s8⟩
            refine Obls.cons ?_ ?_
            · intro wD E sD -- 9
              intro v8 hv8
              intro x_ hx_; have hx_ : x_ = _ := hx_; subst x_
              refine Rg.gyes rfl rfl ?_
              refine Rg.b2s (M := M) Try.underlying48 Try.underlying5 Try.underlying9 rfl rfl (show (RT.u8.sl).V M wD (putPo (-1) o) v8 from hv8) (Le.refl _ _) ?_
              exact Rg.nil ⟨rfl, rfl, _, rfl, rfl, Step.refl _ _⟩
            refine Obls.cons ?_ ?_
            · intro wD E sD -- 10
              intro x_ hx_; have hx_ : x_ = _ := hx_; subst x_
              refine Rg.gyes rfl rfl ?_
              refine Rg.move rfl rfl ?_
              exact Rg.nil ⟨rfl, rfl, _, rfl, rfl, Step.refl _ _⟩
            refine Obls.cons ?_ ?_
            · intro wD E sD -- 11
              intro x_ hx_; have hx_ : x_ = _ := hx_; subst x_
              intro x_ hx_; have hx_ : x_ = _ := hx_; subst x_
              refine Rg.gyes rfl rfl ?_
              refine Rg.b2s (M := M) Try.underlying48 Try.underlying5 Try.underlying9 rfl rfl (hv.le (S3.trans0 sD).le) (Le.refl _ _) ?_
              exact Rg.nil ⟨rfl, rfl, _, rfl, rfl, Step.refl _ _⟩
            refine Obls.cons ?_ ?_
            · intro wD E sD -- 12
              intro x_ hx_; have hx_ : x_ = _ := hx_; subst x_
              intro x_ hx_; have hx_ : x_ = _ := hx_; subst x_
              intro x_ hx_; have hx_ : x_ = _ := hx_; subst x_
              refine Rg.gyes rfl rfl ?_
              refine Rg.strne rfl rfl rfl ?_
              exact Rg.nil ⟨rfl, rfl, _, rfl, rfl, Step.refl _ _⟩
            refine Obls.cons ?_ ?_
            · intro wD E sD -- 13
              intro x_ hx_; have hx_ : x_ = _ := hx_; subst x_
              intro x_ hx_; have hx_ : x_ = _ := hx_; subst x_
              refine Rg.pickf rfl rfl rfl ?_
              exact Rg.nil ⟨rfl, rfl, _, rfl, rfl, Step.refl _ _⟩
            exact Obls.nil
          · -- behind it
            intro wD17 sD17
            intro x_ hx_; have hx_ : x_ = _ := hx_; subst x_
            intro x_ hx_; have hx_ : x_ = _ := hx_; subst x_
            intro x_ hx_; have hx_ : x_ = _ := hx_; subst x_
            intro x_ hx_; have hx_ : x_ = _ := hx_; subst x_
            intro x_ hx_; have hx_ : x_ = _ := hx_; subst x_
            intro x_ hx_; have hx_ : x_ = _ := hx_; subst x_
            intro x_ hx_; have hx_ : x_ = _ := hx_; subst x_
            intro x_ hx_; have hx_ : x_ = _ := hx_; subst x_
            intro v17_8 hv17_8
            intro x_ hx_; have hx_ : x_ = _ := hx_; subst x_
            intro x_ hx_; have hx_ : x_ = _ := hx_; subst x_
            intro x_ hx_; have hx_ : x_ = _ := hx_; subst x_
            intro x_ hx_; have hx_ : x_ = _ := hx_; subst x_
            intro x_ hx_; have hx_ : x_ = _ := hx_; subst x_
            refine T.ifp rfl (fun c17 => ?_) (fun c17 => ?_)
            · -- c17 True
              refine T.seq ?_
              refine T.region ?_ -- region 18
              refine Rg.assign rfl rfl ?_
              refine Rg.assign rfl rfl ?_
              refine Rg.nil ?_
              refine T.ret ?_
              refine Kret2 rfl rfl rfl ⟨S3.trans0 sD17, .inr ⟨hrd.done (by omega) ?_ hle, rfl⟩⟩
              rintro ⟨x1, x2, x3⟩
              first
              | omega
              | exact g17_6 x2
              | exact c17 x3
            · -- c17 False
              refine T.skip ?_
              refine T.seq ?_
              refine T.region ?_ -- region 19
              refine Rg.move rfl rfl ?_
              refine Rg.assign rfl rfl ?_
              refine Rg.assign rfl rfl ?_
              refine Rg.nil ?_
              refine T.ret ?_
              refine Kret2 rfl rfl rfl ⟨S3.trans0 sD17, .inl ⟨o, u0, ⟨hle (by omega), Decidable.not_not.1 g17_6, Decidable.not_not.1 c17⟩, rfl, (hcl.le s3.le).le sD17.le⟩⟩

end Go.K

/- The walks of Go functions, operation by operation. -/
import Derived.Test.YtgpmihcdjmjfoaaKTypes
import Derived.Test.YtgpmihcdjmjfoaaKNum
import Derived.Test.YtgpmihcdjmjfoaaKPost
import Derived.Test.YtgpmihcdjmjfoaaKPtr
import Derived.Test.YtgpmihcdjmjfoaaKDraw
import Derived.Test.YtgpmihcdjmjfoaaKRef04
import Derived.Test.YtgpmihcdjmjfoaaKPosting
import Derived.Test.YtgpmihcdjmjfoaaKMake
import Derived.Test.YtgpmihcdjmjfoaaKMake2
import Derived.Test.YtgpmihcdjmjfoaaKLaw05
import Derived.Test.YtgpmihcdjmjfoaaKFew5
import Derived.Test.YtgpmihcdjmjfoaaKMay5
import Derived.Test.YtgpmihcdjmjfoaaKSame5
import Derived.Test.YtgpmihcdjmjfoaaProg
import Derived.KernelRfl
namespace Go.K
open Go.Proofs
namespace TKLaw05b
theorem E18 : Enters Try.prog 18 := enters Try.func18 rfl (by decide) -- concordance/concordanceref05.Good
theorem E19 : Enters Try.prog 19 := enters Try.func19 rfl (by decide) -- concordance/posting.Make
theorem E24 : Enters Try.prog 24 := enters Try.func24 rfl (by decide) -- concordance/concordancelaw05.lives
theorem E26 : Enters Try.prog 26 := enters Try.func26 rfl (by decide) -- concordance/concordancelaw05.few
theorem E27 : Enters Try.prog 27 := enters Try.func27 rfl (by decide) -- concordance/concordanceref05.May
theorem E28 : Enters Try.prog 28 := enters Try.func28 rfl (by decide) -- concordance/posting.May
theorem E29 : Enters Try.prog 29 := enters Try.func29 rfl (by decide) -- concordance/concordancelaw05.same
end TKLaw05b
open TKLaw05b
set_option linter.unusedVariables false
set_option linter.unusedSimpArgs false
set_option maxRecDepth 10000

/-- 'concordance/concordancelaw05.PostingMakes' -/
theorem PostingMakes_spec {M : PSet} {w0 : World} {v : Value} {l : List Po} (hM : Lt M w0) (hv : ((RT.po).sl).V M w0 l v) :
    Spec Try.prog 6 #[v] w0 (fun v' w' => v' = .bool true ∧ Step M w0 M w' none') := by
  refine spec_of (args := [v]) (fn := Try.f6) Try.func6 rfl (n := 62) Try.ntmps6 ?_
  refine T.seq ?_
  refine T.region ?_ -- region 0
  refine Rg.assign rfl rfl ?_
  refine Rg.nil ?_
  refine T.seq ?_
  refine T.region ?_ -- region 1
  refine Rg.move rfl rfl ?_
  refine Rg.call rfl rfl E26 (few_spec (M := M) hM hv) (fun ux w1 h => ?_)
  obtain ⟨s1, hx⟩ := h
  have hxl := fewP_len l
  have hxs := fewP_small l
  generalize fewP l = x at hx hxl hxs
  have hM1 := s1.lt hM
  have hxa := po_all hx
  have hxp := putPo_any x (-1) (by decide) (fun p hp => ⟨(hxa p hp).1, hxs p hp, (hxa p hp).2⟩)
  have hxt := totPo_any x hxs
  refine Rg.assign rfl rfl ?_
  refine Rg.nil ?_
  refine T.seq ?_
  refine T.region ?_ -- region 2
  refine Rg.move rfl rfl ?_
  refine Rg.call rfl rfl E27 (rMay5_spec (M := M) hM1 hx) (fun r2 w2 h => ?_)
  obtain ⟨rfl, s2⟩ := h
  have hM2 := s2.lt hM1
  replace hx := hx.le s2.le
  refine Rg.assign rfl rfl ?_
  refine Rg.nil ?_
  refine T.seq ?_
  refine T.region ?_ -- region 3
  refine Rg.move rfl rfl ?_
  refine Rg.call rfl rfl E19 (Make_spec (M := M) hM2 hx (fun p hp => by have := hxs p hp; omega) (by omega) (by omega) (by omega)) (fun r3 w3 h => ?_)
  obtain ⟨s3, hmk, hno⟩ := h
  have hM3 := s3.lt hM2
  replace hx := hx.le s3.le
  obtain ⟨a, e, rfl, h1e, h0e⟩ : ∃ a e, r3 = .tuple #[a, .int .i64 e] ∧ (mayPo (-1) x = true → e = 0) ∧ (mayPo (-1) x = false → e = 1 ∧ a = .pointer none) := by
    cases hmy : mayPo (-1) x with
    | true => obtain ⟨p, hp, _⟩ := hmk hmy; exact ⟨p, 0, hp, fun _ => rfl, fun h => by cases h⟩
    | false => exact ⟨_, 1, hno hmy, fun h => by (cases h), fun _ => ⟨rfl, rfl⟩⟩
  clear hmk hno
  refine Rg.move rfl rfl ?_
  refine Rg.extract rfl rfl rfl ?_
  refine Rg.extract rfl rfl rfl ?_
  refine Rg.assign rfl rfl ?_
  refine Rg.assign rfl rfl ?_
  refine Rg.nil ?_
  refine T.seq ?_
  refine T.seq ?_
  refine T.region ?_ -- region 4
  refine Rg.move rfl rfl ?_
  refine Rg.call rfl rfl E28 (pMay_spec (M := M) hM3 hx) (fun r4 w4 h => ?_)
  obtain ⟨rfl, s4⟩ := h
  have hM4 := s4.lt hM3
  refine Rg.move rfl rfl ?_
  refine Rg.bne Try.underlying4 rfl rfl rfl ?_
  refine Rg.move rfl rfl ?_
  refine Rg.gfalse (g := 23) rfl ((fun h => h rfl)) ?_
  refine Rg.gyes rfl rfl ?_
  refine Rg.move rfl rfl ?_
  refine Rg.gyes rfl rfl ?_
  refine Rg.ieq rfl rfl rfl ?_
  refine Rg.gyes rfl rfl ?_
  refine Rg.move rfl rfl ?_
  refine Rg.gyes rfl rfl ?_
  refine Rg.bne Try.underlying4 rfl rfl rfl ?_
  refine Rg.pickf rfl rfl rfl ?_
  refine Rg.move rfl rfl ?_
  refine Rg.gfalse (g := 29) rfl ((fun h => h (by cases hmy : mayPo (-1) x with
  | true => rw [decide_eq_true (h1e hmy)]
  | false => rw [decide_eq_false (by rw [(h0e hmy).1]; decide)]))) ?_
  refine Rg.gyes rfl rfl ?_
  refine Rg.move rfl rfl ?_
  refine Rg.gyes rfl rfl ?_
  refine Rg.not rfl rfl ?_
  refine Rg.eqv (v' := .bool (decide (¬ mayPo (-1) x = true))) (by simp) ?_
  refine Rg.gyes rfl rfl ?_
  refine Rg.move rfl rfl ?_
  refine Rg.gsplitp (g := 32) rfl (fun g4_13 => ?_) (fun g4_13 => ?_)
  · -- g4_13 True
    obtain ⟨rfl, rfl⟩ := h0e (by simpa using g4_13)
    refine Rg.gyes rfl rfl ?_
    refine Rg.move rfl rfl ?_
    refine Rg.gyes rfl rfl ?_
    refine Rg.ptrne Try.underlying30 rfl rfl rfl ?_
    refine Rg.gyes rfl rfl ?_
    refine Rg.move rfl rfl ?_
    refine Rg.gfalse (g := 35) rfl ((fun h => h rfl)) ?_
    refine Rg.gyes rfl rfl ?_
    refine Rg.move rfl rfl ?_
    refine Rg.gyes rfl rfl ?_
    refine Rg.ine rfl rfl rfl ?_
    refine Rg.gyes rfl rfl ?_
    refine Rg.pickf rfl rfl rfl ?_
    refine Rg.gyes rfl rfl ?_
    refine Rg.pickt rfl rfl rfl ?_
    refine Rg.pickf rfl rfl rfl ?_
    refine Rg.nil ?_
    refine T.iffp rfl ((fun h => h rfl)) ?_
    refine T.skip ?_
    refine T.seq ?_
    refine T.region ?_ -- region 6
    refine Rg.move rfl rfl ?_
    have hv4 := hv.le (((s1.trans0 s2).trans0 s3).trans0 s4).le
    refine Rg.call rfl rfl E18 (Good5_spec (M := M) (most := 40) hM4 hv4 (by decide)) (fun ug w5 h5 => ?_)
    obtain ⟨s5, hg⟩ := h5
    have hgm := goodPo_may (l.take 40) (-1) (by decide) (by rw [List.length_take]; omega)
    have hgl := goodPo_len (l.take 40) (-1)
    rw [List.length_take] at hgl
    have hgs := goodPo_small (l.take 40) (-1)
    generalize goodPo (-1) (l.take 40) = g at hg hgm hgl hgs
    have hgp := putPo_small g (-1) (by decide) hgm hgs
    have hgt := totPo_small g hgs
    have hg0 := totPo_nonneg g
    have hM5 := s5.lt hM4
    have hps : ∀ p ∈ g, p.2.length ≤ 1099511627776 := fun p hp => by have := hgs p hp; omega
    refine Rg.assign rfl rfl ?_
    refine Rg.nil ?_
    refine T.seq ?_
    refine T.region ?_ -- region 7
    refine Rg.move rfl rfl ?_
    refine Rg.call rfl rfl E19 (Make_spec (M := M) hM5 hg hps (by omega) (by omega) (by omega)) (fun r6 w6 h6 => ?_)
    obtain ⟨s6, hmk, _⟩ := h6
    obtain ⟨p, rfl, hp⟩ := hmk hgm
    have hM6 := s6.lt hM5
    replace hg := hg.le s6.le
    refine Rg.move rfl rfl ?_
    refine Rg.extract rfl rfl rfl ?_
    refine Rg.extract rfl rfl rfl ?_
    refine Rg.assign rfl rfl ?_
    refine Rg.assign rfl rfl ?_
    refine Rg.nil ?_
    refine T.seq ?_
    refine T.region ?_ -- region 8
    refine Rg.move rfl rfl ?_
    refine Rg.call rfl rfl E28 (pMay_spec (M := M) hM6 hg) (fun r7 w7 h => ?_)
    obtain ⟨rfl, s7⟩ := h
    refine Rg.eqv (v' := .bool (decide True)) (by simp only [hgm, decide_true]) ?_
    refine Rg.move rfl rfl ?_
    refine Rg.gtrue (g := 50) rfl (trivial) ?_
    refine Rg.gyes rfl rfl ?_
    refine Rg.move rfl rfl ?_
    refine Rg.gyes rfl rfl ?_
    refine Rg.ieq rfl rfl rfl ?_
    refine Rg.pickt rfl rfl rfl ?_
    refine Rg.move rfl rfl ?_
    refine Rg.gtrue (g := 54) rfl (rfl) ?_
    refine Rg.gyes rfl rfl ?_
    refine Rg.move rfl rfl ?_
    refine Rg.gyes rfl rfl ?_
    refine Rg.move rfl rfl ?_
    refine Rg.gyes rfl rfl ?_
    refine Rg.call rfl rfl E29 (same5_spec (M := M) (s7.lt hM6) (hp.le (by decide) s7.le) (hg.le s7.le) hgm hps (by omega) (by omega) (by omega)) (fun r8 w8 h => ?_)
    obtain ⟨rfl, s8⟩ := h
    refine Rg.eqv (v' := .bool (decide True)) (by simp) ?_
    refine Rg.pickt rfl rfl rfl ?_
    refine Rg.move rfl rfl ?_
    refine Rg.gtrue (g := 59) rfl (trivial) ?_
    refine Rg.gyes rfl rfl ?_
    refine Rg.call rfl rfl E24 (lives5_spec (M := M) (s8.lt (s7.lt hM6))) (fun rL wL h => ?_)
    obtain ⟨rfl, sL⟩ := h
    refine Rg.pickt rfl rfl rfl ?_
    refine Rg.assign rfl rfl ?_
    refine Rg.nil ?_
    refine T.ret ?_
    exact Kret1 rfl rfl ⟨rfl, ((((((((s1.trans0 s2).trans0 s3).trans0 s4).trans0 s5).trans0 s6).trans0 s7).trans0 s8).trans0 sL)⟩
  · -- g4_13 False
    refine Rg.gno rfl rfl rfl rfl ?_
    refine Rg.gno rfl rfl rfl rfl ?_
    refine Rg.gno rfl rfl rfl rfl ?_
    refine Rg.gnox rfl rfl rfl ?_
    refine Rg.gnox rfl rfl rfl ?_
    refine Rg.gno rfl rfl rfl rfl ?_
    refine Rg.gyes rfl rfl ?_
    refine Rg.pickf rfl rfl rfl ?_
    refine Rg.pickf rfl rfl rfl ?_
    refine Rg.nil ?_
    refine T.iff rfl ?_
    refine T.skip ?_
    refine T.seq ?_
    refine T.region ?_ -- region 6
    refine Rg.move rfl rfl ?_
    have hv4 := hv.le (((s1.trans0 s2).trans0 s3).trans0 s4).le
    refine Rg.call rfl rfl E18 (Good5_spec (M := M) (most := 40) hM4 hv4 (by decide)) (fun ug w5 h5 => ?_)
    obtain ⟨s5, hg⟩ := h5
    have hgm := goodPo_may (l.take 40) (-1) (by decide) (by rw [List.length_take]; omega)
    have hgl := goodPo_len (l.take 40) (-1)
    rw [List.length_take] at hgl
    have hgs := goodPo_small (l.take 40) (-1)
    generalize goodPo (-1) (l.take 40) = g at hg hgm hgl hgs
    have hgp := putPo_small g (-1) (by decide) hgm hgs
    have hgt := totPo_small g hgs
    have hg0 := totPo_nonneg g
    have hM5 := s5.lt hM4
    have hps : ∀ p ∈ g, p.2.length ≤ 1099511627776 := fun p hp => by have := hgs p hp; omega
    refine Rg.assign rfl rfl ?_
    refine Rg.nil ?_
    refine T.seq ?_
    refine T.region ?_ -- region 7
    refine Rg.move rfl rfl ?_
    refine Rg.call rfl rfl E19 (Make_spec (M := M) hM5 hg hps (by omega) (by omega) (by omega)) (fun r6 w6 h6 => ?_)
    obtain ⟨s6, hmk, _⟩ := h6
    obtain ⟨p, rfl, hp⟩ := hmk hgm
    have hM6 := s6.lt hM5
    replace hg := hg.le s6.le
    refine Rg.move rfl rfl ?_
    refine Rg.extract rfl rfl rfl ?_
    refine Rg.extract rfl rfl rfl ?_
    refine Rg.assign rfl rfl ?_
    refine Rg.assign rfl rfl ?_
    refine Rg.nil ?_
    refine T.seq ?_
    refine T.region ?_ -- region 8
    refine Rg.move rfl rfl ?_
    refine Rg.call rfl rfl E28 (pMay_spec (M := M) hM6 hg) (fun r7 w7 h => ?_)
    obtain ⟨rfl, s7⟩ := h
    refine Rg.eqv (v' := .bool (decide True)) (by simp only [hgm, decide_true]) ?_
    refine Rg.move rfl rfl ?_
    refine Rg.gtrue (g := 50) rfl (trivial) ?_
    refine Rg.gyes rfl rfl ?_
    refine Rg.move rfl rfl ?_
    refine Rg.gyes rfl rfl ?_
    refine Rg.ieq rfl rfl rfl ?_
    refine Rg.pickt rfl rfl rfl ?_
    refine Rg.move rfl rfl ?_
    refine Rg.gtrue (g := 54) rfl (rfl) ?_
    refine Rg.gyes rfl rfl ?_
    refine Rg.move rfl rfl ?_
    refine Rg.gyes rfl rfl ?_
    refine Rg.move rfl rfl ?_
    refine Rg.gyes rfl rfl ?_
    refine Rg.call rfl rfl E29 (same5_spec (M := M) (s7.lt hM6) (hp.le (by decide) s7.le) (hg.le s7.le) hgm hps (by omega) (by omega) (by omega)) (fun r8 w8 h => ?_)
    obtain ⟨rfl, s8⟩ := h
    refine Rg.eqv (v' := .bool (decide True)) (by simp) ?_
    refine Rg.pickt rfl rfl rfl ?_
    refine Rg.move rfl rfl ?_
    refine Rg.gtrue (g := 59) rfl (trivial) ?_
    refine Rg.gyes rfl rfl ?_
    refine Rg.call rfl rfl E24 (lives5_spec (M := M) (s8.lt (s7.lt hM6))) (fun rL wL h => ?_)
    obtain ⟨rfl, sL⟩ := h
    refine Rg.pickt rfl rfl rfl ?_
    refine Rg.assign rfl rfl ?_
    refine Rg.nil ?_
    refine T.ret ?_
    exact Kret1 rfl rfl ⟨rfl, ((((((((s1.trans0 s2).trans0 s3).trans0 s4).trans0 s5).trans0 s6).trans0 s7).trans0 s8).trans0 sL)⟩

end Go.K

/- The walks of Go functions, operation by operation. -/
import Derived.Test.YtgpmihcdjmjfoaaKTypes
import Derived.Test.YtgpmihcdjmjfoaaKNum
import Derived.Test.YtgpmihcdjmjfoaaKPost
import Derived.Test.YtgpmihcdjmjfoaaKPtr
import Derived.Test.YtgpmihcdjmjfoaaKRead
import Derived.Test.YtgpmihcdjmjfoaaKDraw
import Derived.Test.YtgpmihcdjmjfoaaKRef04
import Derived.Test.YtgpmihcdjmjfoaaKPosting
import Derived.Test.YtgpmihcdjmjfoaaKMake
import Derived.Test.YtgpmihcdjmjfoaaKMake2
import Derived.Test.YtgpmihcdjmjfoaaKMay5
import Derived.Test.YtgpmihcdjmjfoaaKSame5
import Derived.Test.YtgpmihcdjmjfoaaKRead5
import Derived.Test.YtgpmihcdjmjfoaaKLaw05
import Derived.Test.YtgpmihcdjmjfoaaProg
import Derived.KernelRfl
namespace Go.K
open Go.Proofs
namespace TKLaw05c
theorem E18 : Enters Try.prog 18 := enters Try.func18 rfl (by decide) -- concordance/concordanceref05.Good
theorem E24 : Enters Try.prog 24 := enters Try.func24 rfl (by decide) -- concordance/concordancelaw05.lives
theorem E29 : Enters Try.prog 29 := enters Try.func29 rfl (by decide) -- concordance/concordancelaw05.same
theorem E34 : Enters Try.prog 34 := enters Try.func34 rfl (by decide) -- concordance/posting.Read
theorem E35 : Enters Try.prog 35 := enters Try.func35 rfl (by decide) -- concordance/concordanceref05.Read
theorem E36 : Enters Try.prog 36 := enters Try.func36 rfl (by decide) -- concordance/concordanceref05.Bytes
end TKLaw05c
open TKLaw05c
set_option linter.unusedVariables false
set_option linter.unusedSimpArgs false
set_option maxRecDepth 10000

/-- 'concordance/concordancelaw05.PostingReads' -/
theorem PostingReads_spec {M : PSet} {w0 : World} {v : Value} {b : List UInt8} {many : Int} (hM : Lt M w0) (hmr : -9223372036854775808 ≤ many ∧ many ≤ 9223372036854775807) (hv : (RT.u8.sl).V M w0 b v) :
    Spec Try.prog 9 #[.int .i64 many, v] w0 (fun v' w' => v' = .bool true ∧ Step M w0 M w' none') := by
  have hlen := V_sl_len hv
  have h61 := Int.emod_nonneg many (show (61 : Int) ≠ 0 by decide)
  have h62 := Int.emod_lt_of_pos many (show (0 : Int) < 61 by decide)
  refine spec_of (args := [.int .i64 many, v]) (fn := Try.f9) Try.func9 rfl (n := 50) Try.ntmps9 ?_
  refine T.seq ?_
  refine T.region ?_ -- region 0
  refine Rg.assign rfl rfl ?_
  refine Rg.nil ?_
  refine T.seq ?_
  refine T.seq ?_
  refine T.region ?_ -- region 1
  refine Rg.move rfl rfl ?_
  refine Rg.igt rfl rfl rfl ?_
  refine Rg.nil ?_
  refine T.ifp rfl (fun c1 => ?_) (fun c1 => ?_)
  · -- c1 True
    refine T.region ?_ -- region 2
    refine Rg.move rfl rfl ?_
    refine Rg.imod rfl rfl rfl (by omega) ?_
    refine Rg.assign rfl rfl ?_
    refine Rg.nil ?_
    refine T.seq ?_
    refine T.seq ?_
    refine T.region ?_ -- region 3
    refine Rg.move rfl rfl ?_
    refine Rg.lensl Try.underlying48 rfl hv rfl ?_
    refine Rg.igt rfl rfl rfl ?_
    refine Rg.nil ?_
    refine T.ifp rfl (fun c3 => ?_) (fun c3 => ?_)
    · -- c3 True
      refine T.region ?_ -- region 4
      refine Rg.move rfl rfl ?_
      refine Rg.slice_h (A := RT.u8) (hn := by decide) Try.underlying48 I5 rfl rfl rfl hv (by omega) (fun u hu => ?_)
      have hl' : (b.take (Int.toNat 200)).length ≤ 200 := by rw [List.length_take]; omega
      generalize b.take (Int.toNat 200) = b' at hu hl'
      have hv' := hu
      refine Rg.assign rfl rfl ?_
      refine Rg.nil ?_
      refine T.seq ?_
      refine T.region ?_ -- region 5
      refine Rg.move rfl rfl ?_
      refine Rg.move rfl rfl ?_
      refine Rg.call rfl rfl E34 (Read5_spec (M := M) hM hv' (by omega) (by omega)) (fun r5 w5 h5 => ?_)
      obtain ⟨s5, h5⟩ := h5
      obtain ⟨p, e, rfl, ⟨he0, he2⟩⟩ : ∃ p e, r5 = .tuple #[p, .int .i64 e] ∧ ((e = 0 → ∃ l, RP _ b' l ∧ PtrTo RT.li M w5 p (mkLi l)) ∧ (e ≠ 0 → e = 2 ∧ p = .pointer none ∧ ¬ ∃ l, RP _ b' l)) := by
        rcases h5 with ⟨l, p, hrp, hr, hp⟩ | ⟨hno, hr⟩
        · exact ⟨p, 0, hr, fun _ => ⟨l, hrp, hp⟩, fun h => absurd rfl h⟩
        · exact ⟨_, 2, hr, fun h => by (cases h), fun _ => ⟨rfl, rfl, hno⟩⟩
      have hM5 := s5.lt hM
      replace hv' := hv'.le s5.le
      refine Rg.move rfl rfl ?_
      refine Rg.extract rfl rfl rfl ?_
      refine Rg.extract rfl rfl rfl ?_
      refine Rg.assign rfl rfl ?_
      refine Rg.assign rfl rfl ?_
      refine Rg.nil ?_
      refine T.seq ?_
      refine T.region ?_ -- region 6
      refine Rg.move rfl rfl ?_
      refine Rg.move rfl rfl ?_
      refine Rg.call rfl rfl E35 (rRead5_spec (M := M) hM5 hv' (by omega) (by omega)) (fun r6 w6 h5 => ?_)
      obtain ⟨s6, h5⟩ := h5
      obtain ⟨u, f, rfl, ⟨hf0, hf2⟩⟩ : ∃ p e, r6 = .tuple #[p, .int .i64 e] ∧ ((e = 0 → ∃ l, RP _ b' l ∧ ((RT.po).sl).V M w6 l p) ∧ (e ≠ 0 → e = 2 ∧ p = .slice none 0 0 ∧ ¬ ∃ l, RP _ b' l)) := by
        rcases h5 with ⟨l, p, hrp, hr, hp⟩ | ⟨hno, hr⟩
        · exact ⟨p, 0, hr, fun _ => ⟨l, hrp, hp⟩, fun h => absurd rfl h⟩
        · exact ⟨_, 2, hr, fun h => by (cases h), fun _ => ⟨rfl, rfl, hno⟩⟩
      have hM6 := s6.lt hM5
      have hef : e = f := by
        by_cases h1 : e = 0
        · obtain ⟨l, h2, _⟩ := he0 h1
          by_cases h3 : f = 0
          · rw [h1, h3]
          · exact absurd ⟨l, h2⟩ (hf2 h3).2.2
        · by_cases h3 : f = 0
          · obtain ⟨l, h2, _⟩ := hf0 h3; exact absurd ⟨l, h2⟩ (he2 h1).2.2
          · rw [(he2 h1).1, (hf2 h3).1]
      obtain rfl : e = f := hef
      obtain ⟨q, rfl, hq⟩ : ∃ q, p = .pointer q ∧ (q ≠ none ↔ e = 0) := by
        by_cases h1 : e = 0
        · obtain ⟨l, _, h2⟩ := he0 h1
          obtain ⟨q, hq⟩ := PtrTo.isPtr h2
          exact ⟨some q, hq, by simp [h1]⟩
        · exact ⟨none, (he2 h1).2.1, by simp [h1]⟩
      refine Rg.move rfl rfl ?_
      refine Rg.extract rfl rfl rfl ?_
      refine Rg.extract rfl rfl rfl ?_
      refine Rg.assign rfl rfl ?_
      refine Rg.assign rfl rfl ?_
      refine Rg.nil ?_
      refine T.seq ?_
      refine T.seq ?_
      refine T.region ?_ -- region 7
      refine Rg.move rfl rfl ?_
      refine Rg.move rfl rfl ?_
      refine Rg.ine rfl rfl rfl ?_
      refine Rg.move rfl rfl ?_
      refine Rg.gfalse (g := 33) rfl ((fun h => h rfl)) ?_
      refine Rg.gyes rfl rfl ?_
      refine Rg.move rfl rfl ?_
      refine Rg.gyes rfl rfl ?_
      refine Rg.ptrne Try.underlying30 rfl rfl rfl ?_
      refine Rg.gyes rfl rfl ?_
      refine Rg.move rfl rfl ?_
      refine Rg.gyes rfl rfl ?_
      refine Rg.ieq rfl rfl rfl ?_
      refine Rg.gyes rfl rfl ?_
      refine Rg.bne Try.underlying4 rfl rfl rfl ?_
      refine Rg.pickf rfl rfl rfl ?_
      refine Rg.nil ?_
      refine T.iffp rfl ((fun h => h (decide_eq_decide.2 hq))) ?_
      refine T.skip ?_
      refine T.seq ?_
      refine T.region ?_ -- region 9
      refine Rg.move rfl rfl ?_
      refine Rg.ine rfl rfl rfl ?_
      refine Rg.move rfl rfl ?_
      refine Rg.gsplitp (g := 42) rfl (fun g9_2 => ?_) (fun g9_2 => ?_)
      · -- g9_2 True
        refine Rg.gno rfl rfl rfl rfl ?_
        refine Rg.gno rfl rfl rfl rfl ?_
        refine Rg.gno rfl rfl rfl rfl ?_
        refine Rg.pickt rfl rfl rfl ?_
        refine Rg.move rfl rfl ?_
        refine Rg.gyes rfl rfl ?_
        first
        | refine Rg.call rfl rfl E24 (lives5_spec (M := M) (S8.lt hM)) (fun rL wL hL => ?_)
        | refine Rg.call rfl rfl E24 (lives5_spec (M := M) hM6) (fun rL wL hL => ?_)
        obtain ⟨rfl, sL⟩ := hL
        refine Rg.pickt rfl rfl rfl ?_
        refine Rg.assign rfl rfl ?_
        refine Rg.nil ?_
        refine T.ret ?_
        first
        | exact Kret1 rfl rfl ⟨rfl, S8.trans0 sL⟩
        | exact Kret1 rfl rfl ⟨rfl, (s5.trans0 s6).trans0 sL⟩
      · -- g9_2 False
        refine Rg.gyes rfl rfl ?_
        refine Rg.move rfl rfl ?_
        refine Rg.gyes rfl rfl ?_
        refine Rg.move rfl rfl ?_
        refine Rg.gyes rfl rfl ?_
        have he : e = 0 := Decidable.not_not.1 g9_2
        obtain ⟨l, hrp, hp⟩ := he0 he
        obtain ⟨l2, hrp2, hu⟩ := hf0 he
        obtain rfl : l = l2 := hrp.uniq hrp2 (by omega)
        have hbd := hrp.bounds
        have htn := totPo_nonneg l
        refine Rg.call rfl rfl E29 (same5_spec (M := M) hM6 (hp.le (by decide) s6.le) hu hrp.2.1 (fun p hp => by have := hbd.2 p hp; omega) (by rw [hrp.2.2]; omega) (by omega) (by omega)) (fun r8 w8 h8 => ?_)
        obtain ⟨rfl, s8⟩ := h8
        refine Rg.eqv (v' := .bool (decide True)) (by simp) ?_
        have S8 := ((s5.trans0 s6).trans0 s8)
        refine Rg.pickf rfl rfl rfl ?_
        refine Rg.move rfl rfl ?_
        refine Rg.gtrue (g := 47) rfl (trivial) ?_
        refine Rg.gyes rfl rfl ?_
        first
        | refine Rg.call rfl rfl E24 (lives5_spec (M := M) (S8.lt hM)) (fun rL wL hL => ?_)
        | refine Rg.call rfl rfl E24 (lives5_spec (M := M) hM6) (fun rL wL hL => ?_)
        obtain ⟨rfl, sL⟩ := hL
        refine Rg.pickt rfl rfl rfl ?_
        refine Rg.assign rfl rfl ?_
        refine Rg.nil ?_
        refine T.ret ?_
        first
        | exact Kret1 rfl rfl ⟨rfl, S8.trans0 sL⟩
        | exact Kret1 rfl rfl ⟨rfl, (s5.trans0 s6).trans0 sL⟩
    · -- c3 False
      obtain ⟨b', hb'⟩ : ∃ b', b' = b := ⟨b, rfl⟩
      have hv' := hv
      rw [← hb'] at hv'
      have hl' : b'.length ≤ 200 := by rw [hb']; omega
      refine T.skip ?_
      refine T.seq ?_
      refine T.region ?_ -- region 5
      refine Rg.move rfl rfl ?_
      refine Rg.move rfl rfl ?_
      refine Rg.call rfl rfl E34 (Read5_spec (M := M) hM hv' (by omega) (by omega)) (fun r5 w5 h5 => ?_)
      obtain ⟨s5, h5⟩ := h5
      obtain ⟨p, e, rfl, ⟨he0, he2⟩⟩ : ∃ p e, r5 = .tuple #[p, .int .i64 e] ∧ ((e = 0 → ∃ l, RP _ b' l ∧ PtrTo RT.li M w5 p (mkLi l)) ∧ (e ≠ 0 → e = 2 ∧ p = .pointer none ∧ ¬ ∃ l, RP _ b' l)) := by
        rcases h5 with ⟨l, p, hrp, hr, hp⟩ | ⟨hno, hr⟩
        · exact ⟨p, 0, hr, fun _ => ⟨l, hrp, hp⟩, fun h => absurd rfl h⟩
        · exact ⟨_, 2, hr, fun h => by (cases h), fun _ => ⟨rfl, rfl, hno⟩⟩
      have hM5 := s5.lt hM
      replace hv' := hv'.le s5.le
      refine Rg.move rfl rfl ?_
      refine Rg.extract rfl rfl rfl ?_
      refine Rg.extract rfl rfl rfl ?_
      refine Rg.assign rfl rfl ?_
      refine Rg.assign rfl rfl ?_
      refine Rg.nil ?_
      refine T.seq ?_
      refine T.region ?_ -- region 6
      refine Rg.move rfl rfl ?_
      refine Rg.move rfl rfl ?_
      refine Rg.call rfl rfl E35 (rRead5_spec (M := M) hM5 hv' (by omega) (by omega)) (fun r6 w6 h5 => ?_)
      obtain ⟨s6, h5⟩ := h5
      obtain ⟨u, f, rfl, ⟨hf0, hf2⟩⟩ : ∃ p e, r6 = .tuple #[p, .int .i64 e] ∧ ((e = 0 → ∃ l, RP _ b' l ∧ ((RT.po).sl).V M w6 l p) ∧ (e ≠ 0 → e = 2 ∧ p = .slice none 0 0 ∧ ¬ ∃ l, RP _ b' l)) := by
        rcases h5 with ⟨l, p, hrp, hr, hp⟩ | ⟨hno, hr⟩
        · exact ⟨p, 0, hr, fun _ => ⟨l, hrp, hp⟩, fun h => absurd rfl h⟩
        · exact ⟨_, 2, hr, fun h => by (cases h), fun _ => ⟨rfl, rfl, hno⟩⟩
      have hM6 := s6.lt hM5
      have hef : e = f := by
        by_cases h1 : e = 0
        · obtain ⟨l, h2, _⟩ := he0 h1
          by_cases h3 : f = 0
          · rw [h1, h3]
          · exact absurd ⟨l, h2⟩ (hf2 h3).2.2
        · by_cases h3 : f = 0
          · obtain ⟨l, h2, _⟩ := hf0 h3; exact absurd ⟨l, h2⟩ (he2 h1).2.2
          · rw [(he2 h1).1, (hf2 h3).1]
      obtain rfl : e = f := hef
      obtain ⟨q, rfl, hq⟩ : ∃ q, p = .pointer q ∧ (q ≠ none ↔ e = 0) := by
        by_cases h1 : e = 0
        · obtain ⟨l, _, h2⟩ := he0 h1
          obtain ⟨q, hq⟩ := PtrTo.isPtr h2
          exact ⟨some q, hq, by simp [h1]⟩
        · exact ⟨none, (he2 h1).2.1, by simp [h1]⟩
      refine Rg.move rfl rfl ?_
      refine Rg.extract rfl rfl rfl ?_
      refine Rg.extract rfl rfl rfl ?_
      refine Rg.assign rfl rfl ?_
      refine Rg.assign rfl rfl ?_
      refine Rg.nil ?_
      refine T.seq ?_
      refine T.seq ?_
      refine T.region ?_ -- region 7
      refine Rg.move rfl rfl ?_
      refine Rg.move rfl rfl ?_
      refine Rg.ine rfl rfl rfl ?_
      refine Rg.move rfl rfl ?_
      refine Rg.gfalse (g := 33) rfl ((fun h => h rfl)) ?_
      refine Rg.gyes rfl rfl ?_
      refine Rg.move rfl rfl ?_
      refine Rg.gyes rfl rfl ?_
      refine Rg.ptrne Try.underlying30 rfl rfl rfl ?_
      refine Rg.gyes rfl rfl ?_
      refine Rg.move rfl rfl ?_
      refine Rg.gyes rfl rfl ?_
      refine Rg.ieq rfl rfl rfl ?_
      refine Rg.gyes rfl rfl ?_
      refine Rg.bne Try.underlying4 rfl rfl rfl ?_
      refine Rg.pickf rfl rfl rfl ?_
      refine Rg.nil ?_
      refine T.iffp rfl ((fun h => h (decide_eq_decide.2 hq))) ?_
      refine T.skip ?_
      refine T.seq ?_
      refine T.region ?_ -- region 9
      refine Rg.move rfl rfl ?_
      refine Rg.ine rfl rfl rfl ?_
      refine Rg.move rfl rfl ?_
      refine Rg.gsplitp (g := 42) rfl (fun g9_2 => ?_) (fun g9_2 => ?_)
      · -- g9_2 True
        refine Rg.gno rfl rfl rfl rfl ?_
        refine Rg.gno rfl rfl rfl rfl ?_
        refine Rg.gno rfl rfl rfl rfl ?_
        refine Rg.pickt rfl rfl rfl ?_
        refine Rg.move rfl rfl ?_
        refine Rg.gyes rfl rfl ?_
        first
        | refine Rg.call rfl rfl E24 (lives5_spec (M := M) (S8.lt hM)) (fun rL wL hL => ?_)
        | refine Rg.call rfl rfl E24 (lives5_spec (M := M) hM6) (fun rL wL hL => ?_)
        obtain ⟨rfl, sL⟩ := hL
        refine Rg.pickt rfl rfl rfl ?_
        refine Rg.assign rfl rfl ?_
        refine Rg.nil ?_
        refine T.ret ?_
        first
        | exact Kret1 rfl rfl ⟨rfl, S8.trans0 sL⟩
        | exact Kret1 rfl rfl ⟨rfl, (s5.trans0 s6).trans0 sL⟩
      · -- g9_2 False
        refine Rg.gyes rfl rfl ?_
        refine Rg.move rfl rfl ?_
        refine Rg.gyes rfl rfl ?_
        refine Rg.move rfl rfl ?_
        refine Rg.gyes rfl rfl ?_
        have he : e = 0 := Decidable.not_not.1 g9_2
        obtain ⟨l, hrp, hp⟩ := he0 he
        obtain ⟨l2, hrp2, hu⟩ := hf0 he
        obtain rfl : l = l2 := hrp.uniq hrp2 (by omega)
        have hbd := hrp.bounds
        have htn := totPo_nonneg l
        refine Rg.call rfl rfl E29 (same5_spec (M := M) hM6 (hp.le (by decide) s6.le) hu hrp.2.1 (fun p hp => by have := hbd.2 p hp; omega) (by rw [hrp.2.2]; omega) (by omega) (by omega)) (fun r8 w8 h8 => ?_)
        obtain ⟨rfl, s8⟩ := h8
        refine Rg.eqv (v' := .bool (decide True)) (by simp) ?_
        have S8 := ((s5.trans0 s6).trans0 s8)
        refine Rg.pickf rfl rfl rfl ?_
        refine Rg.move rfl rfl ?_
        refine Rg.gtrue (g := 47) rfl (trivial) ?_
        refine Rg.gyes rfl rfl ?_
        first
        | refine Rg.call rfl rfl E24 (lives5_spec (M := M) (S8.lt hM)) (fun rL wL hL => ?_)
        | refine Rg.call rfl rfl E24 (lives5_spec (M := M) hM6) (fun rL wL hL => ?_)
        obtain ⟨rfl, sL⟩ := hL
        refine Rg.pickt rfl rfl rfl ?_
        refine Rg.assign rfl rfl ?_
        refine Rg.nil ?_
        refine T.ret ?_
        first
        | exact Kret1 rfl rfl ⟨rfl, S8.trans0 sL⟩
        | exact Kret1 rfl rfl ⟨rfl, (s5.trans0 s6).trans0 sL⟩
  · -- c1 False
    refine T.skip ?_
    refine T.seq ?_
    refine T.seq ?_
    refine T.region ?_ -- region 3
    refine Rg.move rfl rfl ?_
    refine Rg.lensl Try.underlying48 rfl hv rfl ?_
    refine Rg.igt rfl rfl rfl ?_
    refine Rg.nil ?_
    refine T.ifp rfl (fun c3 => ?_) (fun c3 => ?_)
    · -- c3 True
      refine T.region ?_ -- region 4
      refine Rg.move rfl rfl ?_
      refine Rg.slice_h (A := RT.u8) (hn := by decide) Try.underlying48 I5 rfl rfl rfl hv (by omega) (fun u hu => ?_)
      have hl' : (b.take (Int.toNat 200)).length ≤ 200 := by rw [List.length_take]; omega
      generalize b.take (Int.toNat 200) = b' at hu hl'
      have hv' := hu
      refine Rg.assign rfl rfl ?_
      refine Rg.nil ?_
      refine T.seq ?_
      refine T.region ?_ -- region 5
      refine Rg.move rfl rfl ?_
      refine Rg.move rfl rfl ?_
      refine Rg.call rfl rfl E34 (Read5_spec (M := M) hM hv' (by omega) (by omega)) (fun r5 w5 h5 => ?_)
      obtain ⟨s5, h5⟩ := h5
      obtain ⟨p, e, rfl, ⟨he0, he2⟩⟩ : ∃ p e, r5 = .tuple #[p, .int .i64 e] ∧ ((e = 0 → ∃ l, RP _ b' l ∧ PtrTo RT.li M w5 p (mkLi l)) ∧ (e ≠ 0 → e = 2 ∧ p = .pointer none ∧ ¬ ∃ l, RP _ b' l)) := by
        rcases h5 with ⟨l, p, hrp, hr, hp⟩ | ⟨hno, hr⟩
        · exact ⟨p, 0, hr, fun _ => ⟨l, hrp, hp⟩, fun h => absurd rfl h⟩
        · exact ⟨_, 2, hr, fun h => by (cases h), fun _ => ⟨rfl, rfl, hno⟩⟩
      have hM5 := s5.lt hM
      replace hv' := hv'.le s5.le
      refine Rg.move rfl rfl ?_
      refine Rg.extract rfl rfl rfl ?_
      refine Rg.extract rfl rfl rfl ?_
      refine Rg.assign rfl rfl ?_
      refine Rg.assign rfl rfl ?_
      refine Rg.nil ?_
      refine T.seq ?_
      refine T.region ?_ -- region 6
      refine Rg.move rfl rfl ?_
      refine Rg.move rfl rfl ?_
      refine Rg.call rfl rfl E35 (rRead5_spec (M := M) hM5 hv' (by omega) (by omega)) (fun r6 w6 h5 => ?_)
      obtain ⟨s6, h5⟩ := h5
      obtain ⟨u, f, rfl, ⟨hf0, hf2⟩⟩ : ∃ p e, r6 = .tuple #[p, .int .i64 e] ∧ ((e = 0 → ∃ l, RP _ b' l ∧ ((RT.po).sl).V M w6 l p) ∧ (e ≠ 0 → e = 2 ∧ p = .slice none 0 0 ∧ ¬ ∃ l, RP _ b' l)) := by
        rcases h5 with ⟨l, p, hrp, hr, hp⟩ | ⟨hno, hr⟩
        · exact ⟨p, 0, hr, fun _ => ⟨l, hrp, hp⟩, fun h => absurd rfl h⟩
        · exact ⟨_, 2, hr, fun h => by (cases h), fun _ => ⟨rfl, rfl, hno⟩⟩
      have hM6 := s6.lt hM5
      have hef : e = f := by
        by_cases h1 : e = 0
        · obtain ⟨l, h2, _⟩ := he0 h1
          by_cases h3 : f = 0
          · rw [h1, h3]
          · exact absurd ⟨l, h2⟩ (hf2 h3).2.2
        · by_cases h3 : f = 0
          · obtain ⟨l, h2, _⟩ := hf0 h3; exact absurd ⟨l, h2⟩ (he2 h1).2.2
          · rw [(he2 h1).1, (hf2 h3).1]
      obtain rfl : e = f := hef
      obtain ⟨q, rfl, hq⟩ : ∃ q, p = .pointer q ∧ (q ≠ none ↔ e = 0) := by
        by_cases h1 : e = 0
        · obtain ⟨l, _, h2⟩ := he0 h1
          obtain ⟨q, hq⟩ := PtrTo.isPtr h2
          exact ⟨some q, hq, by simp [h1]⟩
        · exact ⟨none, (he2 h1).2.1, by simp [h1]⟩
      refine Rg.move rfl rfl ?_
      refine Rg.extract rfl rfl rfl ?_
      refine Rg.extract rfl rfl rfl ?_
      refine Rg.assign rfl rfl ?_
      refine Rg.assign rfl rfl ?_
      refine Rg.nil ?_
      refine T.seq ?_
      refine T.seq ?_
      refine T.region ?_ -- region 7
      refine Rg.move rfl rfl ?_
      refine Rg.move rfl rfl ?_
      refine Rg.ine rfl rfl rfl ?_
      refine Rg.move rfl rfl ?_
      refine Rg.gfalse (g := 33) rfl ((fun h => h rfl)) ?_
      refine Rg.gyes rfl rfl ?_
      refine Rg.move rfl rfl ?_
      refine Rg.gyes rfl rfl ?_
      refine Rg.ptrne Try.underlying30 rfl rfl rfl ?_
      refine Rg.gyes rfl rfl ?_
      refine Rg.move rfl rfl ?_
      refine Rg.gyes rfl rfl ?_
      refine Rg.ieq rfl rfl rfl ?_
      refine Rg.gyes rfl rfl ?_
      refine Rg.bne Try.underlying4 rfl rfl rfl ?_
      refine Rg.pickf rfl rfl rfl ?_
      refine Rg.nil ?_
      refine T.iffp rfl ((fun h => h (decide_eq_decide.2 hq))) ?_
      refine T.skip ?_
      refine T.seq ?_
      refine T.region ?_ -- region 9
      refine Rg.move rfl rfl ?_
      refine Rg.ine rfl rfl rfl ?_
      refine Rg.move rfl rfl ?_
      refine Rg.gsplitp (g := 42) rfl (fun g9_2 => ?_) (fun g9_2 => ?_)
      · -- g9_2 True
        refine Rg.gno rfl rfl rfl rfl ?_
        refine Rg.gno rfl rfl rfl rfl ?_
        refine Rg.gno rfl rfl rfl rfl ?_
        refine Rg.pickt rfl rfl rfl ?_
        refine Rg.move rfl rfl ?_
        refine Rg.gyes rfl rfl ?_
        first
        | refine Rg.call rfl rfl E24 (lives5_spec (M := M) (S8.lt hM)) (fun rL wL hL => ?_)
        | refine Rg.call rfl rfl E24 (lives5_spec (M := M) hM6) (fun rL wL hL => ?_)
        obtain ⟨rfl, sL⟩ := hL
        refine Rg.pickt rfl rfl rfl ?_
        refine Rg.assign rfl rfl ?_
        refine Rg.nil ?_
        refine T.ret ?_
        first
        | exact Kret1 rfl rfl ⟨rfl, S8.trans0 sL⟩
        | exact Kret1 rfl rfl ⟨rfl, (s5.trans0 s6).trans0 sL⟩
      · -- g9_2 False
        refine Rg.gyes rfl rfl ?_
        refine Rg.move rfl rfl ?_
        refine Rg.gyes rfl rfl ?_
        refine Rg.move rfl rfl ?_
        refine Rg.gyes rfl rfl ?_
        have he : e = 0 := Decidable.not_not.1 g9_2
        obtain ⟨l, hrp, hp⟩ := he0 he
        obtain ⟨l2, hrp2, hu⟩ := hf0 he
        obtain rfl : l = l2 := hrp.uniq hrp2 (by omega)
        have hbd := hrp.bounds
        have htn := totPo_nonneg l
        refine Rg.call rfl rfl E29 (same5_spec (M := M) hM6 (hp.le (by decide) s6.le) hu hrp.2.1 (fun p hp => by have := hbd.2 p hp; omega) (by rw [hrp.2.2]; omega) (by omega) (by omega)) (fun r8 w8 h8 => ?_)
        obtain ⟨rfl, s8⟩ := h8
        refine Rg.eqv (v' := .bool (decide True)) (by simp) ?_
        have S8 := ((s5.trans0 s6).trans0 s8)
        refine Rg.pickf rfl rfl rfl ?_
        refine Rg.move rfl rfl ?_
        refine Rg.gtrue (g := 47) rfl (trivial) ?_
        refine Rg.gyes rfl rfl ?_
        first
        | refine Rg.call rfl rfl E24 (lives5_spec (M := M) (S8.lt hM)) (fun rL wL hL => ?_)
        | refine Rg.call rfl rfl E24 (lives5_spec (M := M) hM6) (fun rL wL hL => ?_)
        obtain ⟨rfl, sL⟩ := hL
        refine Rg.pickt rfl rfl rfl ?_
        refine Rg.assign rfl rfl ?_
        refine Rg.nil ?_
        refine T.ret ?_
        first
        | exact Kret1 rfl rfl ⟨rfl, S8.trans0 sL⟩
        | exact Kret1 rfl rfl ⟨rfl, (s5.trans0 s6).trans0 sL⟩
    · -- c3 False
      obtain ⟨b', hb'⟩ : ∃ b', b' = b := ⟨b, rfl⟩
      have hv' := hv
      rw [← hb'] at hv'
      have hl' : b'.length ≤ 200 := by rw [hb']; omega
      refine T.skip ?_
      refine T.seq ?_
      refine T.region ?_ -- region 5
      refine Rg.move rfl rfl ?_
      refine Rg.move rfl rfl ?_
      refine Rg.call rfl rfl E34 (Read5_spec (M := M) hM hv' (by omega) (by omega)) (fun r5 w5 h5 => ?_)
      obtain ⟨s5, h5⟩ := h5
      obtain ⟨p, e, rfl, ⟨he0, he2⟩⟩ : ∃ p e, r5 = .tuple #[p, .int .i64 e] ∧ ((e = 0 → ∃ l, RP _ b' l ∧ PtrTo RT.li M w5 p (mkLi l)) ∧ (e ≠ 0 → e = 2 ∧ p = .pointer none ∧ ¬ ∃ l, RP _ b' l)) := by
        rcases h5 with ⟨l, p, hrp, hr, hp⟩ | ⟨hno, hr⟩
        · exact ⟨p, 0, hr, fun _ => ⟨l, hrp, hp⟩, fun h => absurd rfl h⟩
        · exact ⟨_, 2, hr, fun h => by (cases h), fun _ => ⟨rfl, rfl, hno⟩⟩
      have hM5 := s5.lt hM
      replace hv' := hv'.le s5.le
      refine Rg.move rfl rfl ?_
      refine Rg.extract rfl rfl rfl ?_
      refine Rg.extract rfl rfl rfl ?_
      refine Rg.assign rfl rfl ?_
      refine Rg.assign rfl rfl ?_
      refine Rg.nil ?_
      refine T.seq ?_
      refine T.region ?_ -- region 6
      refine Rg.move rfl rfl ?_
      refine Rg.move rfl rfl ?_
      refine Rg.call rfl rfl E35 (rRead5_spec (M := M) hM5 hv' (by omega) (by omega)) (fun r6 w6 h5 => ?_)
      obtain ⟨s6, h5⟩ := h5
      obtain ⟨u, f, rfl, ⟨hf0, hf2⟩⟩ : ∃ p e, r6 = .tuple #[p, .int .i64 e] ∧ ((e = 0 → ∃ l, RP _ b' l ∧ ((RT.po).sl).V M w6 l p) ∧ (e ≠ 0 → e = 2 ∧ p = .slice none 0 0 ∧ ¬ ∃ l, RP _ b' l)) := by
        rcases h5 with ⟨l, p, hrp, hr, hp⟩ | ⟨hno, hr⟩
        · exact ⟨p, 0, hr, fun _ => ⟨l, hrp, hp⟩, fun h => absurd rfl h⟩
        · exact ⟨_, 2, hr, fun h => by (cases h), fun _ => ⟨rfl, rfl, hno⟩⟩
      have hM6 := s6.lt hM5
      have hef : e = f := by
        by_cases h1 : e = 0
        · obtain ⟨l, h2, _⟩ := he0 h1
          by_cases h3 : f = 0
          · rw [h1, h3]
          · exact absurd ⟨l, h2⟩ (hf2 h3).2.2
        · by_cases h3 : f = 0
          · obtain ⟨l, h2, _⟩ := hf0 h3; exact absurd ⟨l, h2⟩ (he2 h1).2.2
          · rw [(he2 h1).1, (hf2 h3).1]
      obtain rfl : e = f := hef
      obtain ⟨q, rfl, hq⟩ : ∃ q, p = .pointer q ∧ (q ≠ none ↔ e = 0) := by
        by_cases h1 : e = 0
        · obtain ⟨l, _, h2⟩ := he0 h1
          obtain ⟨q, hq⟩ := PtrTo.isPtr h2
          exact ⟨some q, hq, by simp [h1]⟩
        · exact ⟨none, (he2 h1).2.1, by simp [h1]⟩
      refine Rg.move rfl rfl ?_
      refine Rg.extract rfl rfl rfl ?_
      refine Rg.extract rfl rfl rfl ?_
      refine Rg.assign rfl rfl ?_
      refine Rg.assign rfl rfl ?_
      refine Rg.nil ?_
      refine T.seq ?_
      refine T.seq ?_
      refine T.region ?_ -- region 7
      refine Rg.move rfl rfl ?_
      refine Rg.move rfl rfl ?_
      refine Rg.ine rfl rfl rfl ?_
      refine Rg.move rfl rfl ?_
      refine Rg.gfalse (g := 33) rfl ((fun h => h rfl)) ?_
      refine Rg.gyes rfl rfl ?_
      refine Rg.move rfl rfl ?_
      refine Rg.gyes rfl rfl ?_
      refine Rg.ptrne Try.underlying30 rfl rfl rfl ?_
      refine Rg.gyes rfl rfl ?_
      refine Rg.move rfl rfl ?_
      refine Rg.gyes rfl rfl ?_
      refine Rg.ieq rfl rfl rfl ?_
      refine Rg.gyes rfl rfl ?_
      refine Rg.bne Try.underlying4 rfl rfl rfl ?_
      refine Rg.pickf rfl rfl rfl ?_
      refine Rg.nil ?_
      refine T.iffp rfl ((fun h => h (decide_eq_decide.2 hq))) ?_
      refine T.skip ?_
      refine T.seq ?_
      refine T.region ?_ -- region 9
      refine Rg.move rfl rfl ?_
      refine Rg.ine rfl rfl rfl ?_
      refine Rg.move rfl rfl ?_
      refine Rg.gsplitp (g := 42) rfl (fun g9_2 => ?_) (fun g9_2 => ?_)
      · -- g9_2 True
        refine Rg.gno rfl rfl rfl rfl ?_
        refine Rg.gno rfl rfl rfl rfl ?_
        refine Rg.gno rfl rfl rfl rfl ?_
        refine Rg.pickt rfl rfl rfl ?_
        refine Rg.move rfl rfl ?_
        refine Rg.gyes rfl rfl ?_
        first
        | refine Rg.call rfl rfl E24 (lives5_spec (M := M) (S8.lt hM)) (fun rL wL hL => ?_)
        | refine Rg.call rfl rfl E24 (lives5_spec (M := M) hM6) (fun rL wL hL => ?_)
        obtain ⟨rfl, sL⟩ := hL
        refine Rg.pickt rfl rfl rfl ?_
        refine Rg.assign rfl rfl ?_
        refine Rg.nil ?_
        refine T.ret ?_
        first
        | exact Kret1 rfl rfl ⟨rfl, S8.trans0 sL⟩
        | exact Kret1 rfl rfl ⟨rfl, (s5.trans0 s6).trans0 sL⟩
      · -- g9_2 False
        refine Rg.gyes rfl rfl ?_
        refine Rg.move rfl rfl ?_
        refine Rg.gyes rfl rfl ?_
        refine Rg.move rfl rfl ?_
        refine Rg.gyes rfl rfl ?_
        have he : e = 0 := Decidable.not_not.1 g9_2
        obtain ⟨l, hrp, hp⟩ := he0 he
        obtain ⟨l2, hrp2, hu⟩ := hf0 he
        obtain rfl : l = l2 := hrp.uniq hrp2 (by omega)
        have hbd := hrp.bounds
        have htn := totPo_nonneg l
        refine Rg.call rfl rfl E29 (same5_spec (M := M) hM6 (hp.le (by decide) s6.le) hu hrp.2.1 (fun p hp => by have := hbd.2 p hp; omega) (by rw [hrp.2.2]; omega) (by omega) (by omega)) (fun r8 w8 h8 => ?_)
        obtain ⟨rfl, s8⟩ := h8
        refine Rg.eqv (v' := .bool (decide True)) (by simp) ?_
        have S8 := ((s5.trans0 s6).trans0 s8)
        refine Rg.pickf rfl rfl rfl ?_
        refine Rg.move rfl rfl ?_
        refine Rg.gtrue (g := 47) rfl (trivial) ?_
        refine Rg.gyes rfl rfl ?_
        first
        | refine Rg.call rfl rfl E24 (lives5_spec (M := M) (S8.lt hM)) (fun rL wL hL => ?_)
        | refine Rg.call rfl rfl E24 (lives5_spec (M := M) hM6) (fun rL wL hL => ?_)
        obtain ⟨rfl, sL⟩ := hL
        refine Rg.pickt rfl rfl rfl ?_
        refine Rg.assign rfl rfl ?_
        refine Rg.nil ?_
        refine T.ret ?_
        first
        | exact Kret1 rfl rfl ⟨rfl, S8.trans0 sL⟩
        | exact Kret1 rfl rfl ⟨rfl, (s5.trans0 s6).trans0 sL⟩

/-- 'concordance/concordancelaw05.PostingRound' -/
theorem PostingRound_spec {M : PSet} {w0 : World} {v : Value} {l : List Po} {more : Int} (hM : Lt M w0) (hv : ((RT.po).sl).V M w0 l v) (hmr : -9223372036854775808 ≤ more ∧ more ≤ 9223372036854775807) :
    Spec Try.prog 10 #[v, .int .i64 more] w0 (fun v' w' => v' = .bool true ∧ Step M w0 M w' none') := by
  refine spec_of (args := [v, .int .i64 more]) (fn := Try.f10) Try.func10 rfl (n := 76) Try.ntmps10 ?_
  refine T.seq ?_
  refine T.region ?_ -- region 0
  refine Rg.assign rfl rfl ?_
  refine Rg.nil ?_
  refine T.seq ?_
  refine T.region ?_ -- region 1
  refine Rg.move rfl rfl ?_
  refine Rg.call rfl rfl E18 (Good5_spec (M := M) (most := 40) hM hv (by decide)) (fun ug w1 h1 => ?_)
  obtain ⟨s1, hg⟩ := h1
  have hgm := goodPo_may (l.take 40) (-1) (by decide) (by rw [List.length_take]; omega)
  have hgl := goodPo_len (l.take 40) (-1)
  rw [List.length_take] at hgl
  have hgs := goodPo_small (l.take 40) (-1)
  generalize goodPo (-1) (l.take 40) = g at hg hgm hgl hgs
  have hgp := putPo_small g (-1) (by decide) hgm hgs
  have hgt := totPo_small g hgs
  have hg0 := totPo_nonneg g
  have hM1 := s1.lt hM
  have hps : ∀ p ∈ g, p.2.length ≤ 1099511627776 := fun p hp => by have := hgs p hp; omega
  refine Rg.assign rfl rfl ?_
  refine Rg.nil ?_
  refine T.seq ?_
  refine T.region ?_ -- region 2
  refine Rg.move rfl rfl ?_
  refine Rg.call rfl rfl E36 (rBytes5_spec (M := M) hM1 hg hgm hps (by omega)) (fun ub w2 h => ?_)
  obtain ⟨s2, hb⟩ := h
  have hM2 := s2.lt hM1
  replace hg := hg.le s2.le
  refine Rg.assign rfl rfl ?_
  refine Rg.nil ?_
  refine T.seq ?_
  refine T.region ?_ -- region 3
  refine Rg.move rfl rfl ?_
  refine Rg.lensl Try.underlying28 rfl hg rfl ?_
  refine Rg.move rfl rfl ?_
  refine Rg.call rfl rfl E34 (Read5_spec (M := M) hM2 hb (by omega) (by omega)) (fun r w3 h => ?_)
  obtain ⟨s3, h⟩ := h
  obtain ⟨x, p, hrp, rfl, hp⟩ := h.resolve_right (fun h => h.1 ⟨g, rfl, hgm, rfl⟩)
  obtain rfl : g = x := (hrp.uniq (m' := (g.length : Int)) ⟨rfl, hgm, rfl⟩ (by omega)).symm
  replace hb := hb.le s3.le
  replace hg := hg.le s3.le
  have hM3 := s3.lt hM2
  refine Rg.move rfl rfl ?_
  refine Rg.extract rfl rfl rfl ?_
  refine Rg.extract rfl rfl rfl ?_
  refine Rg.assign rfl rfl ?_
  refine Rg.assign rfl rfl ?_
  refine Rg.nil ?_
  refine T.seq ?_
  refine T.seq ?_
  refine T.region ?_ -- region 4
  refine Rg.move rfl rfl ?_
  refine Rg.ine rfl rfl rfl ?_
  refine Rg.move rfl rfl ?_
  refine Rg.gfalse (g := 27) rfl ((fun h => h rfl)) ?_
  refine Rg.gyes rfl rfl ?_
  refine Rg.move rfl rfl ?_
  refine Rg.gyes rfl rfl ?_
  refine Rg.move rfl rfl ?_
  refine Rg.gyes rfl rfl ?_
  refine Rg.call rfl rfl E29 (same5_spec (M := M) hM3 hp hg hgm hps (by omega) (by omega) (by omega)) (fun r8 w4 h8 => ?_)
  obtain ⟨rfl, s4⟩ := h8
  replace hb := hb.le s4.le
  replace hg := hg.le s4.le
  have hM4 := s4.lt hM3
  refine Rg.gyes rfl rfl ?_
  refine Rg.not rfl rfl ?_
  refine Rg.eqv (v' := .bool (decide False)) (by simp) ?_
  refine Rg.pickf rfl rfl rfl ?_
  refine Rg.nil ?_
  refine T.iffp rfl ((fun h => h)) ?_
  refine T.skip ?_
  refine T.seq ?_
  refine T.seq ?_
  refine T.region ?_ -- region 6
  refine Rg.move rfl rfl ?_
  refine Rg.ilt rfl rfl rfl ?_
  refine Rg.nil ?_
  refine T.ifp rfl (fun c6 => ?_) (fun c6 => ?_)
  · -- c6 True
    refine T.region ?_ -- region 7
    refine Rg.move rfl rfl ?_
    refine Rg.iadd rfl rfl rfl (by omega) ?_
    refine Rg.neg rfl rfl (by omega) ?_
    refine Rg.assign rfl rfl ?_
    refine Rg.nil ?_
    refine T.seq ?_
    refine T.region ?_ -- region 8
    refine Rg.move rfl rfl ?_
    refine Rg.imod rfl rfl rfl (by omega) ?_
    refine Rg.iadd rfl rfl rfl (by omega) ?_
    refine Rg.assign rfl rfl ?_
    refine Rg.nil ?_
    refine T.seq ?_
    refine T.region ?_ -- region 9
    refine Rg.move rfl rfl ?_
    refine Rg.lensl Try.underlying28 rfl hg rfl ?_
    refine Rg.move rfl rfl ?_
    refine Rg.iadd rfl rfl rfl (by omega) ?_
    refine Rg.move rfl rfl ?_
    refine Rg.call rfl rfl E34 (Read5_spec (M := M) hM4 hb (by omega) (by omega)) (fun r w5 h => ?_)
    obtain ⟨s5, h⟩ := h
    obtain ⟨_, rfl⟩ := h.resolve_left (fun ⟨l, q, hrp, _⟩ => by have h1 := hrp.uniq (m' := (g.length : Int)) ⟨rfl, hgm, rfl⟩ (by omega); have h2 := hrp.1; rw [h1] at h2; omega)
    replace hb := hb.le s5.le
    have hM5 := s5.lt hM4
    refine Rg.move rfl rfl ?_
    refine Rg.extract rfl rfl rfl ?_
    refine Rg.extract rfl rfl rfl ?_
    refine Rg.assign rfl rfl ?_
    refine Rg.assign rfl rfl ?_
    refine Rg.nil ?_
    refine T.seq ?_
    refine T.region ?_ -- region 10
    refine Rg.move rfl rfl ?_
    refine Rg.lensl Try.underlying28 rfl hg rfl ?_
    refine Rg.move rfl rfl ?_
    refine Rg.isub rfl rfl rfl (by omega) ?_
    refine Rg.move rfl rfl ?_
    refine Rg.call rfl rfl E34 (Read5_spec (M := M) hM5 hb (by omega) (by omega)) (fun r w6 h => ?_)
    obtain ⟨s6, h⟩ := h
    obtain ⟨_, rfl⟩ := h.resolve_left (fun ⟨l, q, hrp, _⟩ => by have h1 := hrp.uniq (m' := (g.length : Int)) ⟨rfl, hgm, rfl⟩ (by omega); have h2 := hrp.1; rw [h1] at h2; omega)
    replace hb := hb.le s6.le
    have hM6 := s6.lt hM5
    refine Rg.move rfl rfl ?_
    refine Rg.extract rfl rfl rfl ?_
    refine Rg.extract rfl rfl rfl ?_
    refine Rg.assign rfl rfl ?_
    refine Rg.assign rfl rfl ?_
    refine Rg.nil ?_
    refine T.seq ?_
    refine T.region ?_ -- region 11
    refine Rg.move rfl rfl ?_
    refine Rg.ptreq Try.underlying30 rfl rfl rfl ?_
    refine Rg.move rfl rfl ?_
    refine Rg.gtrue (g := 61) rfl (rfl) ?_
    refine Rg.gyes rfl rfl ?_
    refine Rg.move rfl rfl ?_
    refine Rg.gyes rfl rfl ?_
    refine Rg.ieq rfl rfl rfl ?_
    refine Rg.pickt rfl rfl rfl ?_
    refine Rg.move rfl rfl ?_
    refine Rg.gtrue (g := 65) rfl (rfl) ?_
    refine Rg.gyes rfl rfl ?_
    refine Rg.move rfl rfl ?_
    refine Rg.gyes rfl rfl ?_
    refine Rg.ptreq Try.underlying30 rfl rfl rfl ?_
    refine Rg.pickt rfl rfl rfl ?_
    refine Rg.move rfl rfl ?_
    refine Rg.gtrue (g := 69) rfl (rfl) ?_
    refine Rg.gyes rfl rfl ?_
    refine Rg.move rfl rfl ?_
    refine Rg.gyes rfl rfl ?_
    refine Rg.ieq rfl rfl rfl ?_
    refine Rg.pickt rfl rfl rfl ?_
    refine Rg.move rfl rfl ?_
    refine Rg.gtrue (g := 73) rfl (rfl) ?_
    refine Rg.gyes rfl rfl ?_
    refine Rg.call rfl rfl E24 (lives5_spec (M := M) (s6.lt hM5)) (fun rL wL h => ?_)
    obtain ⟨rfl, sL⟩ := h
    refine Rg.pickt rfl rfl rfl ?_
    refine Rg.assign rfl rfl ?_
    refine Rg.nil ?_
    refine T.ret ?_
    exact Kret1 rfl rfl ⟨rfl, ((((((s1.trans0 s2).trans0 s3).trans0 s4).trans0 s5).trans0 s6).trans0 sL)⟩
  · -- c6 False
    refine T.skip ?_
    refine T.seq ?_
    refine T.region ?_ -- region 8
    refine Rg.move rfl rfl ?_
    refine Rg.imod rfl rfl rfl (by omega) ?_
    refine Rg.iadd rfl rfl rfl (by omega) ?_
    refine Rg.assign rfl rfl ?_
    refine Rg.nil ?_
    refine T.seq ?_
    refine T.region ?_ -- region 9
    refine Rg.move rfl rfl ?_
    refine Rg.lensl Try.underlying28 rfl hg rfl ?_
    refine Rg.move rfl rfl ?_
    refine Rg.iadd rfl rfl rfl (by omega) ?_
    refine Rg.move rfl rfl ?_
    refine Rg.call rfl rfl E34 (Read5_spec (M := M) hM4 hb (by omega) (by omega)) (fun r w5 h => ?_)
    obtain ⟨s5, h⟩ := h
    obtain ⟨_, rfl⟩ := h.resolve_left (fun ⟨l, q, hrp, _⟩ => by have h1 := hrp.uniq (m' := (g.length : Int)) ⟨rfl, hgm, rfl⟩ (by omega); have h2 := hrp.1; rw [h1] at h2; omega)
    replace hb := hb.le s5.le
    have hM5 := s5.lt hM4
    refine Rg.move rfl rfl ?_
    refine Rg.extract rfl rfl rfl ?_
    refine Rg.extract rfl rfl rfl ?_
    refine Rg.assign rfl rfl ?_
    refine Rg.assign rfl rfl ?_
    refine Rg.nil ?_
    refine T.seq ?_
    refine T.region ?_ -- region 10
    refine Rg.move rfl rfl ?_
    refine Rg.lensl Try.underlying28 rfl hg rfl ?_
    refine Rg.move rfl rfl ?_
    refine Rg.isub rfl rfl rfl (by omega) ?_
    refine Rg.move rfl rfl ?_
    refine Rg.call rfl rfl E34 (Read5_spec (M := M) hM5 hb (by omega) (by omega)) (fun r w6 h => ?_)
    obtain ⟨s6, h⟩ := h
    obtain ⟨_, rfl⟩ := h.resolve_left (fun ⟨l, q, hrp, _⟩ => by have h1 := hrp.uniq (m' := (g.length : Int)) ⟨rfl, hgm, rfl⟩ (by omega); have h2 := hrp.1; rw [h1] at h2; omega)
    replace hb := hb.le s6.le
    have hM6 := s6.lt hM5
    refine Rg.move rfl rfl ?_
    refine Rg.extract rfl rfl rfl ?_
    refine Rg.extract rfl rfl rfl ?_
    refine Rg.assign rfl rfl ?_
    refine Rg.assign rfl rfl ?_
    refine Rg.nil ?_
    refine T.seq ?_
    refine T.region ?_ -- region 11
    refine Rg.move rfl rfl ?_
    refine Rg.ptreq Try.underlying30 rfl rfl rfl ?_
    refine Rg.move rfl rfl ?_
    refine Rg.gtrue (g := 61) rfl (rfl) ?_
    refine Rg.gyes rfl rfl ?_
    refine Rg.move rfl rfl ?_
    refine Rg.gyes rfl rfl ?_
    refine Rg.ieq rfl rfl rfl ?_
    refine Rg.pickt rfl rfl rfl ?_
    refine Rg.move rfl rfl ?_
    refine Rg.gtrue (g := 65) rfl (rfl) ?_
    refine Rg.gyes rfl rfl ?_
    refine Rg.move rfl rfl ?_
    refine Rg.gyes rfl rfl ?_
    refine Rg.ptreq Try.underlying30 rfl rfl rfl ?_
    refine Rg.pickt rfl rfl rfl ?_
    refine Rg.move rfl rfl ?_
    refine Rg.gtrue (g := 69) rfl (rfl) ?_
    refine Rg.gyes rfl rfl ?_
    refine Rg.move rfl rfl ?_
    refine Rg.gyes rfl rfl ?_
    refine Rg.ieq rfl rfl rfl ?_
    refine Rg.pickt rfl rfl rfl ?_
    refine Rg.move rfl rfl ?_
    refine Rg.gtrue (g := 73) rfl (rfl) ?_
    refine Rg.gyes rfl rfl ?_
    refine Rg.call rfl rfl E24 (lives5_spec (M := M) (s6.lt hM5)) (fun rL wL h => ?_)
    obtain ⟨rfl, sL⟩ := h
    refine Rg.pickt rfl rfl rfl ?_
    refine Rg.assign rfl rfl ?_
    refine Rg.nil ?_
    refine T.ret ?_
    exact Kret1 rfl rfl ⟨rfl, ((((((s1.trans0 s2).trans0 s3).trans0 s4).trans0 s5).trans0 s6).trans0 sL)⟩

end Go.K

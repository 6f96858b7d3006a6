/- The walks of Go functions, operation by operation. -/
import Derived.Test.YtbgekgiaoedjiaaKTypes
import Derived.Test.YtbgekgiaoedjiaaKFloat
import Derived.Test.YtbgekgiaoedjiaaKPureM11
import Derived.Test.YtbgekgiaoedjiaaKOrder11
import Derived.Test.YtbgekgiaoedjiaaKPlc11
import Derived.Test.YtbgekgiaoedjiaaKRef11
import Derived.Test.YtbgekgiaoedjiaaProg
import Derived.KernelRfl
namespace Go.K
open Go.Proofs
namespace TKLives11
theorem I30 : TI Try.prog 30 (.agg #[(.int .i64 0), (.int .i64 0)]) 2 16 := by unfold TI; kernel_rfl -- [2]int
theorem E5 : Enters Try.prog 5 := enters Try.func5 rfl (by decide) -- concordance/merge.Order
end TKLives11
open TKLives11
set_option linter.unusedVariables false
set_option linter.unusedSimpArgs false
set_option maxRecDepth 10000

/-- 'concordance/concordancelaw11.lives' -/
theorem lives11_spec {M : PSet} {w0 : World} (hM : Lt M w0) :
    Spec Try.prog 9 #[] w0 (fun v' w' => v' = .bool true ∧ Step M w0 M w' none') := by
  refine spec_of (args := []) (fn := Try.f9) Try.func9 rfl (n := 36) Try.ntmps9 ?_
  refine T.seq ?_
  refine T.region ?_ -- region 0
  refine Rg.assign rfl rfl ?_
  refine Rg.nil ?_
  refine T.seq ?_
  refine T.region ?_ -- region 1
  refine Rg.sln (A := RT.int .i64) (hn := by decide) (M := M) (xs := [1, 4]) Try.underlying23 I3 rfl (by decide) rfl ⟨1, [4], _, rfl, rfl, rfl, V_i64 (by omega), 4, [], _, rfl, rfl, rfl, V_i64 (by omega), rfl⟩ rfl hM (.inr ⟨rfl, rfl⟩) (by decide) (fun u1 w1 hu1 s1 => ?_)
  refine Rg.sl1 (A := RT.int .i64) (hn := by decide) (M := M) Try.underlying23 I3 (by decide) rfl rfl (s1.lt hM) (V_i64 (x := 2) (by decide)) (.inr ⟨rfl, rfl⟩) (fun u2 w2 hu2 s2 => ?_)
  refine Rg.sln (A := ((RT.int .i64).sl)) (hn := by decide) (M := M) (xs := [[1, 4], [2]]) Try.underlying22 I23 rfl (by decide) rfl ⟨_, _, _, rfl, rfl, rfl, hu1.le s2.le, _, _, _, rfl, rfl, rfl, hu2, rfl⟩ rfl (s2.lt (s1.lt hM)) (.inr ⟨rfl, rfl⟩) (by decide) (fun u3 w3 hu3 s3 => ?_)
  have S3 := (s1.trans0 s2).trans0 s3
  refine Rg.call rfl rfl E5 (mOrder_spec (S3.lt hM) hu3 (by decide) (by decide) (by decide)) (fun r4 w4 h => ?_)
  obtain ⟨⟨vo, e, rfl, ho⟩, s4⟩ := h
  have S4 := S3.trans0 s4
  obtain ⟨rfl, hvo⟩ : e = 0 ∧ ((RT.fo).sl).V M w4 (outO [((1 : Int), (0 : Int), (0 : Int)), (2, 1, 0), (4, 0, 1)]) vo := by
    rcases ho with ⟨h, _⟩ | ⟨_, r, h2, h3⟩
    · exact absurd lives_up h
    · obtain rfl := h2.un lives_res
      rcases h3 with ⟨h, _⟩ | ⟨out, h4, h5, h6⟩
      · cases h
      · cases h4; exact ⟨h5, h6⟩
  replace hvo : ((RT.fo).sl).V M w4 [((0 : Int), (0 : Int)), (1, 0), (0, 1)] vo := hvo
  refine Rg.move rfl rfl ?_
  refine Rg.extract rfl rfl rfl ?_
  refine Rg.extract rfl rfl rfl ?_
  refine Rg.assign rfl rfl ?_
  refine Rg.assign rfl rfl ?_
  refine Rg.nil ?_
  refine T.seq ?_
  refine T.seq ?_
  refine T.region ?_ -- region 2
  refine Rg.move rfl rfl ?_
  refine Rg.lensl Try.underlying26 rfl hvo rfl ?_
  refine Rg.ine rfl rfl rfl ?_
  refine Rg.nil ?_
  refine T.iffp rfl ((fun h => h rfl)) ?_
  refine T.skip ?_
  refine T.seq ?_
  refine T.region ?_ -- region 4
  refine Rg.move rfl rfl ?_

  refine Rg.idx (M := M) Try.underlying26 I30 rfl rfl rfl (hvo) (Le.refl _ _) (by first | omega | decide) (fun u4_1 a4_1 hg4_1 hu4_1 => ?_)
  obtain rfl : (0, 0) = a4_1 := Eq.symm (Option.some.inj (hg4_1.symm.trans rfl))
  refine Rg.loadagg (M := M) (A := RT.fo) Try.underlying30 rfl I30 (by decide) rfl rfl rfl (by assumption) (Le.refl _ _) (fun va hva => ?_)
  obtain ⟨rfl, _, _⟩ := fo_val2 hva
  refine Rg.arr2 Try.underlying30 I30 I3 rfl rfl rfl ?_
  refine Rg.arreqT Try.underlying30 Try.underlying3 I3 (by kernel_rfl) (by kernel_rfl) rfl rfl rfl ?_
  refine Rg.move rfl rfl ?_
  refine Rg.gtrue (g := 18) rfl (rfl) ?_
  refine Rg.gyes rfl rfl ?_
  refine Rg.move rfl rfl ?_
  refine Rg.gyes rfl rfl ?_

  refine Rg.idx (M := M) Try.underlying26 I30 rfl rfl rfl (hvo) (Le.refl _ _) (by first | omega | decide) (fun u4_7 a4_7 hg4_7 hu4_7 => ?_)
  obtain rfl : (1, 0) = a4_7 := Eq.symm (Option.some.inj (hg4_7.symm.trans rfl))
  refine Rg.gyes rfl rfl ?_
  refine Rg.loadagg (M := M) (A := RT.fo) Try.underlying30 rfl I30 (by decide) rfl rfl rfl (by assumption) (Le.refl _ _) (fun va hva => ?_)
  obtain ⟨rfl, _, _⟩ := fo_val2 hva
  refine Rg.gyes rfl rfl ?_
  refine Rg.arr2 Try.underlying30 I30 I3 rfl rfl rfl ?_
  refine Rg.gyes rfl rfl ?_
  refine Rg.arreqT Try.underlying30 Try.underlying3 I3 (by kernel_rfl) (by kernel_rfl) rfl rfl rfl ?_
  refine Rg.pickt rfl rfl rfl ?_
  refine Rg.move rfl rfl ?_
  refine Rg.gtrue (g := 25) rfl (rfl) ?_
  refine Rg.gyes rfl rfl ?_
  refine Rg.move rfl rfl ?_
  refine Rg.gyes rfl rfl ?_

  refine Rg.idx (M := M) Try.underlying26 I30 rfl rfl rfl (hvo) (Le.refl _ _) (by first | omega | decide) (fun u4_14 a4_14 hg4_14 hu4_14 => ?_)
  obtain rfl : (0, 1) = a4_14 := Eq.symm (Option.some.inj (hg4_14.symm.trans rfl))
  refine Rg.gyes rfl rfl ?_
  refine Rg.loadagg (M := M) (A := RT.fo) Try.underlying30 rfl I30 (by decide) rfl rfl rfl (by assumption) (Le.refl _ _) (fun va hva => ?_)
  obtain ⟨rfl, _, _⟩ := fo_val2 hva
  refine Rg.gyes rfl rfl ?_
  refine Rg.arr2 Try.underlying30 I30 I3 rfl rfl rfl ?_
  refine Rg.gyes rfl rfl ?_
  refine Rg.arreqT Try.underlying30 Try.underlying3 I3 (by kernel_rfl) (by kernel_rfl) rfl rfl rfl ?_
  refine Rg.pickt rfl rfl rfl ?_
  refine Rg.move rfl rfl ?_
  refine Rg.gtrue (g := 32) rfl (rfl) ?_
  refine Rg.gyes rfl rfl ?_
  refine Rg.move rfl rfl ?_
  refine Rg.gyes rfl rfl ?_
  refine Rg.ieq rfl rfl rfl ?_
  refine Rg.pickt rfl rfl rfl ?_
  refine Rg.assign rfl rfl ?_
  refine Rg.nil ?_
  refine T.ret ?_
  exact Kret1 rfl rfl ⟨rfl, S4⟩

end Go.K

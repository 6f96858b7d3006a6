/- The walks of Go functions, operation by operation. -/
import Derived.Test.YtohfoenhmkfjkaaGreatDoorKSnap16
import Derived.Test.YtohfoenhmkfjkaaGreatDoorKTypes
import Derived.Test.YtohfoenhmkfjkaaGreatDoorProg
import Derived.KernelRfl
namespace Go.K
open Go.Proofs
namespace TKLives16
theorem E14 : Enters Tryz.prog 14 := enters Tryz.func14 rfl (by decide) -- concordance/snap.New
theorem E15 : Enters Tryz.prog 15 := enters Tryz.func15 rfl (by decide) -- concordance/segment.Build
theorem E16 : Enters Tryz.prog 16 := enters Tryz.func16 rfl (by decide) -- (*concordance/snap.Store).Put
theorem E17 : Enters Tryz.prog 17 := enters Tryz.func17 rfl (by decide) -- (*concordance/snap.Store).Drop
theorem E19 : Enters Tryz.prog 19 := enters Tryz.func19 rfl (by decide) -- (*concordance/snap.Store).Freed
theorem E64 : Enters Tryz.prog 64 := enters Tryz.func64 rfl (by decide) -- (*concordance/snap.Store).Hold
end TKLives16
open TKLives16
set_option linter.unusedVariables false
set_option linter.unusedSimpArgs false
set_option maxRecDepth 10000

/-- 'concordance/concordancelaw16.lives' -/
theorem lives_spec (w0 : World) :
    Spec Tryz.prog 20 #[] w0 (fun v w => v = .bool true ∧ Step allM w0 allM w none') := by
  refine spec_of (args := []) (fn := Tryz.f20) Tryz.func20 rfl (n := 66) Tryz.ntmps20 ?_
  have S : Step allM w0 allM w0 none' := (Step.refl _ _).widen (fun _ h => h.elim) (fun _ _ => trivial)
  refine T.seq ?_
  refine T.region ?_ -- region 0
  refine Rg.assign rfl rfl ?_
  refine Rg.nil ?_
  refine T.seq ?_
  refine T.region ?_ -- region 1
  refine Rg.call rfl rfl E15 (build_nil _) (fun r w1 hc => ?_)
  obtain ⟨b1, rfl, s1⟩ := hc --@step s1
  have := S.size
  replace S := S.trans0 s1
  refine Rg.move rfl rfl ?_
  refine Rg.extract rfl rfl rfl ?_
  refine Rg.extract rfl rfl rfl ?_
  refine Rg.assign rfl rfl ?_
  refine Rg.assign rfl rfl ?_
  refine Rg.nil ?_
  refine T.seq ?_
  refine T.region ?_ -- region 2
  refine Rg.call rfl rfl E14 (new_spec _) (fun r w2 hc => ?_)
  obtain ⟨sb, mb, rfl, hs, s2⟩ := hc 
  have hB := S.size --@step s2
  have := S.size
  replace S := S.trans0 s2
  refine Rg.assign rfl rfl ?_
  refine Rg.nil ?_
  refine T.seq ?_
  refine T.seq ?_
  refine T.region ?_ -- region 3
  refine Rg.move rfl rfl ?_
  refine Rg.ptreq Tryz.underlying25 rfl rfl rfl ?_
  refine Rg.move rfl rfl ?_
  refine Rg.gfalse (g := 17) rfl ((by simp)) ?_
  refine Rg.gyes rfl rfl ?_
  refine Rg.move rfl rfl ?_
  refine Rg.gyes rfl rfl ?_
  refine Rg.ptreq Tryz.underlying23 rfl rfl rfl ?_
  refine Rg.pickf rfl rfl rfl ?_
  refine Rg.nil ?_
  refine T.iffp rfl ((by simp)) ?_
  refine T.skip ?_
  refine T.seq ?_
  refine T.region ?_ -- region 5
  refine Rg.move rfl rfl ?_
  refine Rg.move rfl rfl ?_
  refine Rg.call rfl rfl E16 (put_spec _ hs (by omega)) (fun r5 w5 hc => ?_)
  obtain ⟨hb, rfl, hs5, h5, _, s5⟩ := hc 
  replace S := S.trans s5 (fun b hb (h : _ ≤ _) => by omega)
  refine Rg.assign rfl rfl ?_
  refine Rg.nil ?_
  refine T.seq ?_
  refine T.region ?_ -- region 6
  refine Rg.move rfl rfl ?_
  refine Rg.move rfl rfl ?_
  refine Rg.call rfl rfl E64 (hold_spec _ hs5 ((insI_mem _ _ _).2 (.inl rfl)) h5 (by omega)) (fun r6 w6 hc => ?_)
  obtain ⟨rfl, hs6, h6, s6⟩ := hc 
  replace S := S.trans s6 (fun b hb (h : _ ≤ _) => by omega)
  refine Rg.assign rfl rfl ?_
  refine Rg.nil ?_
  refine T.seq ?_
  refine T.region ?_ -- region 7
  refine Rg.move rfl rfl ?_
  refine Rg.move rfl rfl ?_
  refine Rg.call rfl rfl E17 (drop_more _ hs6 ((insI_mem _ _ _).2 (.inl rfl)) h6 (by omega) (by omega)) (fun r7 w7 hc => ?_)
  obtain ⟨rfl, hs7, h7, s7⟩ := hc 
  replace S := S.trans s7 (fun b hb (h : _ ≤ _) => by omega)
  refine Rg.move rfl rfl ?_
  refine Rg.extract rfl rfl rfl ?_
  refine Rg.extract rfl rfl rfl ?_
  refine Rg.assign rfl rfl ?_
  refine Rg.assign rfl rfl ?_
  refine Rg.nil ?_
  refine T.seq ?_
  refine T.region ?_ -- region 8
  refine Rg.move rfl rfl ?_
  refine Rg.move rfl rfl ?_
  refine Rg.call rfl rfl E17 (drop_last _ hs7 ((insI_mem _ _ _).2 (.inl rfl)) h7 (by omega) (by omega)) (fun r8 w8 hc => ?_)
  obtain ⟨rfl, ⟨u8, hs8⟩, s8⟩ := hc 
  replace S := S.trans s8 (fun b hb (h : _ ≤ _) => by omega)
  refine Rg.move rfl rfl ?_
  refine Rg.extract rfl rfl rfl ?_
  refine Rg.extract rfl rfl rfl ?_
  refine Rg.assign rfl rfl ?_
  refine Rg.assign rfl rfl ?_
  refine Rg.nil ?_
  refine T.seq ?_
  refine T.region ?_ -- region 9
  refine Rg.move rfl rfl ?_
  refine Rg.ieq rfl rfl rfl ?_
  refine Rg.move rfl rfl ?_
  refine Rg.gtrue (g := 41) rfl ((by decide)) ?_
  refine Rg.gyes rfl rfl ?_
  refine Rg.move rfl rfl ?_
  refine Rg.gyes rfl rfl ?_
  refine Rg.ieq rfl rfl rfl ?_
  refine Rg.pickt rfl rfl rfl ?_
  refine Rg.move rfl rfl ?_
  refine Rg.gtrue (g := 45) rfl ((by decide)) ?_
  refine Rg.gyes rfl rfl ?_
  refine Rg.move rfl rfl ?_
  refine Rg.gyes rfl rfl ?_
  refine Rg.not rfl rfl ?_
  refine Rg.eqv (v' := .bool true) rfl ?_ --@bool true
  refine Rg.pickt rfl rfl rfl ?_
  refine Rg.move rfl rfl ?_
  refine Rg.gyes rfl rfl ?_
  refine Rg.move rfl rfl ?_
  refine Rg.gyes rfl rfl ?_
  refine Rg.ieq rfl rfl rfl ?_
  refine Rg.pickt rfl rfl rfl ?_
  refine Rg.move rfl rfl ?_
  refine Rg.gtrue (g := 53) rfl ((by decide)) ?_
  refine Rg.gyes rfl rfl ?_
  refine Rg.move rfl rfl ?_
  refine Rg.eqv (v' := .bool true) rfl ?_ --@bool true
  refine Rg.pickt rfl rfl rfl ?_
  refine Rg.move rfl rfl ?_
  refine Rg.gyes rfl rfl ?_
  refine Rg.move rfl rfl ?_
  refine Rg.gyes rfl rfl ?_
  refine Rg.ieq rfl rfl rfl ?_
  refine Rg.pickt rfl rfl rfl ?_
  refine Rg.move rfl rfl ?_
  refine Rg.gtrue (g := 60) rfl ((by decide)) ?_
  refine Rg.gyes rfl rfl ?_
  refine Rg.move rfl rfl ?_
  refine Rg.gyes rfl rfl ?_
  refine Rg.call rfl rfl E19 (freed_spec _ hs8) (fun r9 w9 hc => ?_)
  obtain ⟨⟨a9, c9, rfl⟩, s9⟩ := hc --@step s9
  have := S.size
  replace S := S.trans0 s9
  refine Rg.gyes rfl rfl ?_
  refine Rg.lenraw Tryz.underlying32 rfl rfl ?_
  refine Rg.gyes rfl rfl ?_
  refine Rg.ieq rfl rfl rfl ?_
  refine Rg.pickt rfl rfl rfl ?_
  refine Rg.assign rfl rfl ?_
  refine Rg.nil ?_
  refine T.ret ?_
  exact Kret1 rfl rfl ⟨by simp, S⟩

end Go.K

/- The walks of Go functions, operation by operation. -/
import Derived.Test.YtgpmihcdjmjfoaaKTypes
import Derived.Test.YtgpmihcdjmjfoaaKNum
import Derived.Test.YtgpmihcdjmjfoaaKPost
import Derived.Test.YtgpmihcdjmjfoaaKPtr
import Derived.Test.YtgpmihcdjmjfoaaKCur
import Derived.Test.YtgpmihcdjmjfoaaKCur2
import Derived.Test.YtgpmihcdjmjfoaaKDraw
import Derived.Test.YtgpmihcdjmjfoaaKPosting
import Derived.Test.YtgpmihcdjmjfoaaKMake2
import Derived.Test.YtgpmihcdjmjfoaaKCursor
import Derived.Test.YtgpmihcdjmjfoaaKAdv
import Derived.Test.YtgpmihcdjmjfoaaKBoth
import Derived.Test.YtgpmihcdjmjfoaaKRef04
import Derived.Test.YtgpmihcdjmjfoaaKLives6
import Derived.Test.YtgpmihcdjmjfoaaProg
import Derived.KernelRfl
namespace Go.K
open Go.Proofs
namespace TKLaw06
theorem E18 : Enters Try.prog 18 := enters Try.func18 rfl (by decide) -- concordance/concordanceref05.Good
theorem E19 : Enters Try.prog 19 := enters Try.func19 rfl (by decide) -- concordance/posting.Make
theorem E23 : Enters Try.prog 23 := enters Try.func23 rfl (by decide) -- concordance/concordanceref01.Same
theorem E30 : Enters Try.prog 30 := enters Try.func30 rfl (by decide) -- concordance/cursor.New
theorem E31 : Enters Try.prog 31 := enters Try.func31 rfl (by decide) -- concordance/cursor.Both
theorem E32 : Enters Try.prog 32 := enters Try.func32 rfl (by decide) -- concordance/concordanceref06.Both
theorem E33 : Enters Try.prog 33 := enters Try.func33 rfl (by decide) -- concordance/concordancelaw06.lives
theorem E37 : Enters Try.prog 37 := enters Try.func37 rfl (by decide) -- (*concordance/cursor.Cursor).Doc
theorem E38 : Enters Try.prog 38 := enters Try.func38 rfl (by decide) -- (*concordance/cursor.Cursor).Next
theorem E39 : Enters Try.prog 39 := enters Try.func39 rfl (by decide) -- (*concordance/cursor.Cursor).Advance
theorem E40 : Enters Try.prog 40 := enters Try.func40 rfl (by decide) -- (*concordance/cursor.Cursor).Places
end TKLaw06
open TKLaw06
set_option linter.unusedVariables false
set_option linter.unusedSimpArgs false
set_option maxRecDepth 10000

/-- 'concordance/concordancelaw06.CursorBoth' -/
theorem CursorBoth_spec {M : PSet} {w0 : World} {v u : Value} {a b : List Po} (hM : Lt M w0) (hv : ((RT.po).sl).V M w0 a v) (hu : ((RT.po).sl).V M w0 b u) :
    Spec Try.prog 7 #[v, u] w0 (fun v' w' => v' = .bool true ∧ Step M w0 M w' none') := by
  refine spec_of (args := [v, u]) (fn := Try.f7) Try.func7 rfl (n := 47) Try.ntmps7 ?_
  refine T.seq ?_
  refine T.region ?_ -- region 0
  refine Rg.assign rfl rfl ?_
  refine Rg.nil ?_
  refine T.seq ?_
  refine T.region ?_ -- region 1
  refine Rg.move rfl rfl ?_
  refine Rg.call rfl rfl E18 (Good_ok (M := M) (n := 40) hM hv (by decide)) (fun ug w1 h => ?_)
  obtain ⟨s1, g, og, ogl, ogs, ogV⟩ := h
  have hM1 := s1.lt hM
  refine Rg.assign rfl rfl ?_
  refine Rg.nil ?_
  refine T.seq ?_
  refine T.region ?_ -- region 2
  refine Rg.move rfl rfl ?_
  refine Rg.call rfl rfl E18 (Good_ok (M := M) (n := 40) hM1 (hu.le s1.le) (by decide)) (fun uh w2 h => ?_)
  obtain ⟨s2, h, oh, ohl, ohs, ohV⟩ := h
  have hM2 := s2.lt hM1
  refine Rg.assign rfl rfl ?_
  refine Rg.nil ?_
  refine T.seq ?_
  refine T.region ?_ -- region 3
  refine Rg.move rfl rfl ?_
  refine Rg.call rfl rfl E19 (Make_ok (M := M) hM2 (ogV.le s2.le) og) (fun r w3 h => ?_)
  obtain ⟨s3, q, rfl, hp⟩ := h
  have hM3 := s3.lt hM2
  refine Rg.move rfl rfl ?_
  refine Rg.extract rfl rfl rfl ?_
  refine Rg.extract rfl rfl rfl ?_
  refine Rg.assign rfl rfl ?_
  refine Rg.assign rfl rfl ?_
  refine Rg.nil ?_
  refine T.seq ?_
  refine T.region ?_ -- region 4
  refine Rg.move rfl rfl ?_
  refine Rg.call rfl rfl E19 (Make_ok (M := M) hM3 (ohV.le s3.le) oh) (fun r w4 h => ?_)
  obtain ⟨s4, q2, rfl, hp2⟩ := h
  have hM4 := s4.lt hM3
  have S4 := ((s1.trans0 s2).trans0 s3).trans0 s4
  have z4 := S4.size
  refine Rg.move rfl rfl ?_
  refine Rg.extract rfl rfl rfl ?_
  refine Rg.extract rfl rfl rfl ?_
  refine Rg.assign rfl rfl ?_
  refine Rg.assign rfl rfl ?_
  refine Rg.nil ?_
  refine T.seq ?_
  refine T.region ?_ -- region 5
  refine Rg.move rfl rfl ?_
  refine Rg.call rfl rfl E30 (New6_spec (M := M) (hp.le (by decide) s4.le)) (fun r w5 h => ?_)
  obtain ⟨bc, rfl, hz, s5, hC⟩ := h
  have hM5 := s5.lt hM4
  have S5 := S4.trans0 s5
  refine Rg.assign rfl rfl ?_
  refine Rg.nil ?_
  refine T.seq ?_
  refine T.region ?_ -- region 6
  refine Rg.move rfl rfl ?_
  refine Rg.call rfl rfl E30 (New6_spec (M := (ins M bc)) ((hp2.le (by decide) s5.le))) (fun r w6 h => ?_)
  obtain ⟨bd, rfl, hz2, s6, hD⟩ := h
  have hM6 := s6.lt hM5
  have S6 := S5.trans0 s6
  have hC6 := hC.step s6 (fun h => h)
  have hlc := hC.lt
  have z5 := s5.size
  generalize ins (ins M bc) bd = M1 at hM6 S6 s6 hC6 hD
  refine Rg.assign rfl rfl ?_
  refine Rg.nil ?_
  refine T.seq ?_
  refine T.seq ?_
  refine T.region ?_ -- region 7
  refine Rg.move rfl rfl ?_
  refine Rg.ptreqnil (v := .pointer (some ⟨bc, 0, none⟩)) Try.underlying43 rfl ⟨_, rfl⟩ rfl rfl ?_
  refine Rg.eqv (v' := .bool (decide False)) rfl ?_
  refine Rg.move rfl rfl ?_
  refine Rg.gfalse (g := 33) rfl ((fun h => h)) ?_
  refine Rg.gyes rfl rfl ?_
  refine Rg.move rfl rfl ?_
  refine Rg.gyes rfl rfl ?_
  refine Rg.ptreqnil (v := .pointer (some ⟨bd, 0, none⟩)) Try.underlying43 rfl ⟨_, rfl⟩ rfl rfl ?_
  refine Rg.eqv (v' := .bool (decide False)) rfl ?_
  refine Rg.pickf rfl rfl rfl ?_
  refine Rg.nil ?_
  refine T.iffp rfl ((fun h => h)) ?_
  refine T.skip ?_
  refine T.seq ?_
  refine T.region ?_ -- region 9
  refine Rg.move rfl rfl ?_
  refine Rg.move rfl rfl ?_
  refine Rg.call rfl rfl E31 (Both6_spec hM6 hC6 hD (by omega) og oh) (fun u7 w7 h => ?_)
  obtain ⟨h7, s7⟩ := h
  have hM7 := s7.lt hM6
  have S7 := S6.transNew s7 (fun b hb => by omega)
  have e7 := ((s2.trans0 s3).trans0 s4).trans0 ((s5.trans0 s6).trans0 (Step.refl _ _))
  have og7 := (ogV.le e7.le).le s7.le
  have oh7 := (ohV.le (((s3.trans0 s4).trans0 s5).trans0 s6).le).le s7.le
  refine Rg.move rfl rfl ?_
  refine Rg.move rfl rfl ?_
  refine Rg.call rfl rfl E32 (rBoth6_spec hM7 og7 oh7 og oh) (fun u8 w8 h => ?_)
  obtain ⟨h8, s8⟩ := h
  refine Rg.call rfl rfl E23 (Same_spec (s8.lt hM7) (h7.le s8.le) h8) (fun r9 w9 h => ?_)
  obtain ⟨rfl, s9⟩ := h
  refine Rg.eqv (v' := .bool (decide True)) (by simp) ?_
  refine Rg.move rfl rfl ?_
  refine Rg.gtrue (g := 44) rfl (trivial) ?_
  refine Rg.gyes rfl rfl ?_
  refine Rg.call rfl rfl E33 (lives6_spec (M := M) (((S7.trans0 s8).trans0 s9).back.lt hM)) (fun rL wL h => ?_)
  obtain ⟨rfl, sL⟩ := h
  refine Rg.pickt rfl rfl rfl ?_
  refine Rg.assign rfl rfl ?_
  refine Rg.nil ?_
  refine T.ret ?_
  exact Kret1 rfl rfl ⟨rfl, ((S7.trans0 s8).trans0 s9).back.trans0 sL⟩

/-- 'concordance/concordancelaw06.CursorAlike' -/
theorem CursorAlike_spec {M : PSet} {w0 : World} {v u : Value} {a b : List Po} (hM : Lt M w0) (hv : ((RT.po).sl).V M w0 a v) (hu : ((RT.po).sl).V M w0 b u) :
    Spec Try.prog 8 #[v, u] w0 (fun v' w' => v' = .bool true ∧ Step M w0 M w' none') := by
  refine spec_of (args := [v, u]) (fn := Try.f8) Try.func8 rfl (n := 84) Try.ntmps8 ?_
  refine T.seq ?_
  refine T.region ?_ -- region 0
  refine Rg.assign rfl rfl ?_
  refine Rg.nil ?_
  refine T.seq ?_
  refine T.region ?_ -- region 1
  refine Rg.move rfl rfl ?_
  refine Rg.call rfl rfl E18 (Good_ok (M := M) (n := 40) hM hv (by decide)) (fun ug w1 h => ?_)
  obtain ⟨s1, g, og, ogl, ogs, ogV⟩ := h
  have hM1 := s1.lt hM
  refine Rg.assign rfl rfl ?_
  refine Rg.nil ?_
  refine T.seq ?_
  refine T.region ?_ -- region 2
  refine Rg.move rfl rfl ?_
  refine Rg.call rfl rfl E18 (Good_ok (M := M) (n := 40) hM1 (hu.le s1.le) (by decide)) (fun uh w2 h => ?_)
  obtain ⟨s2, h, oh, ohl, ohs, ohV⟩ := h
  have hM2 := s2.lt hM1
  refine Rg.assign rfl rfl ?_
  refine Rg.nil ?_
  refine T.seq ?_
  refine T.region ?_ -- region 3
  refine Rg.move rfl rfl ?_
  refine Rg.call rfl rfl E19 (Make_ok (M := M) hM2 (ogV.le s2.le) og) (fun r w3 h => ?_)
  obtain ⟨s3, q, rfl, hp⟩ := h
  have hM3 := s3.lt hM2
  refine Rg.move rfl rfl ?_
  refine Rg.extract rfl rfl rfl ?_
  refine Rg.extract rfl rfl rfl ?_
  refine Rg.assign rfl rfl ?_
  refine Rg.assign rfl rfl ?_
  refine Rg.nil ?_
  refine T.seq ?_
  refine T.region ?_ -- region 4
  refine Rg.move rfl rfl ?_
  refine Rg.call rfl rfl E19 (Make_ok (M := M) hM3 (ohV.le s3.le) oh) (fun r w4 h => ?_)
  obtain ⟨s4, q2, rfl, hp2⟩ := h
  have hM4 := s4.lt hM3
  have S4 := ((s1.trans0 s2).trans0 s3).trans0 s4
  have z4 := S4.size
  replace hp := hp.le (by decide) s4.le
  obtain ⟨M4, hM4e⟩ : ∃ M4, M4 = M := ⟨_, rfl⟩
  rw [← hM4e] at hp hp2
  refine Rg.move rfl rfl ?_
  refine Rg.extract rfl rfl rfl ?_
  refine Rg.extract rfl rfl rfl ?_
  refine Rg.assign rfl rfl ?_
  refine Rg.assign rfl rfl ?_
  refine Rg.nil ?_
  refine T.seq ?_
  refine T.region ?_ -- region 5
  refine Rg.move rfl rfl ?_
  have hM4' : Lt M4 w4 := by rw [hM4e]; exact hM4
  have S4' : Step M w0 M4 w4 none' := by rw [hM4e]; exact S4
  refine Rg.call rfl rfl E30 (New6_spec (M := M4) (hp)) (fun r w5 h => ?_)
  obtain ⟨b1, rfl, z_5, s5, hb1⟩ := h
  have hM5 := s5.lt hM4'
  have S5 := S4'.trans0 s5
  replace hp := hp.le (by decide) s5.le
  replace hp2 := hp2.le (by decide) s5.le
  have y5 := hb1.lt
  have x5 := S5.size
  generalize ins M4 b1 = M5 at hM5 S5 s5 hp hp2 hb1
  refine Rg.assign rfl rfl ?_
  refine Rg.nil ?_
  refine T.seq ?_
  refine T.region ?_ -- region 6
  refine Rg.move rfl rfl ?_
  refine Rg.call rfl rfl E30 (New6_spec (M := M5) (hp2)) (fun r w6 h => ?_)
  obtain ⟨b2, rfl, z_6, s6, hb2⟩ := h
  have hM6 := s6.lt hM5
  have S6 := S5.trans0 s6
  replace hp := hp.le (by decide) s6.le
  replace hp2 := hp2.le (by decide) s6.le
  replace hb1 := hb1.step s6 (fun h => h)
  have y6 := hb2.lt
  have x6 := S6.size
  generalize ins M5 b2 = M6 at hM6 S6 s6 hp hp2 hb1 hb2
  refine Rg.assign rfl rfl ?_
  refine Rg.nil ?_
  refine T.seq ?_
  refine T.region ?_ -- region 7
  refine Rg.move rfl rfl ?_
  refine Rg.call rfl rfl E30 (New6_spec (M := M6) (hp2)) (fun r w7 h => ?_)
  obtain ⟨b3, rfl, z_7, s7, hb3⟩ := h
  have hM7 := s7.lt hM6
  have S7 := S6.trans0 s7
  replace hp := hp.le (by decide) s7.le
  replace hp2 := hp2.le (by decide) s7.le
  replace hb1 := hb1.step s7 (fun h => h)
  replace hb2 := hb2.step s7 (fun h => h)
  have y7 := hb3.lt
  have x7 := S7.size
  generalize ins M6 b3 = M7 at hM7 S7 s7 hp hp2 hb1 hb2 hb3
  refine Rg.assign rfl rfl ?_
  refine Rg.nil ?_
  refine T.seq ?_
  refine T.region ?_ -- region 8
  refine Rg.move rfl rfl ?_
  refine Rg.call rfl rfl E30 (New6_spec (M := M7) (hp)) (fun r w8 h => ?_)
  obtain ⟨b4, rfl, z_8, s8, hb4⟩ := h
  have hM8 := s8.lt hM7
  have S8 := S7.trans0 s8
  replace hp := hp.le (by decide) s8.le
  replace hp2 := hp2.le (by decide) s8.le
  replace hb1 := hb1.step s8 (fun h => h)
  replace hb2 := hb2.step s8 (fun h => h)
  replace hb3 := hb3.step s8 (fun h => h)
  have y8 := hb4.lt
  have x8 := S8.size
  generalize ins M7 b4 = M8 at hM8 S8 s8 hp hp2 hb1 hb2 hb3 hb4
  refine Rg.assign rfl rfl ?_
  refine Rg.nil ?_
  refine T.seq ?_
  refine T.region ?_ -- region 9
  refine Rg.move rfl rfl ?_
  refine Rg.call rfl rfl E30 (New6_spec (M := M8) (hp)) (fun r w9 h => ?_)
  obtain ⟨b5, rfl, z_9, s9, hb5⟩ := h
  have hM9 := s9.lt hM8
  have S9 := S8.trans0 s9
  replace hp := hp.le (by decide) s9.le
  replace hp2 := hp2.le (by decide) s9.le
  replace hb1 := hb1.step s9 (fun h => h)
  replace hb2 := hb2.step s9 (fun h => h)
  replace hb3 := hb3.step s9 (fun h => h)
  replace hb4 := hb4.step s9 (fun h => h)
  have y9 := hb5.lt
  have x9 := S9.size
  generalize ins M8 b5 = M9 at hM9 S9 s9 hp hp2 hb1 hb2 hb3 hb4 hb5
  refine Rg.assign rfl rfl ?_
  refine Rg.nil ?_
  refine T.seq ?_
  refine T.region ?_ -- region 10
  refine Rg.move rfl rfl ?_
  refine Rg.call rfl rfl E30 (New6_spec (M := M9) (hp)) (fun r w10 h => ?_)
  obtain ⟨b6, rfl, z_10, s10, hb6⟩ := h
  have hM10 := s10.lt hM9
  have S10 := S9.trans0 s10
  replace hp := hp.le (by decide) s10.le
  replace hp2 := hp2.le (by decide) s10.le
  replace hb1 := hb1.step s10 (fun h => h)
  replace hb2 := hb2.step s10 (fun h => h)
  replace hb3 := hb3.step s10 (fun h => h)
  replace hb4 := hb4.step s10 (fun h => h)
  replace hb5 := hb5.step s10 (fun h => h)
  have y10 := hb6.lt
  have x10 := S10.size
  generalize ins M9 b6 = M10 at hM10 S10 s10 hp hp2 hb1 hb2 hb3 hb4 hb5 hb6
  refine Rg.assign rfl rfl ?_
  refine Rg.nil ?_
  refine T.seq ?_
  refine T.seq ?_
  refine T.region ?_ -- region 11
  refine Rg.move rfl rfl ?_
  refine Rg.ptreqnil (v := .pointer (some ⟨b1, 0, none⟩)) Try.underlying43 rfl ⟨_, rfl⟩ rfl rfl ?_
  refine Rg.eqv (v' := .bool (decide False)) rfl ?_
  refine Rg.move rfl rfl ?_
  refine Rg.gfalse (g := 45) rfl ((fun h => h)) ?_
  refine Rg.gyes rfl rfl ?_
  refine Rg.move rfl rfl ?_
  refine Rg.gyes rfl rfl ?_
  refine Rg.ptreqnil (v := .pointer (some ⟨b2, 0, none⟩)) Try.underlying43 rfl ⟨_, rfl⟩ rfl rfl ?_
  refine Rg.eqv (v' := .bool (decide False)) rfl ?_
  refine Rg.pickf rfl rfl rfl ?_
  refine Rg.move rfl rfl ?_
  refine Rg.gfalse (g := 49) rfl ((fun h => h)) ?_
  refine Rg.gyes rfl rfl ?_
  refine Rg.move rfl rfl ?_
  refine Rg.gyes rfl rfl ?_
  refine Rg.ptreqnil (v := .pointer (some ⟨b3, 0, none⟩)) Try.underlying43 rfl ⟨_, rfl⟩ rfl rfl ?_
  refine Rg.eqv (v' := .bool (decide False)) rfl ?_
  refine Rg.pickf rfl rfl rfl ?_
  refine Rg.move rfl rfl ?_
  refine Rg.gfalse (g := 53) rfl ((fun h => h)) ?_
  refine Rg.gyes rfl rfl ?_
  refine Rg.move rfl rfl ?_
  refine Rg.gyes rfl rfl ?_
  refine Rg.ptreqnil (v := .pointer (some ⟨b4, 0, none⟩)) Try.underlying43 rfl ⟨_, rfl⟩ rfl rfl ?_
  refine Rg.eqv (v' := .bool (decide False)) rfl ?_
  refine Rg.pickf rfl rfl rfl ?_
  refine Rg.move rfl rfl ?_
  refine Rg.gfalse (g := 57) rfl ((fun h => h)) ?_
  refine Rg.gyes rfl rfl ?_
  refine Rg.move rfl rfl ?_
  refine Rg.gyes rfl rfl ?_
  refine Rg.ptreqnil (v := .pointer (some ⟨b5, 0, none⟩)) Try.underlying43 rfl ⟨_, rfl⟩ rfl rfl ?_
  refine Rg.eqv (v' := .bool (decide False)) rfl ?_
  refine Rg.pickf rfl rfl rfl ?_
  refine Rg.move rfl rfl ?_
  refine Rg.gfalse (g := 61) rfl ((fun h => h)) ?_
  refine Rg.gyes rfl rfl ?_
  refine Rg.move rfl rfl ?_
  refine Rg.gyes rfl rfl ?_
  refine Rg.ptreqnil (v := .pointer (some ⟨b6, 0, none⟩)) Try.underlying43 rfl ⟨_, rfl⟩ rfl rfl ?_
  refine Rg.eqv (v' := .bool (decide False)) rfl ?_
  refine Rg.pickf rfl rfl rfl ?_
  refine Rg.nil ?_
  refine T.iffp rfl ((fun h => h)) ?_
  refine T.skip ?_
  refine T.seq ?_
  refine T.region ?_ -- region 13
  refine Rg.move rfl rfl ?_
  refine Rg.move rfl rfl ?_
  refine Rg.call rfl rfl E31 (Both6_spec hM10 hb1 hb2 (by omega) og oh) (fun u11 w11 h => ?_)
  obtain ⟨h11, s11⟩ := h
  have hM11 := s11.lt hM10
  have S11 := S10.transNew s11 (fun b hb => by omega)
  replace hb3 := hb3.step s11 (by omega)
  replace hb4 := hb4.step s11 (by omega)
  replace hb5 := hb5.step s11 (by omega)
  replace hb6 := hb6.step s11 (by omega)
  refine Rg.move rfl rfl ?_
  refine Rg.move rfl rfl ?_
  refine Rg.call rfl rfl E31 (Both6_spec hM11 hb3 hb4 (by omega) oh og) (fun u12 w12 h => ?_)
  obtain ⟨h12, s12⟩ := h
  have hM12 := s12.lt hM11
  have S12 := S11.transNew s12 (fun b hb => by omega)
  replace hb5 := hb5.step s12 (by omega)
  replace hb6 := hb6.step s12 (by omega)
  rw [comm_sym oh.may og.may] at h12
  refine Rg.call rfl rfl E23 (Same_spec hM12 (h11.le s12.le) h12) (fun r13 w13 h => ?_)
  obtain ⟨rfl, s13⟩ := h
  refine Rg.eqv (v' := .bool (decide True)) (by simp) ?_
  have hM13 := s13.lt hM12
  have S13 := S12.trans0 s13
  replace hb5 := hb5.step s13 (fun h => h)
  replace hb6 := hb6.step s13 (fun h => h)
  refine Rg.move rfl rfl ?_
  refine Rg.gtrue (g := 72) rfl (trivial) ?_
  refine Rg.gyes rfl rfl ?_
  refine Rg.move rfl rfl ?_
  refine Rg.gyes rfl rfl ?_
  refine Rg.move rfl rfl ?_
  refine Rg.gyes rfl rfl ?_
  refine Rg.call rfl rfl E31 (Both6_spec hM13 hb5 hb6 (by omega) og og) (fun u14 w14 h => ?_)
  obtain ⟨h14, s14⟩ := h
  have S14 := S13.transNew s14 (fun b hb => by omega)
  refine Rg.gyes rfl rfl ?_
  refine Rg.lensl Try.underlying23 rfl h14 rfl ?_
  refine Rg.gyes rfl rfl ?_
  refine Rg.move rfl rfl ?_
  refine Rg.gyes rfl rfl ?_
  refine Rg.lensl Try.underlying28 rfl ogV rfl ?_
  refine Rg.gyes rfl rfl ?_
  refine Rg.ieq rfl rfl rfl ?_
  refine Rg.pickt rfl rfl rfl ?_
  refine Rg.move rfl rfl ?_
  refine Rg.gtrue (g := 81) rfl ((by rw [comm_self])) ?_
  refine Rg.gyes rfl rfl ?_
  refine Rg.call rfl rfl E33 (lives6_spec (M := M) (S14.back.lt hM)) (fun rL wL h => ?_)
  obtain ⟨rfl, sL⟩ := h
  refine Rg.pickt rfl rfl rfl ?_
  refine Rg.assign rfl rfl ?_
  refine Rg.nil ?_
  refine T.ret ?_
  refine Kret1 rfl rfl ⟨rfl, S14.back.trans0 sL⟩


theorem leads_to {g : List Po} (hm : mayPo (-1) g = true) {k : Nat} {doc : Int} (hj : -1 ≤ (k : Int) - 1 ∧ (k : Int) - 1 ≤ g.length) (hlt : ∀ (t : Nat) p, (t : Int) < (k : Int) - 1 → g[t]? = some p → p.1 < doc) (hpos : 0 < k → -1 < doc) (hend : doc ≤ docAt g ((k : Int) - 1) ∨ 2147483648 ≤ docAt g ((k : Int) - 1)) : (k : Int) - 1 = advI g (-1) doc := by
  unfold advI
  rw [docAt_neg (by omega)]
  rcases docAt_cases g ((k : Int) - 1) with ⟨h0, h1, _⟩ | ⟨j, d, ps, hj2, hx, h1, _⟩ | ⟨h0, h1, _⟩
  · rw [if_pos (by omega)]; omega
  · have hr := doc_rng hm hx
    rw [if_neg (by have := hpos (by omega); omega), idx_eq (i := j) (fun t ht p hp => hlt t p (by omega) hp) (fun p hp => by rw [hx] at hp; cases hp; simp only; omega) (by have := (List.getElem?_eq_some_iff.1 hx).1; omega)]
    omega
  · rw [if_neg (by have := hpos (by omega); omega), idx_eq (i := g.length) (fun t ht p hp => hlt t p (by omega) hp) (fun p hp => by simp at hp) (Nat.le_refl _)]
    omega

/-- 'concordance/concordancelaw06.CursorLeads' -/
theorem CursorLeads_spec {M : PSet} {w0 : World} {v : Value} {a : List Po} {doc : Int} (hM : Lt M w0) (hv : ((RT.po).sl).V M w0 a v) (hd : -9223372036854775808 ≤ doc ∧ doc ≤ 9223372036854775807) :
    Spec Try.prog 11 #[v, .int .i64 doc] w0 (fun v' w' => v' = .bool true ∧ Step M w0 M w' none') := by
  refine spec_of (args := [v, .int .i64 doc]) (fn := Try.f11) Try.func11 rfl (n := 61) Try.ntmps11 ?_
  refine T.seq ?_
  refine T.region ?_ -- region 0
  refine Rg.assign rfl rfl ?_
  refine Rg.nil ?_
  refine T.seq ?_
  refine T.region ?_ -- region 1
  refine Rg.move rfl rfl ?_
  refine Rg.call rfl rfl E18 (Good_ok (M := M) (n := 40) hM hv (by decide)) (fun ug w1 h => ?_)
  obtain ⟨s1, g, og, ogl, ogs, ogV⟩ := h
  have hM1 := s1.lt hM
  refine Rg.assign rfl rfl ?_
  refine Rg.nil ?_
  refine T.seq ?_
  refine T.region ?_ -- region 2
  refine Rg.move rfl rfl ?_
  refine Rg.call rfl rfl E19 (Make_ok (M := M) hM1 ogV og) (fun r w2 h => ?_)
  obtain ⟨s2, q, rfl, hp⟩ := h
  have hM2 := s2.lt hM1
  have S2 := s1.trans0 s2
  have z2 := S2.size
  refine Rg.move rfl rfl ?_
  refine Rg.extract rfl rfl rfl ?_
  refine Rg.extract rfl rfl rfl ?_
  refine Rg.assign rfl rfl ?_
  refine Rg.assign rfl rfl ?_
  refine Rg.nil ?_
  refine T.seq ?_
  refine T.region ?_ -- region 3
  refine Rg.move rfl rfl ?_
  refine Rg.call rfl rfl E30 (New6_spec (M := M) (hp)) (fun r w3 h => ?_)
  obtain ⟨bc, rfl, hz, s3, hC⟩ := h
  have hM3 := s3.lt hM2
  have S3 := S2.trans0 s3
  have hlc := hC.lt
  refine Rg.assign rfl rfl ?_
  refine Rg.nil ?_
  refine T.seq ?_
  refine T.region ?_ -- region 4
  refine Rg.move rfl rfl ?_
  refine Rg.call rfl rfl E30 (New6_spec (M := (ins M bc)) ((hp.le (by decide) s3.le))) (fun r w4 h => ?_)
  obtain ⟨bd, rfl, hz2, s4, hD⟩ := h
  have hM4 := s4.lt hM3
  have S4 := S3.trans0 s4
  have hC4 := hC.step s4 (fun h => h)
  have z3 := s3.size
  generalize ins (ins M bc) bd = M1 at hM4 S4 s4 hC4 hD
  refine Rg.assign rfl rfl ?_
  refine Rg.nil ?_
  refine T.seq ?_
  refine T.seq ?_
  refine T.region ?_ -- region 5
  refine Rg.move rfl rfl ?_
  refine Rg.ptreqnil (v := .pointer (some ⟨bc, 0, none⟩)) Try.underlying43 rfl ⟨_, rfl⟩ rfl rfl ?_
  refine Rg.eqv (v' := .bool (decide False)) rfl ?_
  refine Rg.move rfl rfl ?_
  refine Rg.gfalse (g := 24) rfl ((fun h => h)) ?_
  refine Rg.gyes rfl rfl ?_
  refine Rg.move rfl rfl ?_
  refine Rg.gyes rfl rfl ?_
  refine Rg.ptreqnil (v := .pointer (some ⟨bd, 0, none⟩)) Try.underlying43 rfl ⟨_, rfl⟩ rfl rfl ?_
  refine Rg.eqv (v' := .bool (decide False)) rfl ?_
  refine Rg.pickf rfl rfl rfl ?_
  refine Rg.nil ?_
  refine T.iffp rfl ((fun h => h)) ?_
  refine T.skip ?_
  refine T.seq ?_
  refine T.seq ?_
  refine T.region ?_ -- region 7
  refine Rg.assign rfl rfl ?_
  refine Rg.nil ?_
  refine T.block ?_
  refine T.loop (σ := Nat) (fun s => [(1, .int .i64 doc), (8, .pointer (some ⟨bc, 0, none⟩)), (9, .pointer (some ⟨bd, 0, none⟩)), (10, .int .i64 s)]) (fun s w => s ≤ 50 ∧ Lt M1 w ∧ Step M1 w4 M1 w (fun b => b = bd) ∧ Cu 92 g ((s : Int) - 1) M1 w bd ∧ (∀ (t : Nat) p, (t : Int) < (s : Int) - 1 → g[t]? = some p → p.1 < doc) ∧ (0 < s → -1 < doc)) (fun s => 50 - s) 0 (.cons rfl (.cons rfl (.cons rfl (.cons rfl .nil)))) ?_ ?_ -- loop 0
  · exact ⟨by omega, hM4, (Step.refl _ _).widen (fun _ h => h.elim) (fun b hb => by rw [hb]; exact hD.mem), hD, fun t p ht => by omega, fun h => absurd h (Nat.lt_irrefl 0)⟩
  · rintro k w5 ⟨hk, hM5, S5, hD5, hlt, hpos⟩
    have hrg := hD5.rng
    have hin := docAt_in og.may (i := (k : Int) - 1)
    refine T.seq ?_
    refine T.seq ?_
    refine T.region ?_ -- region 8
    refine Rg.move rfl rfl ?_
    refine Rg.ilt rfl rfl rfl ?_
    refine Rg.move rfl rfl ?_
    refine Rg.gsplitp (g := 30) rfl (fun g8_2 => ?_) (fun g8_2 => ?_)
    · -- g8_2 True
      refine Rg.gyes rfl rfl ?_
      refine Rg.move rfl rfl ?_
      refine Rg.gyes rfl rfl ?_
      refine Rg.call rfl rfl E37 (Doc6_spec hD5) (fun r wc h => ?_)
      obtain ⟨rfl, rfl⟩ := h
      refine Rg.gyes rfl rfl ?_
      refine Rg.move rfl rfl ?_
      refine Rg.gyes rfl rfl ?_
      refine Rg.ilt rfl rfl rfl ?_
      refine Rg.pickt rfl rfl rfl ?_
      refine Rg.move rfl rfl ?_
      refine Rg.gsplitp (g := 36) rfl (fun g8_8 => ?_) (fun g8_8 => ?_)
      · -- g8_8 True
        refine Rg.gyes rfl rfl ?_
        refine Rg.move rfl rfl ?_
        refine Rg.gyes rfl rfl ?_
        refine Rg.call rfl rfl E37 (Doc6_spec hD5) (fun r wc h => ?_)
        obtain ⟨rfl, rfl⟩ := h
        refine Rg.gyes rfl rfl ?_
        refine Rg.ilt rfl rfl rfl ?_
        refine Rg.pickt rfl rfl rfl ?_
        refine Rg.nil ?_
        refine T.ifp rfl (fun c8 => ?_) (fun c8 => ?_)
        · -- c8 True
          refine T.skip ?_
          refine T.seq ?_
          refine T.block ?_
          refine T.region ?_ -- region 10
          refine Rg.move rfl rfl ?_
          refine Rg.call rfl rfl E38 (Next_ok hD5 hM5 og) (fun r6 w6 h => ?_)
          obtain ⟨rfl, s6, hD6⟩ := h
          refine Rg.nil ?_
          refine T.region ?_ -- region 9
          refine Rg.move rfl rfl ?_
          refine Rg.iadd rfl rfl rfl (by omega) ?_
          refine Rg.assign rfl rfl ?_
          refine Rg.nil ?_
          refine ⟨rfl, k + 1, (.cons rfl (.cons rfl (.cons rfl (.cons rfl .nil)))), ?_, ?_⟩
          · have hkl : (k : Int) - 1 < g.length := by
              rcases docAt_cases g ((k : Int) - 1) with ⟨h0, h1, _⟩ | ⟨j2, d2, ps2, hj2, hx2, _⟩ | ⟨h0, h1, _⟩
              · omega
              · have := (List.getElem?_eq_some_iff.1 hx2).1; omega
              · omega
            have hni : nextI g ((k : Int) - 1) = ((k + 1 : Nat) : Int) - 1 := by unfold nextI; rw [if_pos hkl]; omega
            rw [hni] at hD6
            refine ⟨by omega, s6.lt hM5, S5.trans s6 (fun _ _ h => h), hD6, fun t p ht hp => ?_, fun _ => ?_⟩
            · by_cases h : (t : Int) < (k : Int) - 1
              · exact hlt t p h hp
              · have e : (k : Int) - 1 = (t : Int) := by omega
                rw [e] at g8_8
                have := docAt_get (d := p.1) (ps := p.2) hp
                omega
            · rcases docAt_cases g ((k : Int) - 1) with ⟨h0, h1, _⟩ | ⟨j2, d2, ps2, hj2, hx2, h1, _⟩ | ⟨h0, h1, _⟩
              · omega
              · have := doc_rng og.may hx2; omega
              · omega
          · show 50 - (k + 1) < 50 - k; omega
        · -- c8 False
          refine T.exit ?_
          refine T.seq ?_
          refine T.region ?_ -- region 11
          refine Rg.move rfl rfl ?_
          refine Rg.move rfl rfl ?_
          have hjr := hD5.rng
          have hjj : (k : Int) - 1 = advI g (-1) doc := leads_to og.may hjr hlt hpos (by omega)
          have hC5 := hC4.step S5 (by omega)
          refine Rg.call rfl rfl E39 (Adv_ok hC5 hM5 og hd) (fun r7 w7 h => ?_)
          obtain ⟨rfl, s7, hC7⟩ := h
          rw [← hjj] at hC7 ⊢
          have hM7 := s7.lt hM5
          have hD7 := hD5.step s7 (by omega)
          refine Rg.move rfl rfl ?_
          refine Rg.call rfl rfl E37 (Doc6_spec hD7) (fun r wc h => ?_)
          obtain ⟨rfl, rfl⟩ := h
          refine Rg.ieq rfl rfl rfl ?_
          refine Rg.move rfl rfl ?_
          refine Rg.gtrue (g := 51) rfl (rfl) ?_
          refine Rg.gyes rfl rfl ?_
          refine Rg.move rfl rfl ?_
          refine Rg.gyes rfl rfl ?_
          refine Rg.call rfl rfl E40 (Places6_spec hC7 og.may og.ps hM7) (fun u8 w8 h => ?_)
          obtain ⟨h8, s8⟩ := h
          refine Rg.gyes rfl rfl ?_
          refine Rg.move rfl rfl ?_
          refine Rg.gyes rfl rfl ?_
          refine Rg.call rfl rfl E40 (Places6_spec (hD7.step s8 (fun h => h)) og.may og.ps (s8.lt hM7)) (fun u9 w9 h => ?_)
          obtain ⟨h9, s9⟩ := h
          refine Rg.gyes rfl rfl ?_
          refine Rg.call rfl rfl E23 (Same_spec (s9.lt (s8.lt hM7)) (h8.le s9.le) h9) (fun r10 w10 h => ?_)
          obtain ⟨rfl, s10⟩ := h
          refine Rg.eqv (v' := .bool (decide True)) (by simp) ?_
          have S7 := (S4.transNew S5 (fun b hb => by omega)).transNew s7 (fun b hb => by omega)
          refine Rg.pickt rfl rfl rfl ?_
          refine Rg.move rfl rfl ?_
          refine Rg.gtrue (g := 58) rfl (trivial) ?_
          refine Rg.gyes rfl rfl ?_
          refine Rg.call rfl rfl E33 (lives6_spec (M := M) ((((S7.trans0 s8).trans0 s9).trans0 s10).back.lt hM)) (fun rL wL h => ?_)
          obtain ⟨rfl, sL⟩ := h
          refine Rg.pickt rfl rfl rfl ?_
          refine Rg.assign rfl rfl ?_
          refine Rg.nil ?_
          refine T.ret ?_
          exact Kret1 rfl rfl ⟨rfl, (((S7.trans0 s8).trans0 s9).trans0 s10).back.trans0 sL⟩
      · -- g8_8 False
        refine Rg.gno rfl rfl rfl rfl ?_
        refine Rg.gno rfl rfl rfl rfl ?_
        refine Rg.gno rfl rfl rfl rfl ?_
        refine Rg.pickf rfl rfl rfl ?_
        refine Rg.nil ?_
        refine T.iff rfl ?_
        refine T.exit ?_
        refine T.seq ?_
        refine T.region ?_ -- region 11
        refine Rg.move rfl rfl ?_
        refine Rg.move rfl rfl ?_
        have hjr := hD5.rng
        have hjj : (k : Int) - 1 = advI g (-1) doc := leads_to og.may hjr hlt hpos (by omega)
        have hC5 := hC4.step S5 (by omega)
        refine Rg.call rfl rfl E39 (Adv_ok hC5 hM5 og hd) (fun r7 w7 h => ?_)
        obtain ⟨rfl, s7, hC7⟩ := h
        rw [← hjj] at hC7 ⊢
        have hM7 := s7.lt hM5
        have hD7 := hD5.step s7 (by omega)
        refine Rg.move rfl rfl ?_
        refine Rg.call rfl rfl E37 (Doc6_spec hD7) (fun r wc h => ?_)
        obtain ⟨rfl, rfl⟩ := h
        refine Rg.ieq rfl rfl rfl ?_
        refine Rg.move rfl rfl ?_
        refine Rg.gtrue (g := 51) rfl (rfl) ?_
        refine Rg.gyes rfl rfl ?_
        refine Rg.move rfl rfl ?_
        refine Rg.gyes rfl rfl ?_
        refine Rg.call rfl rfl E40 (Places6_spec hC7 og.may og.ps hM7) (fun u8 w8 h => ?_)
        obtain ⟨h8, s8⟩ := h
        refine Rg.gyes rfl rfl ?_
        refine Rg.move rfl rfl ?_
        refine Rg.gyes rfl rfl ?_
        refine Rg.call rfl rfl E40 (Places6_spec (hD7.step s8 (fun h => h)) og.may og.ps (s8.lt hM7)) (fun u9 w9 h => ?_)
        obtain ⟨h9, s9⟩ := h
        refine Rg.gyes rfl rfl ?_
        refine Rg.call rfl rfl E23 (Same_spec (s9.lt (s8.lt hM7)) (h8.le s9.le) h9) (fun r10 w10 h => ?_)
        obtain ⟨rfl, s10⟩ := h
        refine Rg.eqv (v' := .bool (decide True)) (by simp) ?_
        have S7 := (S4.transNew S5 (fun b hb => by omega)).transNew s7 (fun b hb => by omega)
        refine Rg.pickt rfl rfl rfl ?_
        refine Rg.move rfl rfl ?_
        refine Rg.gtrue (g := 58) rfl (trivial) ?_
        refine Rg.gyes rfl rfl ?_
        refine Rg.call rfl rfl E33 (lives6_spec (M := M) ((((S7.trans0 s8).trans0 s9).trans0 s10).back.lt hM)) (fun rL wL h => ?_)
        obtain ⟨rfl, sL⟩ := h
        refine Rg.pickt rfl rfl rfl ?_
        refine Rg.assign rfl rfl ?_
        refine Rg.nil ?_
        refine T.ret ?_
        exact Kret1 rfl rfl ⟨rfl, (((S7.trans0 s8).trans0 s9).trans0 s10).back.trans0 sL⟩
    · -- g8_2 False
      refine Rg.gno rfl rfl rfl rfl ?_
      refine Rg.gno rfl rfl rfl rfl ?_
      refine Rg.gno rfl rfl rfl rfl ?_
      refine Rg.gno rfl rfl rfl rfl ?_
      refine Rg.pickf rfl rfl rfl ?_
      refine Rg.move rfl rfl ?_
      refine Rg.gno rfl rfl rfl rfl ?_
      refine Rg.gno rfl rfl rfl rfl ?_
      refine Rg.gno rfl rfl rfl rfl ?_
      refine Rg.pickf rfl rfl rfl ?_
      refine Rg.nil ?_
      refine T.iff rfl ?_
      refine T.exit ?_
      refine T.seq ?_
      refine T.region ?_ -- region 11
      refine Rg.move rfl rfl ?_
      refine Rg.move rfl rfl ?_
      have hjr := hD5.rng
      have hjj : (k : Int) - 1 = advI g (-1) doc := leads_to og.may hjr hlt hpos (by omega)
      have hC5 := hC4.step S5 (by omega)
      refine Rg.call rfl rfl E39 (Adv_ok hC5 hM5 og hd) (fun r7 w7 h => ?_)
      obtain ⟨rfl, s7, hC7⟩ := h
      rw [← hjj] at hC7 ⊢
      have hM7 := s7.lt hM5
      have hD7 := hD5.step s7 (by omega)
      refine Rg.move rfl rfl ?_
      refine Rg.call rfl rfl E37 (Doc6_spec hD7) (fun r wc h => ?_)
      obtain ⟨rfl, rfl⟩ := h
      refine Rg.ieq rfl rfl rfl ?_
      refine Rg.move rfl rfl ?_
      refine Rg.gtrue (g := 51) rfl (rfl) ?_
      refine Rg.gyes rfl rfl ?_
      refine Rg.move rfl rfl ?_
      refine Rg.gyes rfl rfl ?_
      refine Rg.call rfl rfl E40 (Places6_spec hC7 og.may og.ps hM7) (fun u8 w8 h => ?_)
      obtain ⟨h8, s8⟩ := h
      refine Rg.gyes rfl rfl ?_
      refine Rg.move rfl rfl ?_
      refine Rg.gyes rfl rfl ?_
      refine Rg.call rfl rfl E40 (Places6_spec (hD7.step s8 (fun h => h)) og.may og.ps (s8.lt hM7)) (fun u9 w9 h => ?_)
      obtain ⟨h9, s9⟩ := h
      refine Rg.gyes rfl rfl ?_
      refine Rg.call rfl rfl E23 (Same_spec (s9.lt (s8.lt hM7)) (h8.le s9.le) h9) (fun r10 w10 h => ?_)
      obtain ⟨rfl, s10⟩ := h
      refine Rg.eqv (v' := .bool (decide True)) (by simp) ?_
      have S7 := (S4.transNew S5 (fun b hb => by omega)).transNew s7 (fun b hb => by omega)
      refine Rg.pickt rfl rfl rfl ?_
      refine Rg.move rfl rfl ?_
      refine Rg.gtrue (g := 58) rfl (trivial) ?_
      refine Rg.gyes rfl rfl ?_
      refine Rg.call rfl rfl E33 (lives6_spec (M := M) ((((S7.trans0 s8).trans0 s9).trans0 s10).back.lt hM)) (fun rL wL h => ?_)
      obtain ⟨rfl, sL⟩ := h
      refine Rg.pickt rfl rfl rfl ?_
      refine Rg.assign rfl rfl ?_
      refine Rg.nil ?_
      refine T.ret ?_
      exact Kret1 rfl rfl ⟨rfl, (((S7.trans0 s8).trans0 s9).trans0 s10).back.trans0 sL⟩

end Go.K

/- The walks of Go functions, operation by operation. -/
import Derived.Test.YtgpmihcdjmjfoaaDoorKTypes
import Derived.Test.YtgpmihcdjmjfoaaDoorKNum
import Derived.Test.YtgpmihcdjmjfoaaDoorKBits
import Derived.Test.YtgpmihcdjmjfoaaDoorKStr2
import Derived.Test.YtgpmihcdjmjfoaaDoorKMatch
import Derived.Test.YtgpmihcdjmjfoaaDoorKSides
import Derived.Test.YtgpmihcdjmjfoaaDoorKJoin
import Derived.Test.YtgpmihcdjmjfoaaDoorKDraw
import Derived.Test.YtgpmihcdjmjfoaaDoorKSearch
import Derived.Test.YtgpmihcdjmjfoaaDoorKSides2
import Derived.Test.YtgpmihcdjmjfoaaDoorKSide
import Derived.Test.YtgpmihcdjmjfoaaDoorKOf
import Derived.Test.YtgpmihcdjmjfoaaDoorKMNot
import Derived.Test.YtgpmihcdjmjfoaaDoorKRef13
import Derived.Test.YtgpmihcdjmjfoaaDoorKJoin13
import Derived.Test.YtgpmihcdjmjfoaaDoorKLives13
import Derived.Test.YtgpmihcdjmjfoaaDoorProg
import Derived.KernelRfl
namespace Go.K
open Go.Proofs
namespace TKLawD2
theorem I26 : TI Tryd.prog 26 (.agg #[(.int .i64 0), (.int .i64 0)]) 2 16 := by unfold TI; kernel_rfl -- api.Found
theorem E5 : Enters Tryd.prog 5 := enters Tryd.func5 rfl (by decide) -- concordance/concordanceref13.Good
theorem E6 : Enters Tryd.prog 6 := enters Tryd.func6 rfl (by decide) -- concordance/match.And
theorem E7 : Enters Tryd.prog 7 := enters Tryd.func7 rfl (by decide) -- concordance/match.Not
theorem E8 : Enters Tryd.prog 8 := enters Tryd.func8 rfl (by decide) -- concordance/match.Or
theorem E9 : Enters Tryd.prog 9 := enters Tryd.func9 rfl (by decide) -- concordance/concordancelaw13.lives
end TKLawD2
open TKLawD2
set_option linter.unusedVariables false
set_option linter.unusedSimpArgs false
set_option maxRecDepth 10000

set_option maxHeartbeats 2000000 in
/-- 'concordance/concordancelaw13.MatchLogic' -/
theorem MatchLogic_spec {M : PSet} {w0 : World} {va vb : Value} {a b : List Fo} (hM : Lt M w0) (hva : ((RT.fo).sl).V M w0 a va) (hvb : ((RT.fo).sl).V M w0 b vb) (hM0 : ¬ M 0) (tab : ∃ e fr, w0.heap[0]? = some (.cells (deb.map fun (k : Nat) => Value.int .u8 (k : Int)).toArray e fr)) :
    Spec Tryd.prog 3 #[va, vb] w0 (fun v' w' => v' = .bool true ∧ Step M w0 M w' none') := by
  obtain ⟨et, ft, tab⟩ := tab
  refine spec_of (args := [va, vb]) (fn := Tryd.f3) Tryd.func3 rfl (n := 58) Tryd.ntmps3 ?_
  refine T.seq ?_
  refine T.region ?_ -- region 0
  refine Rg.assign rfl rfl ?_
  refine Rg.nil ?_
  refine T.seq ?_
  refine T.region ?_ -- region 1
  refine Rg.move rfl rfl ?_
  refine Rg.call rfl rfl E5 (Good13_spec (most := 20) hM hva (by decide)) (fun r1 w1 h => ?_)
  obtain ⟨s1, x, rx, lx, hx1⟩ := h
  have hM1 := s1.lt hM
  replace rx : Rise x 0 200 := rx
  refine Rg.assign rfl rfl ?_
  refine Rg.nil ?_
  refine T.seq ?_
  refine T.region ?_ -- region 2
  refine Rg.move rfl rfl ?_
  refine Rg.call rfl rfl E5 (Good13_spec (most := 20) hM1 (hvb.le s1.le) (by decide)) (fun r2 w2 h => ?_)
  obtain ⟨s2, y, ry, ly, hy2⟩ := h
  have hM2 := s2.lt hM1
  replace ry : Rise y 0 200 := ry
  have hx2 := hx1.le s2.le
  have ox := rx.okD (by decide)
  have oy := ry.okD (by decide)
  have t2 := s2.same0 (s1.same0 tab)
  have S2 := s1.trans0 s2
  refine Rg.assign rfl rfl ?_
  refine Rg.nil ?_
  refine T.seq ?_
  refine T.region ?_ -- region 3
  refine Rg.assign rfl rfl ?_
  refine Rg.nil ?_
  refine T.seq ?_
  refine T.region ?_ -- region 4
  refine Rg.move rfl rfl ?_
  refine Rg.move rfl rfl ?_
  refine Rg.call rfl rfl E6 (And_spec hM2 hx2 hy2 ox oy (by omega)) (fun r3 w3 h => ?_)
  obtain ⟨h3, s3⟩ := h
  have hM3 := s3.lt hM2
  have t3 := s3.same0 t2
  refine Rg.assign rfl rfl ?_
  refine Rg.nil ?_
  refine T.seq ?_
  refine T.region ?_ -- region 5
  refine Rg.move rfl rfl ?_
  refine Rg.move rfl rfl ?_
  refine Rg.call rfl rfl E7 (Not_spec (n := 250) hM3 (hx2.le s3.le) (by decide) hM0 ⟨_, _, t3⟩) (fun r4 w4 h => ?_)
  obtain ⟨h4, s4⟩ := h
  have hM4 := s4.lt hM3
  have t4 := s4.same0 t3
  refine Rg.move rfl rfl ?_
  refine Rg.move rfl rfl ?_
  refine Rg.call rfl rfl E7 (Not_spec (n := 250) hM4 ((hy2.le s3.le).le s4.le) (by decide) hM0 ⟨_, _, t4⟩) (fun r5 w5 h => ?_)
  obtain ⟨h5, s5⟩ := h
  have hM5 := s5.lt hM4
  have t5 := s5.same0 t4
  have l4 := outN_len x 250
  have l5 := outN_len y 250
  refine Rg.call rfl rfl E8 (Or_spec hM5 (h4.le s5.le) h5 ((outN_rise x 250).okD (by decide)) ((outN_rise y 250).okD (by decide)) (by omega)) (fun r6 w6 h => ?_)
  obtain ⟨h6, s6⟩ := h
  have hM6 := s6.lt hM5
  have t6 := s6.same0 t5
  refine Rg.move rfl rfl ?_
  refine Rg.call rfl rfl E7 (Not_spec (n := 250) hM6 h6 (by decide) hM0 ⟨_, _, t6⟩) (fun r7 w7 h => ?_)
  obtain ⟨h7, s7⟩ := h
  have hM7 := s7.lt hM6
  have hp7 := ((((h3.le s4.le).le s5.le).le s6.le).le s7.le)
  have S7 := ((((S2.trans0 s3).trans0 s4).trans0 s5).trans0 s6).trans0 s7
  have hfst := logic_fst (rx.wide (m' := 250) (by decide)) (ry.wide (m' := 250) (by decide))
  have hz := outN_zero (a := ofP 1 (outN x 250) (outN y 250)) (n := 250)
  have hlen : (ofP 2 x y).length = (outN (ofP 1 (outN x 250) (outN y 250)) 250).length := by have := congrArg List.length hfst; rwa [List.length_map, List.length_map] at this
  generalize ofP 2 x y = p at h3 hp7 hfst hlen
  generalize (outN (ofP 1 (outN x 250) (outN y 250)) 250) = q at h7 hfst hlen hz
  have hlp := V_sl_len hp7
  refine Rg.assign rfl rfl ?_
  refine Rg.nil ?_
  refine T.seq ?_
  refine T.seq ?_
  refine T.region ?_ -- region 6
  refine Rg.move rfl rfl ?_
  refine Rg.lensl Tryd.underlying22 rfl hp7 rfl ?_
  refine Rg.move rfl rfl ?_
  refine Rg.lensl Tryd.underlying22 rfl h7 rfl ?_
  refine Rg.ine rfl rfl rfl ?_
  refine Rg.nil ?_
  refine T.iffp rfl ((fun h => h (by omega))) ?_
  refine T.skip ?_
  refine T.seq ?_
  refine T.seq ?_
  refine T.region ?_ -- region 8
  refine Rg.assign rfl rfl ?_
  refine Rg.nil ?_
  refine T.block ?_
  refine T.loop (σ := Nat) (fun s => [(8, r3), (9, r7), (10, .int .i64 s)]) (fun s w => s ≤ p.length ∧ Step M w7 M w none') (fun s => p.length - s) 0 (.cons rfl (.cons rfl (.cons rfl .nil))) ?_ ?_ -- loop 0
  · exact ⟨Nat.zero_le _, Step.refl _ _⟩
  · rintro k wk ⟨hk, S⟩
    refine T.seq ?_
    refine T.seq ?_
    refine T.region ?_ -- region 9
    refine Rg.move rfl rfl ?_
    refine Rg.move rfl rfl ?_
    refine Rg.lensl Tryd.underlying22 rfl (hp7.le S.le) rfl ?_
    refine Rg.ilt rfl rfl rfl ?_
    refine Rg.nil ?_
    refine T.ifp rfl (fun c9 => ?_) (fun c9 => ?_)
    · -- c9 True
      refine T.skip ?_
      refine T.seq ?_
      refine T.block ?_
      refine T.seq ?_
      obtain ⟨⟨d, s⟩, hx⟩ : ∃ x, p[k]? = some x := ⟨_, List.getElem?_eq_getElem (by omega)⟩
      have hy := logic_at hfst hz hx
      by_cases g11_11 : ¬ (d = d)
      · -- g11_11 True
        exact absurd rfl g11_11
      · -- g11_11 False
        apply T.draw (M := M) mixed [Asr.eq _, Asr.eq _, Asr.ptr (RT.fo) (d, s), Asr.ptr (RT.int .i64) d, Asr.eq (.int .i64 d), Asr.eq _, Asr.eq _, Asr.ptr (RT.fo) (d, 0), Asr.ptr (RT.int .i64) d, Asr.eq (.int .i64 d), Asr.eq _, Asr.eq (.bool false), Asr.eq _, Asr.eq _, Asr.ptr (RT.fo) (d, 0), Asr.ptr (RT.int .i64) 0, Asr.eq (.int .i64 0), Asr.eq _, Asr.eq _] -- region 11
        · rfl
        · -- its operations
          refine Obls.cons ?_ ?_
          · intro wD E sD -- 0
            refine Rg.move rfl rfl ?_
            exact Rg.nil ⟨rfl, rfl, _, rfl, rfl, Step.refl _ _⟩
          refine Obls.cons ?_ ?_
          · intro wD E sD -- 1
            refine Rg.move rfl rfl ?_
            exact Rg.nil ⟨rfl, rfl, _, rfl, rfl, Step.refl _ _⟩
          refine Obls.cons ?_ ?_
          · intro wD E sD -- 2
            intro x_ hx_; have hx_ : x_ = _ := hx_; subst x_
            intro x_ hx_; have hx_ : x_ = _ := hx_; subst x_
            refine Rg.idx (M := M) Tryd.underlying22 I26 rfl rfl rfl ((hp7.le S.le).le sD.le) (Le.refl _ _) (by omega) (fun ui ai hgi hui => ?_)
            obtain rfl : (d, s) = ai := Eq.symm (Option.some.inj (hgi.symm.trans (by rw [Int.toNat_natCast]; exact hx)))
            exact Rg.nil ⟨rfl, rfl, _, rfl, hui, Step.refl _ _⟩
          refine Obls.cons ?_ ?_
          · intro wD E sD -- 3
            intro v2 hv2
            refine Rg.fieldAddr (M := M) (A := RT.fo) (B := RT.int .i64) Tryd.underlying26 rfl rfl I3 (by decide) (fo0) rfl rfl (by decide) (show PtrTo (RT.fo) M wD v2 (d, s) from hv2) (Le.refl _ _) (fun uf huf => ?_)
            exact Rg.nil ⟨rfl, rfl, _, rfl, huf, Step.refl _ _⟩
          refine Obls.cons ?_ ?_
          · intro wD E sD -- 4
            intro v3 hv3
            refine Rg.loadi64 (M := M) Tryd.underlying3 rfl rfl (show PtrTo (RT.int .i64) M wD v3 d from hv3) (Le.refl _ _) (fun hin => ?_)
            exact Rg.nil ⟨rfl, rfl, _, rfl, rfl, Step.refl _ _⟩
          refine Obls.cons ?_ ?_
          · intro wD E sD -- 5
            refine Rg.move rfl rfl ?_
            exact Rg.nil ⟨rfl, rfl, _, rfl, rfl, Step.refl _ _⟩
          refine Obls.cons ?_ ?_
          · intro wD E sD -- 6
            refine Rg.move rfl rfl ?_
            exact Rg.nil ⟨rfl, rfl, _, rfl, rfl, Step.refl _ _⟩
          refine Obls.cons ?_ ?_
          · intro wD E sD -- 7
            intro x_ hx_; have hx_ : x_ = _ := hx_; subst x_
            intro x_ hx_; have hx_ : x_ = _ := hx_; subst x_
            refine Rg.idx (M := M) Tryd.underlying22 I26 rfl rfl rfl ((h7.le S.le).le sD.le) (Le.refl _ _) (by omega) (fun ui ai hgi hui => ?_)
            obtain rfl : (d, 0) = ai := Eq.symm (Option.some.inj (hgi.symm.trans (by rw [Int.toNat_natCast]; exact hy)))
            exact Rg.nil ⟨rfl, rfl, _, rfl, hui, Step.refl _ _⟩
          refine Obls.cons ?_ ?_
          · intro wD E sD -- 8
            intro v7 hv7
            refine Rg.fieldAddr (M := M) (A := RT.fo) (B := RT.int .i64) Tryd.underlying26 rfl rfl I3 (by decide) (fo0) rfl rfl (by decide) (show PtrTo (RT.fo) M wD v7 (d, 0) from hv7) (Le.refl _ _) (fun uf huf => ?_)
            exact Rg.nil ⟨rfl, rfl, _, rfl, huf, Step.refl _ _⟩
          refine Obls.cons ?_ ?_
          · intro wD E sD -- 9
            intro v8 hv8
            refine Rg.loadi64 (M := M) Tryd.underlying3 rfl rfl (show PtrTo (RT.int .i64) M wD v8 d from hv8) (Le.refl _ _) (fun hin => ?_)
            exact Rg.nil ⟨rfl, rfl, _, rfl, rfl, Step.refl _ _⟩
          refine Obls.cons ?_ ?_
          · intro wD E sD -- 10
            intro x_ hx_; have hx_ : x_ = _ := hx_; subst x_
            intro x_ hx_; have hx_ : x_ = _ := hx_; subst x_
            refine Rg.ine rfl rfl rfl ?_
            exact Rg.nil ⟨rfl, rfl, _, rfl, rfl, Step.refl _ _⟩
          refine Obls.cons ?_ ?_
          · intro wD E sD -- 11
            intro x_ hx_; have hx_ : x_ = _ := hx_; subst x_
            refine Rg.move rfl rfl ?_
            refine Rg.nil ⟨rfl, rfl, _, rfl, ?_, Step.refl _ _⟩
            exact congrArg Value.bool (decide_eq_false g11_11)
          refine Obls.cons ?_ ?_
          · intro wD E sD -- 12
            intro x_ hx_; have hx_ : x_ = _ := hx_; subst x_
            refine Rg.gyes rfl rfl ?_
            refine Rg.move rfl rfl ?_
            exact Rg.nil ⟨rfl, rfl, _, rfl, rfl, Step.refl _ _⟩
          refine Obls.cons ?_ ?_
          · intro wD E sD -- 13
            intro x_ hx_; have hx_ : x_ = _ := hx_; subst x_
            refine Rg.gyes rfl rfl ?_
            refine Rg.move rfl rfl ?_
            exact Rg.nil ⟨rfl, rfl, _, rfl, rfl, Step.refl _ _⟩
          refine Obls.cons ?_ ?_
          · intro wD E sD -- 14
            intro x_ hx_; have hx_ : x_ = _ := hx_; subst x_
            intro x_ hx_; have hx_ : x_ = _ := hx_; subst x_
            intro x_ hx_; have hx_ : x_ = _ := hx_; subst x_
            refine Rg.gyes rfl rfl ?_
            refine Rg.idx (M := M) Tryd.underlying22 I26 rfl rfl rfl ((h7.le S.le).le sD.le) (Le.refl _ _) (by omega) (fun ui ai hgi hui => ?_)
            obtain rfl : (d, 0) = ai := Eq.symm (Option.some.inj (hgi.symm.trans (by rw [Int.toNat_natCast]; exact hy)))
            exact Rg.nil ⟨rfl, rfl, _, rfl, hui, Step.refl _ _⟩
          refine Obls.cons ?_ ?_
          · intro wD E sD -- 15
            intro v14 hv14
            intro x_ hx_; have hx_ : x_ = _ := hx_; subst x_
            refine Rg.gyes rfl rfl ?_
            refine Rg.fieldAddr (M := M) (A := RT.fo) (B := RT.int .i64) Tryd.underlying26 rfl rfl I3 (by decide) (fo1) rfl rfl (by decide) (show PtrTo (RT.fo) M wD v14 (d, 0) from hv14) (Le.refl _ _) (fun uf huf => ?_)
            exact Rg.nil ⟨rfl, rfl, _, rfl, huf, Step.refl _ _⟩
          refine Obls.cons ?_ ?_
          · intro wD E sD -- 16
            intro v15 hv15
            intro x_ hx_; have hx_ : x_ = _ := hx_; subst x_
            refine Rg.gyes rfl rfl ?_
            refine Rg.loadi64 (M := M) Tryd.underlying3 rfl rfl (show PtrTo (RT.int .i64) M wD v15 0 from hv15) (Le.refl _ _) (fun hin => ?_)
            exact Rg.nil ⟨rfl, rfl, _, rfl, rfl, Step.refl _ _⟩
          refine Obls.cons ?_ ?_
          · intro wD E sD -- 17
            intro x_ hx_; have hx_ : x_ = _ := hx_; subst x_
            intro x_ hx_; have hx_ : x_ = _ := hx_; subst x_
            refine Rg.gyes rfl rfl ?_
            refine Rg.ine rfl rfl rfl ?_
            exact Rg.nil ⟨rfl, rfl, _, rfl, rfl, Step.refl _ _⟩
          refine Obls.cons ?_ ?_
          · intro wD E sD -- 18
            intro x_ hx_; have hx_ : x_ = _ := hx_; subst x_
            intro x_ hx_; have hx_ : x_ = _ := hx_; subst x_
            refine Rg.pickf rfl rfl rfl ?_
            exact Rg.nil ⟨rfl, rfl, _, rfl, rfl, Step.refl _ _⟩
          exact Obls.nil
        · -- behind it
          intro wD11 sD11
          intro x_ hx_; have hx_ : x_ = _ := hx_; subst x_
          intro x_ hx_; have hx_ : x_ = _ := hx_; subst x_
          intro v11_2 hv11_2
          intro v11_3 hv11_3
          intro x_ hx_; have hx_ : x_ = _ := hx_; subst x_
          intro x_ hx_; have hx_ : x_ = _ := hx_; subst x_
          intro x_ hx_; have hx_ : x_ = _ := hx_; subst x_
          intro v11_7 hv11_7
          intro v11_8 hv11_8
          intro x_ hx_; have hx_ : x_ = _ := hx_; subst x_
          intro x_ hx_; have hx_ : x_ = _ := hx_; subst x_
          intro x_ hx_; have hx_ : x_ = _ := hx_; subst x_
          intro x_ hx_; have hx_ : x_ = _ := hx_; subst x_
          intro x_ hx_; have hx_ : x_ = _ := hx_; subst x_
          intro v11_14 hv11_14
          intro v11_15 hv11_15
          intro x_ hx_; have hx_ : x_ = _ := hx_; subst x_
          intro x_ hx_; have hx_ : x_ = _ := hx_; subst x_
          intro x_ hx_; have hx_ : x_ = _ := hx_; subst x_
          refine T.iffp rfl ((fun h => h rfl)) ?_
          refine T.skip ?_
          refine T.region ?_ -- region 10
          refine Rg.move rfl rfl ?_
          refine Rg.iadd rfl rfl rfl (by omega) ?_
          refine Rg.assign rfl rfl ?_
          refine Rg.nil ?_
          refine ⟨rfl, k + 1, (.cons rfl (.cons rfl (.cons rfl .nil))), ?_, ?_⟩
          · exact ⟨by omega, S.trans0 sD11⟩
          · show p.length - (k + 1) < p.length - k; omega
    · -- c9 False
      refine T.exit ?_
      refine T.seq ?_
      refine T.region ?_ -- region 13
      refine Rg.call rfl rfl E9 (lives13_spec (M := M) (S.lt hM7)) (fun rL wL h => ?_)
      obtain ⟨rfl, sL⟩ := h
      refine Rg.assign rfl rfl ?_
      refine Rg.nil ?_
      refine T.ret ?_
      exact Kret1 rfl rfl ⟨rfl, (S7.trans0 S).trans0 sL⟩

end Go.K

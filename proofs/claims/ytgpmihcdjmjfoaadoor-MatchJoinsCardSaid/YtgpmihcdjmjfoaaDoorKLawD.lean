/- The walks of Go functions, operation by operation. -/
import Derived.Test.YtgpmihcdjmjfoaaDoorKTypes
import Derived.Test.YtgpmihcdjmjfoaaDoorKNum
import Derived.Test.YtgpmihcdjmjfoaaDoorKBits
import Derived.Test.YtgpmihcdjmjfoaaDoorKStr2
import Derived.Test.YtgpmihcdjmjfoaaDoorKMatch
import Derived.Test.YtgpmihcdjmjfoaaDoorKSides
import Derived.Test.YtgpmihcdjmjfoaaDoorKJoin
import Derived.Test.YtgpmihcdjmjfoaaDoorKDraw
import Derived.Test.YtgpmihcdjmjfoaaDoorKSearch
import Derived.Test.YtgpmihcdjmjfoaaDoorKSides2
import Derived.Test.YtgpmihcdjmjfoaaDoorKSide
import Derived.Test.YtgpmihcdjmjfoaaDoorKOf
import Derived.Test.YtgpmihcdjmjfoaaDoorKMNot
import Derived.Test.YtgpmihcdjmjfoaaDoorKRef13
import Derived.Test.YtgpmihcdjmjfoaaDoorKJoin13
import Derived.Test.YtgpmihcdjmjfoaaDoorKLives13
import Derived.Test.YtgpmihcdjmjfoaaDoorProg
import Derived.KernelRfl
namespace Go.K
open Go.Proofs
namespace TKLawD
theorem E5 : Enters Tryd.prog 5 := enters Tryd.func5 rfl (by decide) -- concordance/concordanceref13.Good
theorem E6 : Enters Tryd.prog 6 := enters Tryd.func6 rfl (by decide) -- concordance/match.And
theorem E7 : Enters Tryd.prog 7 := enters Tryd.func7 rfl (by decide) -- concordance/match.Not
theorem E8 : Enters Tryd.prog 8 := enters Tryd.func8 rfl (by decide) -- concordance/match.Or
theorem E9 : Enters Tryd.prog 9 := enters Tryd.func9 rfl (by decide) -- concordance/concordancelaw13.lives
theorem E10 : Enters Tryd.prog 10 := enters Tryd.func10 rfl (by decide) -- concordance/concordanceref13.Same
theorem E11 : Enters Tryd.prog 11 := enters Tryd.func11 rfl (by decide) -- concordance/concordanceref13.Join
theorem E12 : Enters Tryd.prog 12 := enters Tryd.func12 rfl (by decide) -- concordance/concordanceref13.Not
theorem E13 : Enters Tryd.prog 13 := enters Tryd.func13 rfl (by decide) -- concordance/match.Count
end TKLawD
open TKLawD
set_option linter.unusedVariables false
set_option linter.unusedSimpArgs false
set_option maxRecDepth 10000

set_option maxHeartbeats 2000000 in
/-- 'concordance/concordancelaw13.MatchJoins' -/
theorem MatchJoins_spec {M : PSet} {w0 : World} {va vb : Value} {a b : List Fo} {n : Int} (hM : Lt M w0) (hva : ((RT.fo).sl).V M w0 a va) (hvb : ((RT.fo).sl).V M w0 b vb) (hn : -9223372036854775808 ≤ n ∧ n ≤ 9223372036854775807) (hM0 : ¬ M 0) (tab : ∃ e fr, w0.heap[0]? = some (.cells (deb.map fun (k : Nat) => Value.int .u8 (k : Int)).toArray e fr)) :
    Spec Tryd.prog 4 #[va, vb, .int .i64 n] w0 (fun v' w' => v' = .bool true ∧ Step M w0 M w' none') := by
  obtain ⟨et, ft, tab⟩ := tab
  refine spec_of (args := [va, vb, .int .i64 n]) (fn := Tryd.f4) Tryd.func4 rfl (n := 55) Tryd.ntmps4 ?_
  refine T.seq ?_
  refine T.region ?_ -- region 0
  refine Rg.assign rfl rfl ?_
  refine Rg.nil ?_
  refine T.seq ?_
  refine T.region ?_ -- region 1
  refine Rg.move rfl rfl ?_
  refine Rg.call rfl rfl E5 (Good13_spec (most := 20) hM hva (by decide)) (fun r1 w1 h => ?_)
  obtain ⟨s1, x, rx, lx, hx1⟩ := h
  have hM1 := s1.lt hM
  replace rx : Rise x 0 200 := rx
  refine Rg.assign rfl rfl ?_
  refine Rg.nil ?_
  refine T.seq ?_
  refine T.region ?_ -- region 2
  refine Rg.move rfl rfl ?_
  refine Rg.call rfl rfl E5 (Good13_spec (most := 20) hM1 (hvb.le s1.le) (by decide)) (fun r2 w2 h => ?_)
  obtain ⟨s2, y, ry, ly, hy2⟩ := h
  have hM2 := s2.lt hM1
  replace ry : Rise y 0 200 := ry
  have hx2 := hx1.le s2.le
  have ox := rx.okD (by decide)
  have oy := ry.okD (by decide)
  have t2 := s2.same0 (s1.same0 tab)
  have S2 := s1.trans0 s2
  refine Rg.assign rfl rfl ?_
  refine Rg.nil ?_
  refine T.seq ?_
  refine T.seq ?_
  refine T.region ?_ -- region 3
  refine Rg.move rfl rfl ?_
  refine Rg.ilt rfl rfl rfl ?_
  refine Rg.nil ?_
  refine T.ifp rfl (fun c3 => ?_) (fun c3 => ?_)
  · -- c3 True
    refine T.region ?_ -- region 4
    refine Rg.move rfl rfl ?_
    refine Rg.iadd rfl rfl rfl (by omega) ?_
    refine Rg.neg rfl rfl (by omega) ?_
    refine Rg.assign rfl rfl ?_
    refine Rg.nil ?_
    refine T.seq ?_
    refine T.region ?_ -- region 5
    refine Rg.move rfl rfl ?_
    refine Rg.imod rfl rfl rfl (by omega) ?_
    first
    | refine Rg.eqv (v' := .int .i64 (((-(n + 1)) % 101).toNat : Nat)) (congrArg _ (by omega)) ?_
    | refine Rg.eqv (v' := .int .i64 ((n % 101).toNat : Nat)) (congrArg _ (by omega)) ?_

    first
    | (obtain ⟨nn, hnn⟩ : ∃ nn : Nat, nn = ((-(n + 1)) % 101).toNat := ⟨_, rfl⟩; rw [← hnn])
    | (obtain ⟨nn, hnn⟩ : ∃ nn : Nat, nn = (n % 101).toNat := ⟨_, rfl⟩; rw [← hnn])
    refine Rg.assign rfl rfl ?_
    have hn101 : nn ≤ 1000 := by omega
    refine Rg.nil ?_
    refine T.seq ?_
    refine T.region ?_ -- region 6
    refine Rg.move rfl rfl ?_
    refine Rg.move rfl rfl ?_
    refine Rg.call rfl rfl E6 (And_spec hM2 hx2 hy2 ox oy (by omega)) (fun r3 w3 h => ?_)
    obtain ⟨h3, s3⟩ := h
    have hM3 := s3.lt hM2
    have rx' := rx.wide (m' := 1000) (by decide)
    have ry' := ry.wide (m' := 1000) (by decide)
    refine Rg.move rfl rfl ?_
    refine Rg.move rfl rfl ?_
    refine Rg.call rfl rfl E11 (Join13_spec (orr := false) hM3 (hx2.le s3.le) (hy2.le s3.le) rx' ry') (fun r4 w4 h => ?_)
    obtain ⟨⟨mo, b1, b2, b3, h4⟩, s4⟩ := h
    have hM4 := s4.lt hM3
    have e4 : ofP 2 x y = outL 2 x y 0 mo := join_eq (by decide) rx' ry' b1 b2 b3
    refine Rg.call rfl rfl E10 (Same13_spec hM4 (h3.le s4.le) h4) (fun r5 w5 h => ?_)
    obtain ⟨rfl, s5⟩ := h
    have hM5 := s5.lt hM4
    refine Rg.eqv (v' := .bool (decide True)) (congrArg _ (decide_eq_decide.2 (by simp only [Bool.false_eq_true, if_false, iff_true]; exact e4))) ?_
    have S5 := ((S2.trans0 s3).trans0 s4).trans0 s5
    have hx5 := ((hx2.le s3.le).le s4.le).le s5.le
    have hy5 := ((hy2.le s3.le).le s4.le).le s5.le
    refine Rg.move rfl rfl ?_
    refine Rg.gtrue (g := 27) rfl (trivial) ?_
    refine Rg.gyes rfl rfl ?_
    refine Rg.move rfl rfl ?_
    refine Rg.gyes rfl rfl ?_
    refine Rg.move rfl rfl ?_
    refine Rg.gyes rfl rfl ?_
    refine Rg.call rfl rfl E8 (Or_spec hM5 hx5 hy5 ox oy (by omega)) (fun r6 w6 h => ?_)
    obtain ⟨h6, s6⟩ := h
    have hM6 := s6.lt hM5
    refine Rg.gyes rfl rfl ?_
    refine Rg.move rfl rfl ?_
    refine Rg.gyes rfl rfl ?_
    refine Rg.move rfl rfl ?_
    refine Rg.gyes rfl rfl ?_
    refine Rg.call rfl rfl E11 (Join13_spec (orr := true) hM6 (hx5.le s6.le) (hy5.le s6.le) rx' ry') (fun r7 w7 h => ?_)
    obtain ⟨⟨mo2, c1, c2, c3, h7⟩, s7⟩ := h
    have hM7 := s7.lt hM6
    have e7 : ofP 1 x y = outL 1 x y 0 mo2 := join_eq (by decide) rx' ry' c1 c2 c3
    refine Rg.gyes rfl rfl ?_
    refine Rg.call rfl rfl E10 (Same13_spec hM7 (h6.le s7.le) h7) (fun r8 w8 h => ?_)
    obtain ⟨rfl, s8⟩ := h
    have hM8 := s8.lt hM7
    refine Rg.eqv (v' := .bool (decide True)) (congrArg _ (decide_eq_decide.2 (by simp only [if_true, iff_true]; exact e7))) ?_
    have S8 := ((S5.trans0 s6).trans0 s7).trans0 s8
    have hx8 := ((hx5.le s6.le).le s7.le).le s8.le
    have t8 := s8.same0 (s7.same0 (s6.same0 (s5.same0 (s4.same0 (s3.same0 t2)))))
    refine Rg.pickt rfl rfl rfl ?_
    refine Rg.move rfl rfl ?_
    refine Rg.gtrue (g := 36) rfl (trivial) ?_
    refine Rg.gyes rfl rfl ?_
    refine Rg.move rfl rfl ?_
    refine Rg.gyes rfl rfl ?_
    refine Rg.move rfl rfl ?_
    refine Rg.gyes rfl rfl ?_
    refine Rg.call rfl rfl E7 (Not_spec (n := nn) hM8 hx8 (by omega) hM0 ⟨_, _, t8⟩) (fun r9 w9 h => ?_)
    obtain ⟨h9, s9⟩ := h
    have hM9 := s9.lt hM8
    refine Rg.gyes rfl rfl ?_
    refine Rg.move rfl rfl ?_
    refine Rg.gyes rfl rfl ?_
    refine Rg.move rfl rfl ?_
    refine Rg.gyes rfl rfl ?_
    refine Rg.call rfl rfl E12 (rNot13_spec (n := nn) hM9 (hx8.le s9.le) (by omega)) (fun r10 w10 h => ?_)
    obtain ⟨h10, s10⟩ := h
    have hM10 := s10.lt hM9
    refine Rg.gyes rfl rfl ?_
    refine Rg.call rfl rfl E10 (Same13_spec hM10 (h9.le s10.le) h10) (fun r11 w11 h => ?_)
    obtain ⟨rfl, s11⟩ := h
    have hM11 := s11.lt hM10
    refine Rg.eqv (v' := .bool (decide True)) (congrArg _ (decide_eq_decide.2 (by simp only [iff_true]))) ?_
    have S11 := ((S8.trans0 s9).trans0 s10).trans0 s11
    have hx11 := ((hx8.le s9.le).le s10.le).le s11.le
    refine Rg.pickt rfl rfl rfl ?_
    refine Rg.move rfl rfl ?_
    refine Rg.gtrue (g := 45) rfl (trivial) ?_
    refine Rg.gyes rfl rfl ?_
    refine Rg.move rfl rfl ?_
    refine Rg.gyes rfl rfl ?_
    refine Rg.call rfl rfl E13 (Count_spec hx11) (fun r wc h => ?_)
    obtain ⟨rfl, rfl⟩ := h
    refine Rg.gyes rfl rfl ?_
    refine Rg.move rfl rfl ?_
    refine Rg.gyes rfl rfl ?_
    refine Rg.lensl Tryd.underlying22 rfl hx11 rfl ?_
    refine Rg.gyes rfl rfl ?_
    refine Rg.ieq rfl rfl rfl ?_
    refine Rg.pickt rfl rfl rfl ?_
    refine Rg.move rfl rfl ?_
    refine Rg.gtrue (g := 52) rfl (rfl) ?_
    refine Rg.gyes rfl rfl ?_
    refine Rg.call rfl rfl E9 (lives13_spec (M := M) hM11) (fun rL wL h => ?_)
    obtain ⟨rfl, sL⟩ := h
    refine Rg.pickt rfl rfl rfl ?_
    refine Rg.assign rfl rfl ?_
    refine Rg.nil ?_
    refine T.ret ?_
    exact Kret1 rfl rfl ⟨rfl, S11.trans0 sL⟩
  · -- c3 False
    refine T.skip ?_
    refine T.seq ?_
    refine T.region ?_ -- region 5
    refine Rg.move rfl rfl ?_
    refine Rg.imod rfl rfl rfl (by omega) ?_
    first
    | refine Rg.eqv (v' := .int .i64 (((-(n + 1)) % 101).toNat : Nat)) (congrArg _ (by omega)) ?_
    | refine Rg.eqv (v' := .int .i64 ((n % 101).toNat : Nat)) (congrArg _ (by omega)) ?_

    first
    | (obtain ⟨nn, hnn⟩ : ∃ nn : Nat, nn = ((-(n + 1)) % 101).toNat := ⟨_, rfl⟩; rw [← hnn])
    | (obtain ⟨nn, hnn⟩ : ∃ nn : Nat, nn = (n % 101).toNat := ⟨_, rfl⟩; rw [← hnn])
    refine Rg.assign rfl rfl ?_
    have hn101 : nn ≤ 1000 := by omega
    refine Rg.nil ?_
    refine T.seq ?_
    refine T.region ?_ -- region 6
    refine Rg.move rfl rfl ?_
    refine Rg.move rfl rfl ?_
    refine Rg.call rfl rfl E6 (And_spec hM2 hx2 hy2 ox oy (by omega)) (fun r3 w3 h => ?_)
    obtain ⟨h3, s3⟩ := h
    have hM3 := s3.lt hM2
    have rx' := rx.wide (m' := 1000) (by decide)
    have ry' := ry.wide (m' := 1000) (by decide)
    refine Rg.move rfl rfl ?_
    refine Rg.move rfl rfl ?_
    refine Rg.call rfl rfl E11 (Join13_spec (orr := false) hM3 (hx2.le s3.le) (hy2.le s3.le) rx' ry') (fun r4 w4 h => ?_)
    obtain ⟨⟨mo, b1, b2, b3, h4⟩, s4⟩ := h
    have hM4 := s4.lt hM3
    have e4 : ofP 2 x y = outL 2 x y 0 mo := join_eq (by decide) rx' ry' b1 b2 b3
    refine Rg.call rfl rfl E10 (Same13_spec hM4 (h3.le s4.le) h4) (fun r5 w5 h => ?_)
    obtain ⟨rfl, s5⟩ := h
    have hM5 := s5.lt hM4
    refine Rg.eqv (v' := .bool (decide True)) (congrArg _ (decide_eq_decide.2 (by simp only [Bool.false_eq_true, if_false, iff_true]; exact e4))) ?_
    have S5 := ((S2.trans0 s3).trans0 s4).trans0 s5
    have hx5 := ((hx2.le s3.le).le s4.le).le s5.le
    have hy5 := ((hy2.le s3.le).le s4.le).le s5.le
    refine Rg.move rfl rfl ?_
    refine Rg.gtrue (g := 27) rfl (trivial) ?_
    refine Rg.gyes rfl rfl ?_
    refine Rg.move rfl rfl ?_
    refine Rg.gyes rfl rfl ?_
    refine Rg.move rfl rfl ?_
    refine Rg.gyes rfl rfl ?_
    refine Rg.call rfl rfl E8 (Or_spec hM5 hx5 hy5 ox oy (by omega)) (fun r6 w6 h => ?_)
    obtain ⟨h6, s6⟩ := h
    have hM6 := s6.lt hM5
    refine Rg.gyes rfl rfl ?_
    refine Rg.move rfl rfl ?_
    refine Rg.gyes rfl rfl ?_
    refine Rg.move rfl rfl ?_
    refine Rg.gyes rfl rfl ?_
    refine Rg.call rfl rfl E11 (Join13_spec (orr := true) hM6 (hx5.le s6.le) (hy5.le s6.le) rx' ry') (fun r7 w7 h => ?_)
    obtain ⟨⟨mo2, c1, c2, c3, h7⟩, s7⟩ := h
    have hM7 := s7.lt hM6
    have e7 : ofP 1 x y = outL 1 x y 0 mo2 := join_eq (by decide) rx' ry' c1 c2 c3
    refine Rg.gyes rfl rfl ?_
    refine Rg.call rfl rfl E10 (Same13_spec hM7 (h6.le s7.le) h7) (fun r8 w8 h => ?_)
    obtain ⟨rfl, s8⟩ := h
    have hM8 := s8.lt hM7
    refine Rg.eqv (v' := .bool (decide True)) (congrArg _ (decide_eq_decide.2 (by simp only [if_true, iff_true]; exact e7))) ?_
    have S8 := ((S5.trans0 s6).trans0 s7).trans0 s8
    have hx8 := ((hx5.le s6.le).le s7.le).le s8.le
    have t8 := s8.same0 (s7.same0 (s6.same0 (s5.same0 (s4.same0 (s3.same0 t2)))))
    refine Rg.pickt rfl rfl rfl ?_
    refine Rg.move rfl rfl ?_
    refine Rg.gtrue (g := 36) rfl (trivial) ?_
    refine Rg.gyes rfl rfl ?_
    refine Rg.move rfl rfl ?_
    refine Rg.gyes rfl rfl ?_
    refine Rg.move rfl rfl ?_
    refine Rg.gyes rfl rfl ?_
    refine Rg.call rfl rfl E7 (Not_spec (n := nn) hM8 hx8 (by omega) hM0 ⟨_, _, t8⟩) (fun r9 w9 h => ?_)
    obtain ⟨h9, s9⟩ := h
    have hM9 := s9.lt hM8
    refine Rg.gyes rfl rfl ?_
    refine Rg.move rfl rfl ?_
    refine Rg.gyes rfl rfl ?_
    refine Rg.move rfl rfl ?_
    refine Rg.gyes rfl rfl ?_
    refine Rg.call rfl rfl E12 (rNot13_spec (n := nn) hM9 (hx8.le s9.le) (by omega)) (fun r10 w10 h => ?_)
    obtain ⟨h10, s10⟩ := h
    have hM10 := s10.lt hM9
    refine Rg.gyes rfl rfl ?_
    refine Rg.call rfl rfl E10 (Same13_spec hM10 (h9.le s10.le) h10) (fun r11 w11 h => ?_)
    obtain ⟨rfl, s11⟩ := h
    have hM11 := s11.lt hM10
    refine Rg.eqv (v' := .bool (decide True)) (congrArg _ (decide_eq_decide.2 (by simp only [iff_true]))) ?_
    have S11 := ((S8.trans0 s9).trans0 s10).trans0 s11
    have hx11 := ((hx8.le s9.le).le s10.le).le s11.le
    refine Rg.pickt rfl rfl rfl ?_
    refine Rg.move rfl rfl ?_
    refine Rg.gtrue (g := 45) rfl (trivial) ?_
    refine Rg.gyes rfl rfl ?_
    refine Rg.move rfl rfl ?_
    refine Rg.gyes rfl rfl ?_
    refine Rg.call rfl rfl E13 (Count_spec hx11) (fun r wc h => ?_)
    obtain ⟨rfl, rfl⟩ := h
    refine Rg.gyes rfl rfl ?_
    refine Rg.move rfl rfl ?_
    refine Rg.gyes rfl rfl ?_
    refine Rg.lensl Tryd.underlying22 rfl hx11 rfl ?_
    refine Rg.gyes rfl rfl ?_
    refine Rg.ieq rfl rfl rfl ?_
    refine Rg.pickt rfl rfl rfl ?_
    refine Rg.move rfl rfl ?_
    refine Rg.gtrue (g := 52) rfl (rfl) ?_
    refine Rg.gyes rfl rfl ?_
    refine Rg.call rfl rfl E9 (lives13_spec (M := M) hM11) (fun rL wL h => ?_)
    obtain ⟨rfl, sL⟩ := h
    refine Rg.pickt rfl rfl rfl ?_
    refine Rg.assign rfl rfl ?_
    refine Rg.nil ?_
    refine T.ret ?_
    exact Kret1 rfl rfl ⟨rfl, S11.trans0 sL⟩

end Go.K

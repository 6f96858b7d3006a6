/- The walks of Go functions, operation by operation. -/
import Derived.Test.YtgpmihcdjmjfoaaDoorKTypes
import Derived.Test.YtgpmihcdjmjfoaaDoorKNum
import Derived.Test.YtgpmihcdjmjfoaaDoorKBits
import Derived.Test.YtgpmihcdjmjfoaaDoorKStr2
import Derived.Test.YtgpmihcdjmjfoaaDoorKMatch
import Derived.Test.YtgpmihcdjmjfoaaDoorKSides
import Derived.Test.YtgpmihcdjmjfoaaDoorKJoin
import Derived.Test.YtgpmihcdjmjfoaaDoorKDraw
import Derived.Test.YtgpmihcdjmjfoaaDoorKSearch
import Derived.Test.YtgpmihcdjmjfoaaDoorKSides2
import Derived.Test.YtgpmihcdjmjfoaaDoorKSide
import Derived.Test.YtgpmihcdjmjfoaaDoorKOf
import Derived.Test.YtgpmihcdjmjfoaaDoorKMNot
import Derived.Test.YtgpmihcdjmjfoaaDoorKRef13
import Derived.Test.YtgpmihcdjmjfoaaDoorKJoin13
import Derived.Test.YtgpmihcdjmjfoaaDoorProg
import Derived.KernelRfl
namespace Go.K
open Go.Proofs
namespace TKLives13
theorem I26 : TI Tryd.prog 26 (.agg #[(.int .i64 0), (.int .i64 0)]) 2 16 := by unfold TI; kernel_rfl -- api.Found
theorem I40 : TI Tryd.prog 40 (.slice none 0 0) 1 24 := by unfold TI; kernel_rfl -- []int
theorem B26 : placesOf Tryd.prog 26 = [(0, 1), (1, 1)].map some := by kernel_rfl
theorem E6 : Enters Tryd.prog 6 := enters Tryd.func6 rfl (by decide) -- concordance/match.And
theorem E18 : Enters Tryd.prog 18 := enters Tryd.func18 rfl (by decide) -- concordance/match.Side
end TKLives13
open TKLives13
set_option linter.unusedVariables false
set_option linter.unusedSimpArgs false
set_option maxRecDepth 10000

/-- 'concordance/concordancelaw13.lives' -/
theorem lives13_spec {M : PSet} {w0 : World} (hM : Lt M w0) :
    Spec Tryd.prog 9 #[] w0 (fun v' w' => v' = .bool true ∧ Step M w0 M w' none') := by
  refine spec_of (args := []) (fn := Tryd.f9) Tryd.func9 rfl (n := 25) Tryd.ntmps9 ?_
  refine T.seq ?_
  refine T.region ?_ -- region 0
  refine Rg.assign rfl rfl ?_
  refine Rg.nil ?_
  refine T.seq ?_
  refine T.region ?_ -- region 1
  refine Rg.build (places := [(0, 1), (1, 1)]) Tryd.underlying26 I26 B26 rfl ⟨_, _, rfl, rfl, _, _, rfl, rfl, rfl⟩ (out := [_, _]) ⟨0, [_], rfl, rfl, by simp [Value.cells], 1, [_], rfl, rfl, by simp [Value.cells], rfl⟩ ?_
  refine Rg.build (places := [(0, 1), (1, 1)]) Tryd.underlying26 I26 B26 rfl ⟨_, _, rfl, rfl, _, _, rfl, rfl, rfl⟩ (out := [_, _]) ⟨0, [_], rfl, rfl, by simp [Value.cells], 1, [_], rfl, rfl, by simp [Value.cells], rfl⟩ ?_
  refine Rg.sln (A := RT.fo) (hn := by decide) (M := M) (xs := [(1, 2), (3, 1)]) Tryd.underlying22 I26 rfl (by decide) rfl ⟨_, _, _, rfl, rfl, rfl, V_fo (a := 1) (b := 2) (by omega) (by omega), _, _, _, rfl, rfl, rfl, V_fo (a := 3) (b := 1) (by omega) (by omega), rfl⟩ rfl hM (.inl rfl) (by decide) (fun u1 w1 hu1 s1 => ?_)
  have hM1 := s1.lt hM
  refine Rg.build (places := [(0, 1), (1, 1)]) Tryd.underlying26 I26 B26 rfl ⟨_, _, rfl, rfl, _, _, rfl, rfl, rfl⟩ (out := [_, _]) ⟨0, [_], rfl, rfl, by simp [Value.cells], 1, [_], rfl, rfl, by simp [Value.cells], rfl⟩ ?_
  refine Rg.sl1 (A := RT.fo) (hn := by decide) (M := M) Tryd.underlying22 I26 (by decide) rfl rfl hM1 (V_fo (a := 3) (b := 4) (by omega) (by omega)) (.inl rfl) (fun u2 w2 hu2 s2 => ?_)
  have hM2 := s2.lt hM1
  refine Rg.call rfl rfl E6 (And_spec hM2 (hu1.le s2.le) hu2 (by intro p hp; simp at hp; rcases hp with rfl | rfl <;> decide) (by intro p hp; simp at hp; subst hp; decide) (by decide)) (fun u3 w3 h => ?_)
  obtain ⟨h3, s3⟩ := h
  have hM3 := s3.lt hM2
  replace h3 : ((RT.fo).sl).V M w3 [(3, 5)] u3 := by
    have e : ofP 2 [(1, 2), (3, 1)] [(3, 4)] = [(3, 5)] := by decide
    rw [← e]; exact h3
  refine Rg.assign rfl rfl ?_
  refine Rg.nil ?_
  refine T.seq ?_
  refine T.region ?_ -- region 2
  refine Rg.move rfl rfl ?_
  refine Rg.lensl Tryd.underlying22 rfl h3 rfl ?_
  refine Rg.ieq rfl rfl rfl ?_
  refine Rg.move rfl rfl ?_
  refine Rg.gtrue (g := 11) rfl (rfl) ?_
  refine Rg.gyes rfl rfl ?_
  refine Rg.move rfl rfl ?_
  refine Rg.gyes rfl rfl ?_
  have hl1 : ([((3 : Int), (5 : Int))] : List Fo).length = 1 := rfl
  refine Rg.idx (M := M) Tryd.underlying22 I26 rfl rfl rfl (h3) (Le.refl _ _) (by omega) (fun u2_5 a2_5 hg2_5 hu2_5 => ?_)
  obtain rfl : ((3 : Int), (5 : Int)) = a2_5 := Eq.symm (Option.some.inj (hg2_5.symm.trans rfl))
  refine Rg.gyes rfl rfl ?_
  refine Rg.loadagg (M := M) (A := RT.fo) Tryd.underlying26 rfl I26 (by decide) rfl rfl rfl hu2_5 (Le.refl _ _) (fun v26 hv26 => ?_)
  obtain rfl := fo_val hv26
  refine Rg.gyes rfl rfl ?_
  refine Rg.build (places := [(0, 1), (1, 1)]) Tryd.underlying26 I26 B26 rfl ⟨_, _, rfl, rfl, _, _, rfl, rfl, rfl⟩ (out := [_, _]) ⟨0, [_], rfl, rfl, by simp [Value.cells], 1, [_], rfl, rfl, by simp [Value.cells], rfl⟩ ?_
  refine Rg.gyes rfl rfl ?_
  refine Rg.aggeq (c := true) (fun w => by kernel_rfl) (fun w => by kernel_rfl) rfl rfl rfl ?_
  refine Rg.eqv (v' := .bool (decide True)) (by simp) ?_
  refine Rg.pickt rfl rfl rfl ?_
  refine Rg.move rfl rfl ?_
  refine Rg.gtrue (g := 18) rfl (trivial) ?_
  refine Rg.gyes rfl rfl ?_
  refine Rg.sln (A := RT.int .i64) (hn := by decide) (M := M) (xs := [0, 4]) Tryd.underlying40 I3 rfl (by decide) rfl ⟨0, [4], _, rfl, rfl, rfl, V_i64 (by omega), 4, [], _, rfl, rfl, rfl, V_i64 (by omega), rfl⟩ rfl hM3 (.inr ⟨rfl, rfl⟩) (by decide) (fun u4 w4 hu4 s4 => ?_)
  have hM4 := s4.lt hM3
  refine Rg.gyes rfl rfl ?_
  refine Rg.sl1 (A := RT.int .i64) (hn := by decide) (M := M) Tryd.underlying40 I3 (by decide) rfl rfl hM4 (V_i64 (x := 1) (by omega)) (.inr ⟨rfl, rfl⟩) (fun u5 w5 hu5 s5 => ?_)
  have hM5 := s5.lt hM4
  refine Rg.gyes rfl rfl ?_
  refine Rg.sln (A := (RT.int .i64).sl) (hn := by decide) (M := M) (xs := [[0, 4], [1]]) Tryd.underlying41 I40 rfl (by decide) rfl ⟨_, _, _, rfl, rfl, rfl, hu4.le s5.le, _, _, _, rfl, rfl, rfl, hu5, rfl⟩ rfl hM5 (.inr ⟨rfl, rfl⟩) (by decide) (fun u6 w6 hu6 s6 => ?_)
  refine Rg.gyes rfl rfl ?_
  refine Rg.call rfl rfl E18 (Side_spec hu6 (by intro l hl; simp at hl; rcases hl with rfl | rfl <;> exact ⟨by decide, by decide, by decide⟩) (by decide)) (fun r w h => ?_)
  obtain ⟨rfl, rfl⟩ := h
  refine Rg.eqv (v' := .int .i64 1) (congrArg (Value.int .i64) (show ((sideC [[0, 4], [1]] : Nat) : Int) = 1 by decide)) ?_
  refine Rg.gyes rfl rfl ?_
  refine Rg.ieq rfl rfl rfl ?_
  refine Rg.pickt rfl rfl rfl ?_
  refine Rg.assign rfl rfl ?_
  refine Rg.nil ?_
  refine T.ret ?_
  exact Kret1 rfl rfl ⟨rfl, (((((s1.trans0 s2).trans0 s3).trans0 s4).trans0 s5).trans0 s6)⟩

end Go.K

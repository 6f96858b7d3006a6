/- The walks of Go functions, operation by operation. -/
import Derived.Test.YtgpmihcdjmjfoaaKTypes
import Derived.Test.YtgpmihcdjmjfoaaKNum
import Derived.Test.YtgpmihcdjmjfoaaKPost
import Derived.Test.YtgpmihcdjmjfoaaKRef04
import Derived.Test.YtgpmihcdjmjfoaaKMatch
import Derived.Test.YtgpmihcdjmjfoaaKSides
import Derived.Test.YtgpmihcdjmjfoaaKDraw
import Derived.Test.YtgpmihcdjmjfoaaKSearch
import Derived.Test.YtgpmihcdjmjfoaaKSides2
import Derived.Test.YtgpmihcdjmjfoaaKSide
import Derived.Test.YtgpmihcdjmjfoaaKOf
import Derived.Test.YtgpmihcdjmjfoaaProg
import Derived.KernelRfl
namespace Go.K
open Go.Proofs
namespace TKLaw13
theorem I23 : TI Try.prog 23 (.slice none 0 0) 1 24 := by unfold TI; kernel_rfl -- []int
theorem I73 : TI Try.prog 73 (.agg #[(.int .i64 0), (.int .i64 0)]) 2 16 := by unfold TI; kernel_rfl -- api.Found
theorem B73 : placesOf Try.prog 73 = [(0, 1), (1, 1)].map some := by kernel_rfl
theorem E14 : Enters Try.prog 14 := enters Try.func14 rfl (by decide) -- concordance/concordanceref04.Good
theorem E15 : Enters Try.prog 15 := enters Try.func15 rfl (by decide) -- concordance/match.Side
theorem E16 : Enters Try.prog 16 := enters Try.func16 rfl (by decide) -- concordance/concordanceref13.Side
theorem E17 : Enters Try.prog 17 := enters Try.func17 rfl (by decide) -- concordance/concordancelaw13.lives
theorem E49 : Enters Try.prog 49 := enters Try.func49 rfl (by decide) -- concordance/match.And
end TKLaw13
open TKLaw13
set_option linter.unusedVariables false
set_option linter.unusedSimpArgs false
set_option maxRecDepth 10000

theorem tmod3 (x : Int) : -3 < x.tmod 3 ∧ x.tmod 3 < 3 := by
  have h1 := Int.tmod_lt_of_pos x (b := 3) (by decide)
  have h2 := Int.tmod_lt_of_pos (-x) (b := 3) (by decide)
  rw [Int.neg_tmod] at h2
  omega
/-- 'concordance/concordancelaw13.lives' -/
theorem lives13_spec {M : PSet} {w0 : World} (hM : Lt M w0) :
    Spec Try.prog 17 #[] w0 (fun v' w' => v' = .bool true ∧ Step M w0 M w' none') := by
  refine spec_of (args := []) (fn := Try.f17) Try.func17 rfl (n := 25) Try.ntmps17 ?_
  refine T.seq ?_
  refine T.region ?_ -- region 0
  refine Rg.assign rfl rfl ?_
  refine Rg.nil ?_
  refine T.seq ?_
  refine T.region ?_ -- region 1
  refine Rg.build (places := [(0, 1), (1, 1)]) Try.underlying73 I73 B73 rfl ⟨_, _, rfl, rfl, _, _, rfl, rfl, rfl⟩ (out := [_, _]) ⟨0, [_], rfl, rfl, by simp [Value.cells], 1, [_], rfl, rfl, by simp [Value.cells], rfl⟩ ?_
  refine Rg.build (places := [(0, 1), (1, 1)]) Try.underlying73 I73 B73 rfl ⟨_, _, rfl, rfl, _, _, rfl, rfl, rfl⟩ (out := [_, _]) ⟨0, [_], rfl, rfl, by simp [Value.cells], 1, [_], rfl, rfl, by simp [Value.cells], rfl⟩ ?_
  refine Rg.sln (A := RT.fo) (hn := by decide) (M := M) (xs := [(1, 2), (3, 1)]) Try.underlying70 I73 rfl (by decide) rfl ⟨_, _, _, rfl, rfl, rfl, V_fo (a := 1) (b := 2) (by omega) (by omega), _, _, _, rfl, rfl, rfl, V_fo (a := 3) (b := 1) (by omega) (by omega), rfl⟩ rfl hM (.inl rfl) (by decide) (fun u1 w1 hu1 s1 => ?_)
  have hM1 := s1.lt hM
  refine Rg.build (places := [(0, 1), (1, 1)]) Try.underlying73 I73 B73 rfl ⟨_, _, rfl, rfl, _, _, rfl, rfl, rfl⟩ (out := [_, _]) ⟨0, [_], rfl, rfl, by simp [Value.cells], 1, [_], rfl, rfl, by simp [Value.cells], rfl⟩ ?_
  refine Rg.sl1 (A := RT.fo) (hn := by decide) (M := M) Try.underlying70 I73 (by decide) rfl rfl hM1 (V_fo (a := 3) (b := 4) (by omega) (by omega)) (.inl rfl) (fun u2 w2 hu2 s2 => ?_)
  have hM2 := s2.lt hM1
  refine Rg.call rfl rfl E49 (And_spec hM2 (hu1.le s2.le) hu2 (by intro p hp; simp at hp; rcases hp with rfl | rfl <;> decide) (by intro p hp; simp at hp; subst hp; decide) (by decide)) (fun u3 w3 h => ?_)
  obtain ⟨h3, s3⟩ := h
  have hM3 := s3.lt hM2
  replace h3 : ((RT.fo).sl).V M w3 [(3, 5)] u3 := by
    have e : ofP 2 [(1, 2), (3, 1)] [(3, 4)] = [(3, 5)] := by decide
    rw [← e]; exact h3
  refine Rg.assign rfl rfl ?_
  refine Rg.nil ?_
  refine T.seq ?_
  refine T.region ?_ -- region 2
  refine Rg.move rfl rfl ?_
  refine Rg.lensl Try.underlying70 rfl h3 rfl ?_
  refine Rg.ieq rfl rfl rfl ?_
  refine Rg.move rfl rfl ?_
  refine Rg.gtrue (g := 11) rfl (rfl) ?_
  refine Rg.gyes rfl rfl ?_
  refine Rg.move rfl rfl ?_
  refine Rg.gyes rfl rfl ?_
  have hl1 : ([((3 : Int), (5 : Int))] : List Fo).length = 1 := rfl
  refine Rg.idx (M := M) Try.underlying70 I73 rfl rfl rfl (h3) (Le.refl _ _) (by omega) (fun u2_5 a2_5 hg2_5 hu2_5 => ?_)
  obtain rfl : ((3 : Int), (5 : Int)) = a2_5 := Eq.symm (Option.some.inj (hg2_5.symm.trans rfl))
  refine Rg.gyes rfl rfl ?_
  refine Rg.loadagg (M := M) (A := RT.fo) Try.underlying73 rfl I73 (by decide) rfl rfl rfl hu2_5 (Le.refl _ _) (fun v26 hv26 => ?_)
  obtain rfl := fo_val hv26
  refine Rg.gyes rfl rfl ?_
  refine Rg.build (places := [(0, 1), (1, 1)]) Try.underlying73 I73 B73 rfl ⟨_, _, rfl, rfl, _, _, rfl, rfl, rfl⟩ (out := [_, _]) ⟨0, [_], rfl, rfl, by simp [Value.cells], 1, [_], rfl, rfl, by simp [Value.cells], rfl⟩ ?_
  refine Rg.gyes rfl rfl ?_
  refine Rg.aggeq (c := true) (fun w => by kernel_rfl) (fun w => by kernel_rfl) rfl rfl rfl ?_
  refine Rg.eqv (v' := .bool (decide True)) (by simp) ?_
  refine Rg.pickt rfl rfl rfl ?_
  refine Rg.move rfl rfl ?_
  refine Rg.gtrue (g := 18) rfl (trivial) ?_
  refine Rg.gyes rfl rfl ?_
  refine Rg.sln (A := RT.int .i64) (hn := by decide) (M := M) (xs := [0, 4]) Try.underlying23 I3 rfl (by decide) rfl ⟨0, [4], _, rfl, rfl, rfl, V_i64 (by omega), 4, [], _, rfl, rfl, rfl, V_i64 (by omega), rfl⟩ rfl hM3 (.inr ⟨rfl, rfl⟩) (by decide) (fun u4 w4 hu4 s4 => ?_)
  have hM4 := s4.lt hM3
  refine Rg.gyes rfl rfl ?_
  refine Rg.sl1 (A := RT.int .i64) (hn := by decide) (M := M) Try.underlying23 I3 (by decide) rfl rfl hM4 (V_i64 (x := 1) (by omega)) (.inr ⟨rfl, rfl⟩) (fun u5 w5 hu5 s5 => ?_)
  have hM5 := s5.lt hM4
  refine Rg.gyes rfl rfl ?_
  refine Rg.sln (A := (RT.int .i64).sl) (hn := by decide) (M := M) (xs := [[0, 4], [1]]) Try.underlying22 I23 rfl (by decide) rfl ⟨_, _, _, rfl, rfl, rfl, hu4.le s5.le, _, _, _, rfl, rfl, rfl, hu5, rfl⟩ rfl hM5 (.inr ⟨rfl, rfl⟩) (by decide) (fun u6 w6 hu6 s6 => ?_)
  refine Rg.gyes rfl rfl ?_
  refine Rg.call rfl rfl E15 (Side_spec hu6 (by intro l hl; simp at hl; rcases hl with rfl | rfl <;> exact ⟨by decide, by decide, by decide⟩) (by decide)) (fun r w h => ?_)
  obtain ⟨rfl, rfl⟩ := h
  refine Rg.eqv (v' := .int .i64 1) (congrArg (Value.int .i64) (show ((sideC [[0, 4], [1]] : Nat) : Int) = 1 by decide)) ?_
  refine Rg.gyes rfl rfl ?_
  refine Rg.ieq rfl rfl rfl ?_
  refine Rg.pickt rfl rfl rfl ?_
  refine Rg.assign rfl rfl ?_
  refine Rg.nil ?_
  refine T.ret ?_
  exact Kret1 rfl rfl ⟨rfl, (((((s1.trans0 s2).trans0 s3).trans0 s4).trans0 s5).trans0 s6)⟩

/-- 'concordance/concordancelaw13.MatchSides' -/
theorem MatchSides_spec {M : PSet} {w0 : World} {v : Value} {l : List (List Int)} (hM : Lt M w0) (hv : (((RT.int .i64).sl).sl).V M w0 l v) :
    Spec Try.prog 3 #[v] w0 (fun v' w' => v' = .bool true ∧ Step M w0 M w' none') := by
  have hlen := V_sl_len hv
  refine spec_of (args := [v]) (fn := Try.f3) Try.func3 rfl (n := 58) Try.ntmps3 ?_
  refine T.seq ?_
  refine T.region ?_ -- region 0
  refine Rg.assign rfl rfl ?_
  refine Rg.nil ?_
  refine T.seq ?_
  refine T.region ?_ -- region 1
  refine Rg.assign rfl rfl ?_
  refine Rg.nil ?_
  refine T.seq ?_
  refine T.seq ?_
  refine T.region ?_ -- region 2
  refine Rg.assign rfl rfl ?_
  refine Rg.nil ?_
  refine T.block ?_
  refine T.loop (σ := Nat × Value × List (List Int)) (fun s => [(0, v), (3, s.2.1), (4, .int .i64 s.1)]) (fun s w => s.1 ≤ 5 ∧ s.1 ≤ l.length ∧ s.2.2.length ≤ 5 ∧ s.2.2.length = s.1 ∧ (∀ x ∈ s.2.2, GoodL x) ∧ ∃ M1, Lt M1 w ∧ Step M w0 M1 w none' ∧ Own ((RT.int .i64).sl) 23 M1 w w0.heap.size s.2.1 s.2.2) (fun s => 5 - s.1) (0, _, []) (.cons rfl (.cons rfl (.cons rfl .nil))) ?_ ?_ -- loop 0
  · exact ⟨Nat.zero_le _, Nat.zero_le _, Nat.zero_le _, rfl, (fun x hx => by (cases hx)), M, hM, Step.refl _ _, Own.nil _ _ _ _ _⟩
  · rintro ⟨i, u0, gs⟩ wr ⟨hi5, hil, hgl5, hgi, hga, M1, hM1, S, hog⟩
    dsimp only at hi5 hil hgl5 hgi hga hog ⊢
    refine T.seq ?_
    refine T.seq ?_
    refine T.region ?_ -- region 3
    refine Rg.move rfl rfl ?_
    refine Rg.move rfl rfl ?_
    refine Rg.lensl Try.underlying22 rfl hv rfl ?_
    refine Rg.ilt rfl rfl rfl ?_
    refine Rg.move rfl rfl ?_
    refine Rg.gsplitp (g := 11) rfl (fun g3_4 => ?_) (fun g3_4 => ?_)
    · -- g3_4 True
      refine Rg.gyes rfl rfl ?_
      refine Rg.move rfl rfl ?_
      refine Rg.gyes rfl rfl ?_
      refine Rg.ilt rfl rfl rfl ?_
      refine Rg.pickt rfl rfl rfl ?_
      refine Rg.nil ?_
      refine T.ifp rfl (fun c3 => ?_) (fun c3 => ?_)
      · -- c3 True

        refine T.skip ?_
        refine T.seq ?_
        refine T.block ?_
        refine T.seq ?_
        refine T.region ?_ -- region 5
        refine Rg.assign rfl rfl ?_
        refine Rg.nil ?_
        refine T.seq ?_
        refine T.seq ?_
        refine T.region ?_ -- region 6
        refine Rg.assign rfl rfl ?_
        refine Rg.nil ?_
        refine T.block ?_
        obtain ⟨li, hli⟩ : ∃ x, l[i]? = some x := ⟨_, List.getElem?_eq_getElem (by omega)⟩
        refine T.loop (σ := Nat × Value × List Int) (fun s => [(0, v), (3, u0), (4, .int .i64 i), (5, s.2.1), (6, .int .i64 s.1)]) (fun s w => s.1 ≤ 12 ∧ s.1 ≤ li.length ∧ s.2.2.length = s.1 ∧ ∃ M2, Lt M2 w ∧ Step M1 wr M2 w none' ∧ Own (RT.int .i64) 3 M2 w wr.heap.size s.2.1 s.2.2) (fun s => 12 - s.1) (0, _, []) (.cons rfl (.cons rfl (.cons rfl (.cons rfl (.cons rfl .nil))))) ?_ ?_ -- loop 1
        · exact ⟨Nat.zero_le _, Nat.zero_le _, rfl, M1, hM1, Step.refl _ _, Own.nil _ _ _ _ _⟩
        · rintro ⟨k, u1, acc⟩ w4 ⟨hk12, hk, hacc, M2, hM2, S2, ho⟩
          dsimp only at hk12 hk hacc ho ⊢
          refine T.seq ?_
          refine T.seq ?_
          refine T.region ?_ -- region 7
          refine Rg.move rfl rfl ?_
          refine Rg.move rfl rfl ?_
          refine Rg.move rfl rfl ?_

          refine Rg.idx (M := M2) Try.underlying22 I23 rfl rfl rfl ((hv.le S.le).le S2.le) (Le.refl _ _) (by omega) (fun u7_3 a7_3 hg7_3 hu7_3 => ?_)
          obtain rfl : li = a7_3 := Eq.symm (Option.some.inj (hg7_3.symm.trans (by rw [Int.toNat_natCast]; exact hli)))
          refine Rg.load (M := M2) Try.underlying23 rfl rfl rfl rfl rfl hu7_3 (Le.refl _ _) (fun v7 hv7 => ?_)
          replace hv7 : ((RT.int .i64).sl).V M2 _ li v7 := hv7
          refine Rg.lensl Try.underlying23 rfl hv7 rfl ?_
          refine Rg.ilt rfl rfl rfl ?_
          refine Rg.move rfl rfl ?_
          refine Rg.gsplitp (g := 24) rfl (fun g7_7 => ?_) (fun g7_7 => ?_)
          · -- g7_7 True
            refine Rg.gyes rfl rfl ?_
            refine Rg.move rfl rfl ?_
            refine Rg.gyes rfl rfl ?_
            refine Rg.ilt rfl rfl rfl ?_
            refine Rg.pickt rfl rfl rfl ?_
            refine Rg.nil ?_
            refine T.ifp rfl (fun c7 => ?_) (fun c7 => ?_)
            · -- c7 True
              refine T.skip ?_
              refine T.seq ?_
              refine T.block ?_
              refine T.region ?_ -- region 9
              refine Rg.move rfl rfl ?_
              refine Rg.move rfl rfl ?_
              refine Rg.move rfl rfl ?_

              refine Rg.idx (M := M2) Try.underlying22 I23 rfl rfl rfl ((hv.le S.le).le S2.le) (Le.refl _ _) (by omega) (fun u9_3 a9_3 hg9_3 hu9_3 => ?_)
              obtain rfl : li = a9_3 := Eq.symm (Option.some.inj (hg9_3.symm.trans (by rw [Int.toNat_natCast]; exact hli)))
              refine Rg.load (M := M2) Try.underlying23 rfl rfl rfl rfl rfl hu9_3 (Le.refl _ _) (fun v9 hv9 => ?_)
              replace hv9 : ((RT.int .i64).sl).V M2 _ li v9 := hv9
              refine Rg.move rfl rfl ?_
              obtain ⟨x, hx⟩ : ∃ x, li[k]? = some x := ⟨_, List.getElem?_eq_getElem (by omega)⟩
              refine Rg.idx (M := M2) Try.underlying23 I3 rfl rfl rfl (hv9) (Le.refl _ _) (by omega) (fun u9_6 a9_6 hg9_6 hu9_6 => ?_)
              obtain rfl : x = a9_6 := Eq.symm (Option.some.inj (hg9_6.symm.trans (by rw [Int.toNat_natCast]; exact hx)))
              refine Rg.loadi64 (M := M2) Try.underlying3 rfl rfl hu9_6 (Le.refl _ _) (fun hxr => ?_)
              refine Rg.eqv (v' := .int .i64 x) rfl ?_
              refine Rg.irem rfl rfl rfl (by decide) ?_
              have ht := tmod3 x
              refine Rg.sl1 (A := RT.int .i64) (hn := by decide) (M := M2) Try.underlying23 I3 (by decide) rfl rfl hM2 (V_i64 (x := x.tmod 3) (by omega)) (.inr ⟨rfl, rfl⟩) (fun u5 w5 hu5 s5 => ?_)
              refine Rg.append (M := M2) (base := wr.heap.size) Try.underlying23 I3 rfl rfl rfl rfl (ho.step0 s5) hu5 (Le.refl _ _) (by simp; omega) (by simp; omega) (Nat.le_trans S2.size s5.size) (fun v6 M3 w6 ho6 s6 => ?_)
              refine Rg.assign rfl rfl ?_
              refine Rg.nil ?_
              refine T.region ?_ -- region 8
              refine Rg.move rfl rfl ?_
              refine Rg.iadd rfl rfl rfl (by omega) ?_
              refine Rg.assign rfl rfl ?_
              refine Rg.nil ?_
              refine ⟨rfl, (k + 1, v6, acc ++ [x.tmod 3]), (.cons rfl (.cons rfl (.cons rfl (.cons rfl (.cons rfl .nil))))), ?_, ?_⟩
              · exact ⟨by simp only; omega, by simp only; omega, by simp; omega, M3, s6.lt (s5.lt hM2), (S2.trans0 s5).transBlk s6 (ho.step0 s5) (Nat.le_refl _), ho6⟩
              · simp only; omega
            · -- c7 False
              refine T.exit ?_
              refine T.region ?_ -- region 10
              refine Rg.move rfl rfl ?_
              refine Rg.move rfl rfl ?_
              have hSr := (S.trans S2 (fun _ _ h => h) : Step M w0 M2 _ none')
              have hown := Own.close (hn := by decide) hM1 S2 ho (by omega)
              have S2b := S2.back
              have hMz := S2b.lt hM1
              refine Rg.call rfl rfl E14 (Good_spec (M := M1) (most := 12) hMz hown (by decide)) (fun ug wg h => ?_)
              obtain ⟨s7, hug⟩ := h
              have hgl := goodL_of acc (n := 12) (by decide)
              generalize good acc 12 = gd at hug hgl
              have hM7 := s7.lt hMz
              have S7 := (S.trans0 S2b).trans0 s7
              have hog7 := (hog.step0 S2b).step0 s7
              refine Rg.sl1 (A := (RT.int .i64).sl) (hn := by decide) (M := M1) Try.underlying22 I23 (by decide) rfl rfl hM7 hug (.inr ⟨rfl, rfl⟩) (fun u8 w8 hu8 s8 => ?_)
              refine Rg.append (M := M1) (base := w0.heap.size) Try.underlying22 I23 rfl rfl rfl rfl (hog7.step0 s8) hu8 (Le.refl _ _) (by simp; omega) (by simp; omega) (Nat.le_trans S7.size s8.size) (fun v9 M4 w9 hog9 s9 => ?_)
              refine Rg.assign rfl rfl ?_
              refine Rg.nil ?_
              refine T.region ?_ -- region 4
              refine Rg.move rfl rfl ?_
              refine Rg.iadd rfl rfl rfl (by omega) ?_
              refine Rg.assign rfl rfl ?_
              refine Rg.nil ?_
              refine ⟨rfl, (i + 1, v9, gs ++ [gd]), (.cons rfl (.cons rfl (.cons rfl .nil))), ?_, ?_⟩
              · refine ⟨by simp only; omega, by simp only; omega, by simp; omega, by simp; omega, fun x hx => ?_, M4, s9.lt (s8.lt hM7), (S7.trans0 s8).transBlk s9 (hog7.step0 s8) (Nat.le_refl _), hog9⟩
                rcases List.mem_append.1 hx with hx | hx
                · exact hga x hx
                · simp only [List.mem_singleton] at hx; subst hx; exact hgl
              · simp only; omega
          · -- g7_7 False
            refine Rg.gno rfl rfl rfl rfl ?_
            refine Rg.gno rfl rfl rfl rfl ?_
            refine Rg.pickf rfl rfl rfl ?_
            refine Rg.nil ?_
            refine T.iff rfl ?_
            refine T.exit ?_
            refine T.region ?_ -- region 10
            refine Rg.move rfl rfl ?_
            refine Rg.move rfl rfl ?_
            have hSr := (S.trans S2 (fun _ _ h => h) : Step M w0 M2 _ none')
            have hown := Own.close (hn := by decide) hM1 S2 ho (by omega)
            have S2b := S2.back
            have hMz := S2b.lt hM1
            refine Rg.call rfl rfl E14 (Good_spec (M := M1) (most := 12) hMz hown (by decide)) (fun ug wg h => ?_)
            obtain ⟨s7, hug⟩ := h
            have hgl := goodL_of acc (n := 12) (by decide)
            generalize good acc 12 = gd at hug hgl
            have hM7 := s7.lt hMz
            have S7 := (S.trans0 S2b).trans0 s7
            have hog7 := (hog.step0 S2b).step0 s7
            refine Rg.sl1 (A := (RT.int .i64).sl) (hn := by decide) (M := M1) Try.underlying22 I23 (by decide) rfl rfl hM7 hug (.inr ⟨rfl, rfl⟩) (fun u8 w8 hu8 s8 => ?_)
            refine Rg.append (M := M1) (base := w0.heap.size) Try.underlying22 I23 rfl rfl rfl rfl (hog7.step0 s8) hu8 (Le.refl _ _) (by simp; omega) (by simp; omega) (Nat.le_trans S7.size s8.size) (fun v9 M4 w9 hog9 s9 => ?_)
            refine Rg.assign rfl rfl ?_
            refine Rg.nil ?_
            refine T.region ?_ -- region 4
            refine Rg.move rfl rfl ?_
            refine Rg.iadd rfl rfl rfl (by omega) ?_
            refine Rg.assign rfl rfl ?_
            refine Rg.nil ?_
            refine ⟨rfl, (i + 1, v9, gs ++ [gd]), (.cons rfl (.cons rfl (.cons rfl .nil))), ?_, ?_⟩
            · refine ⟨by simp only; omega, by simp only; omega, by simp; omega, by simp; omega, fun x hx => ?_, M4, s9.lt (s8.lt hM7), (S7.trans0 s8).transBlk s9 (hog7.step0 s8) (Nat.le_refl _), hog9⟩
              rcases List.mem_append.1 hx with hx | hx
              · exact hga x hx
              · simp only [List.mem_singleton] at hx; subst hx; exact hgl
            · simp only; omega
      · -- c3 False
        refine T.exit ?_
        refine T.seq ?_
        refine T.region ?_ -- region 11
        refine Rg.move rfl rfl ?_
        have hgv := Own.close (hn := by decide) hM S hog (by omega)
        have hMe := S.back.lt hM
        refine Rg.call rfl rfl E15 (Side_spec hgv hga (by omega)) (fun r wc h => ?_)
        obtain ⟨rfl, rfl⟩ := h
        refine Rg.move rfl rfl ?_
        refine Rg.call rfl rfl E16 (rSide_spec hMe hgv hga (by omega)) (fun r2 w2 h => ?_)
        obtain ⟨rfl, s2⟩ := h
        refine Rg.ieq rfl rfl rfl ?_
        refine Rg.move rfl rfl ?_
        refine Rg.gtrue (g := 51) rfl (rfl) ?_
        refine Rg.gyes rfl rfl ?_
        refine Rg.call rfl rfl E15 (Side_spec (M := M) (ls := []) V_nil (by intro l hl; cases hl) (by decide)) (fun r w h => ?_)
        obtain ⟨rfl, rfl⟩ := h
        refine Rg.eqv (v' := .int .i64 0) rfl ?_
        refine Rg.gyes rfl rfl ?_
        refine Rg.ieq rfl rfl rfl ?_
        refine Rg.pickt rfl rfl rfl ?_
        refine Rg.move rfl rfl ?_
        refine Rg.gtrue (g := 55) rfl (rfl) ?_
        refine Rg.gyes rfl rfl ?_
        refine Rg.call rfl rfl E17 (lives13_spec (M := M) (s2.lt hMe)) (fun rL wL h => ?_)
        obtain ⟨rfl, sL⟩ := h
        refine Rg.pickt rfl rfl rfl ?_
        refine Rg.assign rfl rfl ?_
        refine Rg.nil ?_
        refine T.ret ?_
        exact Kret1 rfl rfl ⟨rfl, ((S.back.trans0 s2).trans0 sL)⟩
    · -- g3_4 False
      refine Rg.gno rfl rfl rfl rfl ?_
      refine Rg.gno rfl rfl rfl rfl ?_
      refine Rg.pickf rfl rfl rfl ?_
      refine Rg.nil ?_
      refine T.iff rfl ?_
      refine T.exit ?_
      refine T.seq ?_
      refine T.region ?_ -- region 11
      refine Rg.move rfl rfl ?_
      have hgv := Own.close (hn := by decide) hM S hog (by omega)
      have hMe := S.back.lt hM
      refine Rg.call rfl rfl E15 (Side_spec hgv hga (by omega)) (fun r wc h => ?_)
      obtain ⟨rfl, rfl⟩ := h
      refine Rg.move rfl rfl ?_
      refine Rg.call rfl rfl E16 (rSide_spec hMe hgv hga (by omega)) (fun r2 w2 h => ?_)
      obtain ⟨rfl, s2⟩ := h
      refine Rg.ieq rfl rfl rfl ?_
      refine Rg.move rfl rfl ?_
      refine Rg.gtrue (g := 51) rfl (rfl) ?_
      refine Rg.gyes rfl rfl ?_
      refine Rg.call rfl rfl E15 (Side_spec (M := M) (ls := []) V_nil (by intro l hl; cases hl) (by decide)) (fun r w h => ?_)
      obtain ⟨rfl, rfl⟩ := h
      refine Rg.eqv (v' := .int .i64 0) rfl ?_
      refine Rg.gyes rfl rfl ?_
      refine Rg.ieq rfl rfl rfl ?_
      refine Rg.pickt rfl rfl rfl ?_
      refine Rg.move rfl rfl ?_
      refine Rg.gtrue (g := 55) rfl (rfl) ?_
      refine Rg.gyes rfl rfl ?_
      refine Rg.call rfl rfl E17 (lives13_spec (M := M) (s2.lt hMe)) (fun rL wL h => ?_)
      obtain ⟨rfl, sL⟩ := h
      refine Rg.pickt rfl rfl rfl ?_
      refine Rg.assign rfl rfl ?_
      refine Rg.nil ?_
      refine T.ret ?_
      exact Kret1 rfl rfl ⟨rfl, ((S.back.trans0 s2).trans0 sL)⟩

end Go.K

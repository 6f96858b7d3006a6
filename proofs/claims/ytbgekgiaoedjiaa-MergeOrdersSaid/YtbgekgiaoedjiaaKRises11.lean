/- The walks of Go functions, operation by operation. -/
import Derived.Test.YtbgekgiaoedjiaaKTypes
import Derived.Test.YtbgekgiaoedjiaaKNum
import Derived.Test.YtbgekgiaoedjiaaKBits
import Derived.Test.YtbgekgiaoedjiaaKHp
import Derived.Test.YtbgekgiaoedjiaaKQuiet
import Derived.Test.YtbgekgiaoedjiaaKSmall11
import Derived.Test.YtbgekgiaoedjiaaProg
import Derived.KernelRfl
namespace Go.K
open Go.Proofs
namespace TKRises11
theorem E11 : Enters Try.prog 11 := enters Try.func11 rfl (by decide) -- concordance/merge.Order$1
theorem E12 : Enters Try.prog 12 := enters Try.func12 rfl (by decide) -- concordance/merge.rises
theorem E19 : Enters Try.prog 19 := enters Try.func19 rfl (by decide) -- slices.IndexFunc[[][]int,[]int]
theorem E20 : Enters Try.prog 20 := enters Try.func20 rfl (by decide) -- slices.IsSortedFunc[[]int,int]
theorem E22 : Enters Try.prog 22 := enters Try.func22 rfl (by decide) -- slices.Compact[[]int,int]
theorem E23 : Enters Try.prog 23 := enters Try.func23 rfl (by decide) -- slices.Clone[[]int,int]
end TKRises11
open TKRises11
set_option linter.unusedVariables false
set_option linter.unusedSimpArgs false
set_option maxRecDepth 10000

/-- 'concordance/merge.rises' -/
theorem mrises_spec {M : PSet} {w0 : World} {v : Value} {l : List Int} (hM : Lt M w0) (hv : ((RT.int .i64).sl).V M w0 l v) (hl : l.length ≤ 1099511627776) :
    Spec Try.prog 12 #[v] w0 (fun v' w' => v' = .bool (rises (-1) l) ∧ Step M w0 M w' none') := by
  refine spec_of (args := [_]) (fn := Try.f12) Try.func12 rfl (n := 25) Try.ntmps12 ?_
  refine T.seq ?_
  refine T.region ?_ -- region 0
  refine Rg.assign rfl rfl ?_
  refine Rg.nil ?_
  refine T.seq ?_
  refine T.region ?_ -- region 1
  refine Rg.move rfl rfl ?_
  refine Rg.lensl Try.underlying23 rfl hv rfl ?_
  refine Rg.ieq rfl rfl rfl ?_
  refine Rg.move rfl rfl ?_
  refine Rg.gsplitp (g := 6) rfl (fun g1_3 => ?_) (fun g1_3 => ?_)
  · -- g1_3 True
    refine Rg.gno rfl rfl rfl rfl ?_
    refine Rg.gno rfl rfl rfl rfl ?_
    refine Rg.gno rfl rfl rfl rfl ?_
    refine Rg.gno rfl rfl rfl rfl ?_
    refine Rg.gno rfl rfl rfl rfl ?_
    refine Rg.gnox rfl rfl rfl ?_
    refine Rg.gnox rfl rfl rfl ?_
    refine Rg.gno rfl rfl rfl rfl ?_
    refine Rg.gno rfl rfl rfl rfl ?_
    refine Rg.gnox rfl rfl rfl ?_
    refine Rg.gnox rfl rfl rfl ?_
    refine Rg.gnox rfl rfl rfl ?_
    refine Rg.gnox rfl rfl rfl ?_
    refine Rg.gnox rfl rfl rfl ?_
    refine Rg.gnox rfl rfl rfl ?_
    refine Rg.gnox rfl rfl rfl ?_
    refine Rg.gno rfl rfl rfl rfl ?_
    refine Rg.pickt rfl rfl rfl ?_
    refine Rg.assign rfl rfl ?_
    refine Rg.nil ?_
    refine T.ret ?_
    first
    | (obtain rfl : l = [] := List.length_eq_zero_iff.1 (by omega)
       exact Kret1 rfl rfl ⟨rfl, Step.refl _ _⟩)
    | exact Kret1 rfl rfl ⟨congrArg Value.bool (by
        rw [Bool.eq_iff_iff, rises_iff (by omega), decide_eq_true_iff, getD_of hx]
        exact ⟨fun h => ⟨g1_8, g1_12, hkc.1 (by omega)⟩, fun h => by have := hkc.2 h.2.2; omega⟩), (s1.trans0 S3.back)⟩
    | exact Kret1 rfl rfl ⟨congrArg Value.bool (Eq.symm (by
        rw [Bool.eq_false_iff]; intro h
        exact g1_12 ((rises_iff (by omega)).1 h).2.1)), s1⟩
    | exact Kret1 rfl rfl ⟨congrArg Value.bool (Eq.symm (by
        rw [Bool.eq_false_iff]; intro h
        have := ((rises_iff (by omega)).1 h).1
        rw [getD_of hx] at this
        exact g1_8 this)), Step.refl _ _⟩
  · -- g1_3 False
    refine Rg.gyes rfl rfl ?_
    refine Rg.move rfl rfl ?_
    refine Rg.gyes rfl rfl ?_
    obtain ⟨x, hx⟩ : ∃ x, (l)[0]? = some x := ⟨_, List.getElem?_eq_getElem (by omega)⟩
    refine Rg.idx (M := M) Try.underlying23 I3 rfl rfl rfl (hv) (Le.refl _ _) (by omega) (fun u1_5 a1_5 hg1_5 hu1_5 => ?_)
    obtain rfl : x = a1_5 := Eq.symm (Option.some.inj (hg1_5.symm.trans hx))
    refine Rg.gyes rfl rfl ?_
    refine Rg.loadi64 (M := M) Try.underlying3 rfl rfl (by assumption) (by repeat (first | exact Le.refl _ _ | refine Le.trans (Step.le (by assumption)) ?_)) (fun in1_6 => ?_)
    refine Rg.eqv (v' := .int .i64 (x)) rfl ?_
    replace in1_6 : -9223372036854775808 ≤ (x : Int) ∧ x ≤ 9223372036854775807 := in1_6
    refine Rg.gyes rfl rfl ?_
    refine Rg.ige rfl rfl rfl ?_
    refine Rg.gyes rfl rfl ?_
    refine Rg.move rfl rfl ?_
    refine Rg.gsplitp (g := 11) rfl (fun g1_8 => ?_) (fun g1_8 => ?_)
    · -- g1_8 True
      refine Rg.gyes rfl rfl ?_
      refine Rg.move rfl rfl ?_
      refine Rg.gyes rfl rfl ?_
      refine Rg.call rfl rfl E20 (IsSorted_spec hv (by omega)) (fun r1 w1 h => ?_)
      obtain ⟨rfl, s1⟩ := h
      refine Rg.gyes rfl rfl ?_
      refine Rg.pickt rfl rfl rfl ?_
      refine Rg.gyes rfl rfl ?_
      refine Rg.move rfl rfl ?_
      refine Rg.gsplitp (g := 15) rfl (fun g1_12 => ?_) (fun g1_12 => ?_)
      · -- g1_12 True
        refine Rg.gyes rfl rfl ?_
        refine Rg.move rfl rfl ?_
        refine Rg.gyes rfl rfl ?_
        refine Rg.call rfl rfl E23 (CloneO_spec (s1.lt hM) (hv.le s1.le) hl) (fun r2 w2 h => ?_)
        obtain ⟨M2, ho2, hM2, s2⟩ := h
        refine Rg.gyes rfl rfl ?_
        refine Rg.call rfl rfl E22 (Compact_spec ho2 hl) (fun r3 w3 h => ?_)
        obtain ⟨ac, kc, cc, rfl, hkc, s3⟩ := h
        have S3 := s2.transNew s3 (fun b hb => (ho2.base b hb).1)
        refine Rg.gyes rfl rfl ?_
        refine Rg.lenraw Try.underlying23 rfl rfl ?_
        refine Rg.gyes rfl rfl ?_
        refine Rg.move rfl rfl ?_
        refine Rg.gyes rfl rfl ?_
        refine Rg.lensl Try.underlying23 rfl hv rfl ?_
        refine Rg.gyes rfl rfl ?_
        refine Rg.ieq rfl rfl rfl ?_
        refine Rg.gyes rfl rfl ?_
        refine Rg.pickt rfl rfl rfl ?_
        refine Rg.pickf rfl rfl rfl ?_
        refine Rg.assign rfl rfl ?_
        refine Rg.nil ?_
        refine T.ret ?_
        first
        | (obtain rfl : l = [] := List.length_eq_zero_iff.1 (by omega)
           exact Kret1 rfl rfl ⟨rfl, Step.refl _ _⟩)
        | exact Kret1 rfl rfl ⟨congrArg Value.bool (by
            rw [Bool.eq_iff_iff, rises_iff (by omega), decide_eq_true_iff, getD_of hx]
            exact ⟨fun h => ⟨g1_8, g1_12, hkc.1 (by omega)⟩, fun h => by have := hkc.2 h.2.2; omega⟩), (s1.trans0 S3.back)⟩
        | exact Kret1 rfl rfl ⟨congrArg Value.bool (Eq.symm (by
            rw [Bool.eq_false_iff]; intro h
            exact g1_12 ((rises_iff (by omega)).1 h).2.1)), s1⟩
        | exact Kret1 rfl rfl ⟨congrArg Value.bool (Eq.symm (by
            rw [Bool.eq_false_iff]; intro h
            have := ((rises_iff (by omega)).1 h).1
            rw [getD_of hx] at this
            exact g1_8 this)), Step.refl _ _⟩
      · -- g1_12 False
        refine Rg.gno rfl rfl rfl rfl ?_
        refine Rg.gno rfl rfl rfl rfl ?_
        refine Rg.gno rfl rfl rfl rfl ?_
        refine Rg.gno rfl rfl rfl rfl ?_
        refine Rg.gno rfl rfl rfl rfl ?_
        refine Rg.gno rfl rfl rfl rfl ?_
        refine Rg.gno rfl rfl rfl rfl ?_
        refine Rg.gyes rfl rfl ?_
        refine Rg.pickf rfl rfl rfl ?_
        refine Rg.pickf rfl rfl rfl ?_
        refine Rg.assign rfl rfl ?_
        refine Rg.nil ?_
        refine T.ret ?_
        first
        | (obtain rfl : l = [] := List.length_eq_zero_iff.1 (by omega)
           exact Kret1 rfl rfl ⟨rfl, Step.refl _ _⟩)
        | exact Kret1 rfl rfl ⟨congrArg Value.bool (by
            rw [Bool.eq_iff_iff, rises_iff (by omega), decide_eq_true_iff, getD_of hx]
            exact ⟨fun h => ⟨g1_8, g1_12, hkc.1 (by omega)⟩, fun h => by have := hkc.2 h.2.2; omega⟩), (s1.trans0 S3.back)⟩
        | exact Kret1 rfl rfl ⟨congrArg Value.bool (Eq.symm (by
            rw [Bool.eq_false_iff]; intro h
            exact g1_12 ((rises_iff (by omega)).1 h).2.1)), s1⟩
        | exact Kret1 rfl rfl ⟨congrArg Value.bool (Eq.symm (by
            rw [Bool.eq_false_iff]; intro h
            have := ((rises_iff (by omega)).1 h).1
            rw [getD_of hx] at this
            exact g1_8 this)), Step.refl _ _⟩
    · -- g1_8 False
      refine Rg.gno rfl rfl rfl rfl ?_
      refine Rg.gno rfl rfl rfl rfl ?_
      refine Rg.gyes rfl rfl ?_
      refine Rg.pickf rfl rfl rfl ?_
      refine Rg.gyes rfl rfl ?_
      refine Rg.move rfl rfl ?_
      refine Rg.gno rfl rfl rfl rfl ?_
      refine Rg.gno rfl rfl rfl rfl ?_
      refine Rg.gno rfl rfl rfl rfl ?_
      refine Rg.gno rfl rfl rfl rfl ?_
      refine Rg.gno rfl rfl rfl rfl ?_
      refine Rg.gno rfl rfl rfl rfl ?_
      refine Rg.gno rfl rfl rfl rfl ?_
      refine Rg.gyes rfl rfl ?_
      refine Rg.pickf rfl rfl rfl ?_
      refine Rg.pickf rfl rfl rfl ?_
      refine Rg.assign rfl rfl ?_
      refine Rg.nil ?_
      refine T.ret ?_
      first
      | (obtain rfl : l = [] := List.length_eq_zero_iff.1 (by omega)
         exact Kret1 rfl rfl ⟨rfl, Step.refl _ _⟩)
      | exact Kret1 rfl rfl ⟨congrArg Value.bool (by
          rw [Bool.eq_iff_iff, rises_iff (by omega), decide_eq_true_iff, getD_of hx]
          exact ⟨fun h => ⟨g1_8, g1_12, hkc.1 (by omega)⟩, fun h => by have := hkc.2 h.2.2; omega⟩), (s1.trans0 S3.back)⟩
      | exact Kret1 rfl rfl ⟨congrArg Value.bool (Eq.symm (by
          rw [Bool.eq_false_iff]; intro h
          exact g1_12 ((rises_iff (by omega)).1 h).2.1)), s1⟩
      | exact Kret1 rfl rfl ⟨congrArg Value.bool (Eq.symm (by
          rw [Bool.eq_false_iff]; intro h
          have := ((rises_iff (by omega)).1 h).1
          rw [getD_of hx] at this
          exact g1_8 this)), Step.refl _ _⟩

/-- 'concordance/merge.Order$1' -/
theorem Order1_spec {M : PSet} {w0 : World} {v : Value} {l : List Int} (hM : Lt M w0) (hv : ((RT.int .i64).sl).V M w0 l v) (hl : l.length ≤ 1099511627776) :
    Spec Try.prog 11 #[v] w0 (fun v' w' => v' = .bool (decide (rises (-1) l = false)) ∧ Step M w0 M w' none') := by
  refine spec_of (args := [_]) (fn := Try.f11) Try.func11 rfl (n := 6) Try.ntmps11 ?_
  refine T.seq ?_
  refine T.region ?_ -- region 0
  refine Rg.assign rfl rfl ?_
  refine Rg.nil ?_
  refine T.seq ?_
  refine T.region ?_ -- region 1
  refine Rg.move rfl rfl ?_
  refine Rg.call rfl rfl E12 (mrises_spec hM hv hl) (fun r1 w1 h => ?_)
  obtain ⟨rfl, s1⟩ := h
  refine Rg.not rfl rfl ?_
  refine Rg.eqv (v' := .bool (decide (rises (-1) l = false))) (congrArg Value.bool (by cases rises (-1) l <;> rfl)) ?_
  refine Rg.assign rfl rfl ?_
  refine Rg.nil ?_
  refine T.ret ?_
  exact Kret1 rfl rfl ⟨rfl, s1⟩

/-- 'slices.IndexFunc[[][]int,[]int]' -/
theorem IndexF_spec {M : PSet} {w0 : World} {v : Value} {ls : List (List Int)} (hM : Lt M w0) (hv : (((RT.int .i64).sl).sl).V M w0 ls v) (hl : ∀ l ∈ ls, l.length ≤ 1099511627776) :
    Spec Try.prog 19 #[v, .func (.func 11) #[] #[]] w0 (fun v' w' => (∃ r : Int, v' = .int .i64 r ∧ (r ≥ 0 ↔ ∃ l ∈ ls, rises (-1) l = false)) ∧ Step M w0 M w' none') := by
  have hlen := V_sl_len hv
  refine spec_of (args := [_, _]) (fn := Try.f19) Try.func19 rfl (n := 19) Try.ntmps19 ?_
  refine T.seq ?_
  refine T.region ?_ -- region 0
  refine Rg.assign rfl rfl ?_
  refine Rg.nil ?_
  refine T.seq ?_
  refine T.seq ?_
  refine T.region ?_ -- region 1
  refine Rg.move rfl rfl ?_
  refine Rg.lensl Try.underlying22 rfl hv rfl ?_
  refine Rg.move rfl rfl ?_
  refine Rg.nil ?_
  refine T.block ?_
  refine T.loop (σ := Nat) (fun s => [(0, v), (1, .func (.func 11) #[] #[]), (7, .int .i64 ls.length), (8, .int .i64 s)]) (fun s w => s ≤ ls.length ∧ (∀ t, t < s → ∀ l, ls[t]? = some l → rises (-1) l = true) ∧ Step M w0 M w none') (fun s => ls.length - s) 0 (.cons rfl (.cons rfl (.cons rfl (.cons rfl .nil)))) ?_ ?_ -- loop 0
  · exact ⟨Nat.zero_le _, fun t h => by omega, Step.refl _ _⟩
  · rintro k w2 ⟨hk, hno, S⟩
    refine T.seq ?_
    refine T.region ?_ -- region 2
    refine Rg.ilt rfl rfl rfl ?_
    refine Rg.nil ?_
    refine T.seq ?_
    refine T.ifp rfl (fun c2 => ?_) (fun c2 => ?_)
    · -- c2 True
      refine T.skip ?_
      refine T.seq ?_
      refine T.block ?_
      refine T.seq ?_
      refine T.region ?_ -- region 3
      refine Rg.move rfl rfl ?_
      refine Rg.assign rfl rfl ?_
      refine Rg.nil ?_
      refine T.seq ?_
      refine T.region ?_ -- region 4
      refine Rg.move rfl rfl ?_
      refine Rg.move rfl rfl ?_
      refine Rg.move rfl rfl ?_
      obtain ⟨l, hx⟩ : ∃ x, (ls)[k]? = some x := ⟨_, List.getElem?_eq_getElem (by omega)⟩
      refine Rg.idx (M := M) Try.underlying22 I23 rfl rfl rfl (hv.le S.le) (Le.refl _ _) (by omega) (fun u4_3 a4_3 hg4_3 hu4_3 => ?_)
      obtain rfl : l = a4_3 := Eq.symm (Option.some.inj (hg4_3.symm.trans (by rw [Int.toNat_natCast]; exact hx)))
      refine Rg.load (M := M) Try.underlying23 rfl rfl rfl rfl rfl (by assumption) (by repeat (first | exact Le.refl _ _ | refine Le.trans (Step.le (by assumption)) ?_)) (fun v4_4 hv4_4 => ?_)
      replace hv4_4 : (((RT.int .i64).sl)).V M _ l v4_4 := hv4_4
      refine Rg.callv (first := []) (captured := []) rfl rfl rfl E11 (Order1_spec (S.lt hM) hv4_4 (hl _ (List.mem_of_getElem? hx))) (fun r w1 h => ?_)
      obtain ⟨rfl, s1⟩ := h
      refine Rg.nil ?_
      refine T.ifp rfl (fun c4 => ?_) (fun c4 => ?_)
      · -- c4 True
        refine T.seq ?_
        refine T.region ?_ -- region 5
        refine Rg.move rfl rfl ?_
        refine Rg.assign rfl rfl ?_
        refine Rg.nil ?_
        refine T.ret ?_
        exact Kret1 rfl rfl ⟨⟨k, rfl, ⟨fun _ => ⟨l, List.mem_of_getElem? hx, c4⟩, fun _ => by omega⟩⟩, S.trans0 s1⟩
      · -- c4 False
        refine T.skip ?_
        refine T.region ?_ -- region 6
        refine Rg.iadd rfl rfl rfl (by omega) ?_
        refine Rg.move rfl rfl ?_
        refine Rg.nil ?_
        refine ⟨rfl, k + 1, (.cons rfl (.cons rfl (.cons rfl (.cons rfl .nil)))), ?_, ?_⟩
        · refine ⟨by omega, fun t ht l' hl' => ?_, S.trans0 s1⟩
          rcases Nat.lt_or_ge t k with h | h
          · exact hno t h l' hl'
          · rw [show t = k from by omega, hx] at hl'; cases hl'; simpa using c4
        · show _ - (k + 1) < _ - k; omega
    · -- c2 False
      refine T.exit ?_
      refine T.seq ?_
      refine T.region ?_ -- region 7
      refine Rg.assign rfl rfl ?_
      refine Rg.nil ?_
      refine T.ret ?_
      refine Kret1 rfl rfl ⟨⟨-1, rfl, ⟨fun h => by omega, fun ⟨l, hm, hf⟩ => ?_⟩⟩, S⟩
      obtain ⟨t, ht⟩ := List.mem_iff_getElem?.1 hm
      have := hno t (by have := (List.getElem?_eq_some_iff.1 ht).1; omega) l ht
      rw [this] at hf; cases hf

/-- 'slices.ContainsFunc[[][]int,[]int]' -/
theorem ContainsF_spec {M : PSet} {w0 : World} {v : Value} {ls : List (List Int)} (hM : Lt M w0) (hv : (((RT.int .i64).sl).sl).V M w0 ls v) (hl : ∀ l ∈ ls, l.length ≤ 1099511627776) :
    Spec Try.prog 10 #[v, .func (.func 11) #[] #[]] w0 (fun v' w' => v' = .bool (decide (¬ Up ls)) ∧ Step M w0 M w' none') := by
  refine spec_of (args := [_, _]) (fn := Try.f10) Try.func10 rfl (n := 9) Try.ntmps10 ?_
  refine T.seq ?_
  refine T.region ?_ -- region 0
  refine Rg.assign rfl rfl ?_
  refine Rg.nil ?_
  refine T.seq ?_
  refine T.region ?_ -- region 1
  refine Rg.move rfl rfl ?_
  refine Rg.move rfl rfl ?_
  refine Rg.call rfl rfl E19 (IndexF_spec hM hv hl) (fun r1 w1 h => ?_)
  obtain ⟨⟨r0, rfl, hr⟩, s1⟩ := h
  refine Rg.ige rfl rfl rfl ?_
  refine Rg.assign rfl rfl ?_
  refine Rg.nil ?_
  refine T.ret ?_
  refine Kret1 rfl rfl ⟨congrArg Value.bool (decide_eq_decide.2 (hr.trans ?_)), s1⟩
  unfold Up
  constructor
  · rintro ⟨l, hm, hf⟩ h; rw [h l hm] at hf; cases hf
  · intro h
    refine Classical.byContradiction fun hn => h fun l hm => ?_
    cases hr2 : rises (-1) l with
    | true => rfl
    | false => exact absurd ⟨l, hm, hr2⟩ hn

end Go.K

/- The walks of Go functions, operation by operation. -/
import Derived.Test.YtbgekgiaoedjiaaKTypes
import Derived.Test.YtbgekgiaoedjiaaKNum
import Derived.Test.YtbgekgiaoedjiaaKPure04
import Derived.Test.YtbgekgiaoedjiaaKDraw
import Derived.Test.YtbgekgiaoedjiaaProg
namespace Go.K
open Go.Proofs
set_option linter.unusedVariables false
set_option linter.unusedSimpArgs false
set_option maxRecDepth 10000

/-- 'concordance/concordanceref04.Rises' -/
theorem Rises_spec {M : PSet} {w0 : World} {v : Value} {l : List Int} (hM : Lt M w0) (hv : ((RT.int .i64).sl).V M w0 l v) :
    Spec Try.prog 17 #[v] w0 (fun v' w' => v' = .bool (rises (-1) l) ∧ Step M w0 M w' none') := by
  have hlen := V_sl_len hv
  refine spec_of (args := [_]) (fn := Try.f17) Try.func17 rfl (n := 31) Try.ntmps17 ?_
  refine T.seq ?_
  refine T.region ?_ -- region 0
  refine Rg.assign rfl rfl ?_
  refine Rg.nil ?_
  refine T.seq ?_
  refine T.seq ?_
  refine T.region ?_ -- region 1
  refine Rg.assign rfl rfl ?_
  refine Rg.nil ?_
  refine T.block ?_
  refine T.loop (σ := Nat × Int) (fun s => [(0, v), (3, .int .i64 s.1)]) (fun s w => Step M w0 M w none' ∧ s.1 ≤ l.length ∧ rises (-1) l = rises s.2 (l.drop s.1) ∧ -1 ≤ s.2 ∧ (s.1 = 0 → s.2 = -1) ∧ (0 < s.1 → l[s.1 - 1]? = some s.2)) (fun s => l.length - s.1) (0, -1) (.cons rfl (.cons rfl .nil)) ?_ ?_ -- loop 0
  · exact ⟨Step.refl _ _, Nat.zero_le _, rfl, by decide, fun _ => rfl, fun h => absurd h (by decide)⟩
  · rintro ⟨k, last⟩ w1 ⟨s1, hk, hr, hl, h0, h1⟩
    dsimp only at hk hr hl h0 h1 ⊢
    refine T.seq ?_
    refine T.seq ?_
    refine T.region ?_ -- region 2
    refine Rg.move rfl rfl ?_
    refine Rg.move rfl rfl ?_
    first | refine Rg.lensl Try.underlying23 rfl (by assumption) rfl ?_ | refine Rg.lenown Try.underlying23 rfl (by assumption) rfl ?_
    refine Rg.ilt rfl rfl rfl ?_
    refine Rg.nil ?_
    refine T.ifp rfl (fun c2 => ?_) (fun c2 => ?_)
    · -- c2 True
      refine T.skip ?_
      refine T.seq ?_
      refine T.block ?_
      refine T.seq ?_
      obtain ⟨x, hx⟩ : ∃ x, l[k]? = some x := ⟨_, List.getElem?_eq_getElem (by omega)⟩
      by_cases g4_5 : x < 0
      · -- g4_5 True
        apply T.draw (M := M) mixed [Asr.eq _, Asr.eq _, Asr.ptr (RT.int .i64) x, Asr.eq _, Asr.eq _, Asr.eq (.bool true), Asr.eq undef, Asr.eq undef, Asr.eq undef, Asr.eq undef, Asr.eq undef, Asr.eq undef, Asr.eq undef, Asr.eq undef, Asr.eq undef, Asr.eq undef, Asr.eq undef, Asr.eq undef, Asr.eq undef, Asr.eq undef, Asr.eq _] -- region 4
        · rfl
        · -- its operations
          refine Obls.cons ?_ ?_
          · intro wD E sD -- 0
            refine Rg.move rfl rfl ?_
            exact Rg.nil ⟨rfl, rfl, _, rfl, rfl, Step.refl _ _⟩
          refine Obls.cons ?_ ?_
          · intro wD E sD -- 1
            refine Rg.move rfl rfl ?_
            exact Rg.nil ⟨rfl, rfl, _, rfl, rfl, Step.refl _ _⟩
          refine Obls.cons ?_ ?_
          · intro wD E sD -- 2
            intro x_ hx_; have hx_ : x_ = _ := hx_; subst x_
            intro x_ hx_; have hx_ : x_ = _ := hx_; subst x_
            refine Rg.idx (M := M) Try.underlying23 I3 rfl rfl rfl (by assumption) (by repeat (first | exact Le.refl _ _ | refine Le.trans (Step.le (by assumption)) ?_)) (by omega) (fun u4_2 a4_2 hg4_2 hu4_2 => ?_)
            obtain rfl : a4_2 = x := Option.some.inj (hg4_2.symm.trans (by simpa using hx))
            exact Rg.nil ⟨rfl, rfl, _, rfl, hu4_2, Step.refl _ _⟩
          refine Obls.cons ?_ ?_
          · intro wD E sD -- 3
            intro v2 hv2
            refine Rg.loadi64 (M := M) Try.underlying3 rfl rfl (by assumption) (by repeat (first | exact Le.refl _ _ | refine Le.trans (Step.le (by assumption)) ?_)) (fun in4_3 => ?_)
            exact Rg.nil ⟨rfl, rfl, _, rfl, rfl, Step.refl _ _⟩
          refine Obls.cons ?_ ?_
          · intro wD E sD -- 4
            intro x_ hx_; have hx_ : x_ = _ := hx_; subst x_
            refine Rg.ilt rfl rfl rfl ?_
            exact Rg.nil ⟨rfl, rfl, _, rfl, rfl, Step.refl _ _⟩
          refine Obls.cons ?_ ?_
          · intro wD E sD -- 5
            intro x_ hx_; have hx_ : x_ = _ := hx_; subst x_
            refine Rg.move rfl rfl ?_
            refine Rg.nil ⟨rfl, rfl, _, rfl, ?_, Step.refl _ _⟩
            exact congrArg Value.bool (decide_eq_true g4_5)
          refine Obls.cons ?_ ?_
          · intro wD E sD -- 6
            intro x_ hx_; have hx_ : x_ = _ := hx_; subst x_
            exact Rg.gno rfl rfl rfl rfl (Rg.nil ⟨rfl, rfl, _, rfl, rfl, Step.refl _ _⟩)
          refine Obls.cons ?_ ?_
          · intro wD E sD -- 7
            intro x_ hx_; have hx_ : x_ = _ := hx_; subst x_
            intro x_ hx_; have hx_ : x_ = _ := hx_; subst x_
            exact Rg.gno rfl rfl rfl rfl (Rg.nil ⟨rfl, rfl, _, rfl, rfl, Step.refl _ _⟩)
          refine Obls.cons ?_ ?_
          · intro wD E sD -- 8
            intro x_ hx_; have hx_ : x_ = _ := hx_; subst x_
            intro x_ hx_; have hx_ : x_ = _ := hx_; subst x_
            intro x_ hx_; have hx_ : x_ = _ := hx_; subst x_
            exact Rg.gno rfl rfl rfl rfl (Rg.nil ⟨rfl, rfl, _, rfl, rfl, Step.refl _ _⟩)
          refine Obls.cons ?_ ?_
          · intro wD E sD -- 9
            intro x_ hx_; have hx_ : x_ = _ := hx_; subst x_
            exact Rg.gnox rfl rfl rfl (Rg.nil ⟨rfl, rfl, _, rfl, rfl, Step.refl _ _⟩)
          refine Obls.cons ?_ ?_
          · intro wD E sD -- 10
            intro x_ hx_; have hx_ : x_ = _ := hx_; subst x_
            exact Rg.gnox rfl rfl rfl (Rg.nil ⟨rfl, rfl, _, rfl, rfl, Step.refl _ _⟩)
          refine Obls.cons ?_ ?_
          · intro wD E sD -- 11
            intro x_ hx_; have hx_ : x_ = _ := hx_; subst x_
            intro x_ hx_; have hx_ : x_ = _ := hx_; subst x_
            intro x_ hx_; have hx_ : x_ = _ := hx_; subst x_
            exact Rg.gnox rfl rfl rfl (Rg.nil ⟨rfl, rfl, _, rfl, rfl, Step.refl _ _⟩)
          refine Obls.cons ?_ ?_
          · intro wD E sD -- 12
            intro x_ hx_; have hx_ : x_ = _ := hx_; subst x_
            intro x_ hx_; have hx_ : x_ = _ := hx_; subst x_
            exact Rg.gnox rfl rfl rfl (Rg.nil ⟨rfl, rfl, _, rfl, rfl, Step.refl _ _⟩)
          refine Obls.cons ?_ ?_
          · intro wD E sD -- 13
            intro x_ hx_; have hx_ : x_ = _ := hx_; subst x_
            exact Rg.gnox rfl rfl rfl (Rg.nil ⟨rfl, rfl, _, rfl, rfl, Step.refl _ _⟩)
          refine Obls.cons ?_ ?_
          · intro wD E sD -- 14
            intro x_ hx_; have hx_ : x_ = _ := hx_; subst x_
            exact Rg.gnox rfl rfl rfl (Rg.nil ⟨rfl, rfl, _, rfl, rfl, Step.refl _ _⟩)
          refine Obls.cons ?_ ?_
          · intro wD E sD -- 15
            intro x_ hx_; have hx_ : x_ = _ := hx_; subst x_
            intro x_ hx_; have hx_ : x_ = _ := hx_; subst x_
            exact Rg.gnox rfl rfl rfl (Rg.nil ⟨rfl, rfl, _, rfl, rfl, Step.refl _ _⟩)
          refine Obls.cons ?_ ?_
          · intro wD E sD -- 16
            intro x_ hx_; have hx_ : x_ = _ := hx_; subst x_
            intro x_ hx_; have hx_ : x_ = _ := hx_; subst x_
            intro x_ hx_; have hx_ : x_ = _ := hx_; subst x_
            exact Rg.gnox rfl rfl rfl (Rg.nil ⟨rfl, rfl, _, rfl, rfl, Step.refl _ _⟩)
          refine Obls.cons ?_ ?_
          · intro wD E sD -- 17
            intro x_ hx_; have hx_ : x_ = _ := hx_; subst x_
            intro x_ hx_; have hx_ : x_ = _ := hx_; subst x_
            exact Rg.gnox rfl rfl rfl (Rg.nil ⟨rfl, rfl, _, rfl, rfl, Step.refl _ _⟩)
          refine Obls.cons ?_ ?_
          · intro wD E sD -- 18
            intro x_ hx_; have hx_ : x_ = _ := hx_; subst x_
            intro x_ hx_; have hx_ : x_ = _ := hx_; subst x_
            intro x_ hx_; have hx_ : x_ = _ := hx_; subst x_
            exact Rg.gnox rfl rfl rfl (Rg.nil ⟨rfl, rfl, _, rfl, rfl, Step.refl _ _⟩)
          refine Obls.cons ?_ ?_
          · intro wD E sD -- 19
            intro x_ hx_; have hx_ : x_ = _ := hx_; subst x_
            intro x_ hx_; have hx_ : x_ = _ := hx_; subst x_
            intro x_ hx_; have hx_ : x_ = _ := hx_; subst x_
            exact Rg.gno rfl rfl rfl rfl (Rg.nil ⟨rfl, rfl, _, rfl, rfl, Step.refl _ _⟩)
          refine Obls.cons ?_ ?_
          · intro wD E sD -- 20
            intro x_ hx_; have hx_ : x_ = _ := hx_; subst x_
            intro x_ hx_; have hx_ : x_ = _ := hx_; subst x_
            refine Rg.pickt rfl rfl rfl ?_
            exact Rg.nil ⟨rfl, rfl, _, rfl, rfl, Step.refl _ _⟩
          exact Obls.nil
        · -- behind it
          intro wD4 sD4
          intro x_ hx_; have hx_ : x_ = _ := hx_; subst x_
          intro x_ hx_; have hx_ : x_ = _ := hx_; subst x_
          intro v4_2 hv4_2
          intro x_ hx_; have hx_ : x_ = _ := hx_; subst x_
          intro x_ hx_; have hx_ : x_ = _ := hx_; subst x_
          intro x_ hx_; have hx_ : x_ = _ := hx_; subst x_
          intro x_ hx_; have hx_ : x_ = _ := hx_; subst x_
          intro x_ hx_; have hx_ : x_ = _ := hx_; subst x_
          intro x_ hx_; have hx_ : x_ = _ := hx_; subst x_
          intro x_ hx_; have hx_ : x_ = _ := hx_; subst x_
          intro x_ hx_; have hx_ : x_ = _ := hx_; subst x_
          intro x_ hx_; have hx_ : x_ = _ := hx_; subst x_
          intro x_ hx_; have hx_ : x_ = _ := hx_; subst x_
          intro x_ hx_; have hx_ : x_ = _ := hx_; subst x_
          intro x_ hx_; have hx_ : x_ = _ := hx_; subst x_
          intro x_ hx_; have hx_ : x_ = _ := hx_; subst x_
          intro x_ hx_; have hx_ : x_ = _ := hx_; subst x_
          intro x_ hx_; have hx_ : x_ = _ := hx_; subst x_
          intro x_ hx_; have hx_ : x_ = _ := hx_; subst x_
          intro x_ hx_; have hx_ : x_ = _ := hx_; subst x_
          intro x_ hx_; have hx_ : x_ = _ := hx_; subst x_
          refine T.ift rfl ?_
          refine T.seq ?_
          refine T.region ?_ -- region 5
          refine Rg.assign rfl rfl ?_
          refine Rg.nil ?_
          refine T.ret ?_
          refine Kret1 rfl rfl ⟨?_, s1.trans0 sD4⟩
          rw [hr, rises_drop hx, decide_eq_false (by omega)]; rfl
      · -- g4_5 False
        by_cases g4_8 : (0 : Int) < k
        · -- g4_8 True
          obtain ⟨y, hy⟩ : ∃ y, y = last := ⟨_, rfl⟩
          have h1' := h1 (by omega)
          rw [← hy] at h1'
          apply T.draw (M := M) mixed [Asr.eq _, Asr.eq _, Asr.ptr (RT.int .i64) x, Asr.eq _, Asr.eq _, Asr.eq (.bool false), Asr.eq _, Asr.eq _, Asr.eq (.bool true), Asr.eq _, Asr.eq _, Asr.ptr (RT.int .i64) x, Asr.eq _, Asr.eq _, Asr.eq _, Asr.eq _, Asr.ptr (RT.int .i64) y, Asr.eq _, Asr.eq _, Asr.eq _, Asr.eq _] -- region 4
          · rfl
          · -- its operations
            refine Obls.cons ?_ ?_
            · intro wD E sD -- 0
              refine Rg.move rfl rfl ?_
              exact Rg.nil ⟨rfl, rfl, _, rfl, rfl, Step.refl _ _⟩
            refine Obls.cons ?_ ?_
            · intro wD E sD -- 1
              refine Rg.move rfl rfl ?_
              exact Rg.nil ⟨rfl, rfl, _, rfl, rfl, Step.refl _ _⟩
            refine Obls.cons ?_ ?_
            · intro wD E sD -- 2
              intro x_ hx_; have hx_ : x_ = _ := hx_; subst x_
              intro x_ hx_; have hx_ : x_ = _ := hx_; subst x_
              refine Rg.idx (M := M) Try.underlying23 I3 rfl rfl rfl (by assumption) (by repeat (first | exact Le.refl _ _ | refine Le.trans (Step.le (by assumption)) ?_)) (by omega) (fun u4_2 a4_2 hg4_2 hu4_2 => ?_)
              obtain rfl : a4_2 = x := Option.some.inj (hg4_2.symm.trans (by simpa using hx))
              exact Rg.nil ⟨rfl, rfl, _, rfl, hu4_2, Step.refl _ _⟩
            refine Obls.cons ?_ ?_
            · intro wD E sD -- 3
              intro v2 hv2
              refine Rg.loadi64 (M := M) Try.underlying3 rfl rfl (by assumption) (by repeat (first | exact Le.refl _ _ | refine Le.trans (Step.le (by assumption)) ?_)) (fun in4_3 => ?_)
              exact Rg.nil ⟨rfl, rfl, _, rfl, rfl, Step.refl _ _⟩
            refine Obls.cons ?_ ?_
            · intro wD E sD -- 4
              intro x_ hx_; have hx_ : x_ = _ := hx_; subst x_
              refine Rg.ilt rfl rfl rfl ?_
              exact Rg.nil ⟨rfl, rfl, _, rfl, rfl, Step.refl _ _⟩
            refine Obls.cons ?_ ?_
            · intro wD E sD -- 5
              intro x_ hx_; have hx_ : x_ = _ := hx_; subst x_
              refine Rg.move rfl rfl ?_
              refine Rg.nil ⟨rfl, rfl, _, rfl, ?_, Step.refl _ _⟩
              exact congrArg Value.bool (decide_eq_false g4_5)
            refine Obls.cons ?_ ?_
            · intro wD E sD -- 6
              intro x_ hx_; have hx_ : x_ = _ := hx_; subst x_
              refine Rg.gyes rfl rfl ?_
              refine Rg.move rfl rfl ?_
              exact Rg.nil ⟨rfl, rfl, _, rfl, rfl, Step.refl _ _⟩
            refine Obls.cons ?_ ?_
            · intro wD E sD -- 7
              intro x_ hx_; have hx_ : x_ = _ := hx_; subst x_
              intro x_ hx_; have hx_ : x_ = _ := hx_; subst x_
              refine Rg.gyes rfl rfl ?_
              refine Rg.igt rfl rfl rfl ?_
              exact Rg.nil ⟨rfl, rfl, _, rfl, rfl, Step.refl _ _⟩
            refine Obls.cons ?_ ?_
            · intro wD E sD -- 8
              intro x_ hx_; have hx_ : x_ = _ := hx_; subst x_
              intro x_ hx_; have hx_ : x_ = _ := hx_; subst x_
              intro x_ hx_; have hx_ : x_ = _ := hx_; subst x_
              refine Rg.gyes rfl rfl ?_
              refine Rg.move rfl rfl ?_
              refine Rg.nil ⟨rfl, rfl, _, rfl, ?_, Step.refl _ _⟩
              exact congrArg Value.bool (decide_eq_true g4_8)
            refine Obls.cons ?_ ?_
            · intro wD E sD -- 9
              intro x_ hx_; have hx_ : x_ = _ := hx_; subst x_
              refine Rg.gyes rfl rfl ?_
              refine Rg.move rfl rfl ?_
              exact Rg.nil ⟨rfl, rfl, _, rfl, rfl, Step.refl _ _⟩
            refine Obls.cons ?_ ?_
            · intro wD E sD -- 10
              intro x_ hx_; have hx_ : x_ = _ := hx_; subst x_
              refine Rg.gyes rfl rfl ?_
              refine Rg.move rfl rfl ?_
              exact Rg.nil ⟨rfl, rfl, _, rfl, rfl, Step.refl _ _⟩
            refine Obls.cons ?_ ?_
            · intro wD E sD -- 11
              intro x_ hx_; have hx_ : x_ = _ := hx_; subst x_
              intro x_ hx_; have hx_ : x_ = _ := hx_; subst x_
              intro x_ hx_; have hx_ : x_ = _ := hx_; subst x_
              refine Rg.gyes rfl rfl ?_
              refine Rg.idx (M := M) Try.underlying23 I3 rfl rfl rfl (by assumption) (by repeat (first | exact Le.refl _ _ | refine Le.trans (Step.le (by assumption)) ?_)) (by omega) (fun u4_11 a4_11 hg4_11 hu4_11 => ?_)
              obtain rfl : a4_11 = x := Option.some.inj (hg4_11.symm.trans (by simpa using hx))
              exact Rg.nil ⟨rfl, rfl, _, rfl, hu4_11, Step.refl _ _⟩
            refine Obls.cons ?_ ?_
            · intro wD E sD -- 12
              intro v11 hv11
              intro x_ hx_; have hx_ : x_ = _ := hx_; subst x_
              refine Rg.gyes rfl rfl ?_
              refine Rg.loadi64 (M := M) Try.underlying3 rfl rfl (by assumption) (by repeat (first | exact Le.refl _ _ | refine Le.trans (Step.le (by assumption)) ?_)) (fun in4_12 => ?_)
              exact Rg.nil ⟨rfl, rfl, _, rfl, rfl, Step.refl _ _⟩
            refine Obls.cons ?_ ?_
            · intro wD E sD -- 13
              intro x_ hx_; have hx_ : x_ = _ := hx_; subst x_
              refine Rg.gyes rfl rfl ?_
              refine Rg.move rfl rfl ?_
              exact Rg.nil ⟨rfl, rfl, _, rfl, rfl, Step.refl _ _⟩
            refine Obls.cons ?_ ?_
            · intro wD E sD -- 14
              intro x_ hx_; have hx_ : x_ = _ := hx_; subst x_
              refine Rg.gyes rfl rfl ?_
              refine Rg.move rfl rfl ?_
              exact Rg.nil ⟨rfl, rfl, _, rfl, rfl, Step.refl _ _⟩
            refine Obls.cons ?_ ?_
            · intro wD E sD -- 15
              intro x_ hx_; have hx_ : x_ = _ := hx_; subst x_
              intro x_ hx_; have hx_ : x_ = _ := hx_; subst x_
              refine Rg.gyes rfl rfl ?_
              refine Rg.isub rfl rfl rfl (by omega) ?_
              exact Rg.nil ⟨rfl, rfl, _, rfl, rfl, Step.refl _ _⟩
            refine Obls.cons ?_ ?_
            · intro wD E sD -- 16
              intro x_ hx_; have hx_ : x_ = _ := hx_; subst x_
              intro x_ hx_; have hx_ : x_ = _ := hx_; subst x_
              intro x_ hx_; have hx_ : x_ = _ := hx_; subst x_
              refine Rg.gyes rfl rfl ?_
              refine Rg.idx (M := M) Try.underlying23 I3 rfl rfl rfl (by assumption) (by repeat (first | exact Le.refl _ _ | refine Le.trans (Step.le (by assumption)) ?_)) (by omega) (fun u4_16 a4_16 hg4_16 hu4_16 => ?_)
              obtain rfl : a4_16 = y := Option.some.inj (hg4_16.symm.trans (by rw [show ((k : Int) - 1).toNat = k - 1 from by omega]; exact h1'))
              exact Rg.nil ⟨rfl, rfl, _, rfl, hu4_16, Step.refl _ _⟩
            refine Obls.cons ?_ ?_
            · intro wD E sD -- 17
              intro v16 hv16
              intro x_ hx_; have hx_ : x_ = _ := hx_; subst x_
              refine Rg.gyes rfl rfl ?_
              refine Rg.loadi64 (M := M) Try.underlying3 rfl rfl (by assumption) (by repeat (first | exact Le.refl _ _ | refine Le.trans (Step.le (by assumption)) ?_)) (fun in4_17 => ?_)
              exact Rg.nil ⟨rfl, rfl, _, rfl, rfl, Step.refl _ _⟩
            refine Obls.cons ?_ ?_
            · intro wD E sD -- 18
              intro x_ hx_; have hx_ : x_ = _ := hx_; subst x_
              intro x_ hx_; have hx_ : x_ = _ := hx_; subst x_
              intro x_ hx_; have hx_ : x_ = _ := hx_; subst x_
              refine Rg.gyes rfl rfl ?_
              refine Rg.ile rfl rfl rfl ?_
              exact Rg.nil ⟨rfl, rfl, _, rfl, rfl, Step.refl _ _⟩
            refine Obls.cons ?_ ?_
            · intro wD E sD -- 19
              intro x_ hx_; have hx_ : x_ = _ := hx_; subst x_
              intro x_ hx_; have hx_ : x_ = _ := hx_; subst x_
              intro x_ hx_; have hx_ : x_ = _ := hx_; subst x_
              refine Rg.gyes rfl rfl ?_
              refine Rg.pickt rfl rfl rfl ?_
              exact Rg.nil ⟨rfl, rfl, _, rfl, rfl, Step.refl _ _⟩
            refine Obls.cons ?_ ?_
            · intro wD E sD -- 20
              intro x_ hx_; have hx_ : x_ = _ := hx_; subst x_
              intro x_ hx_; have hx_ : x_ = _ := hx_; subst x_
              refine Rg.pickf rfl rfl rfl ?_
              exact Rg.nil ⟨rfl, rfl, _, rfl, rfl, Step.refl _ _⟩
            exact Obls.nil
          · -- behind it
            intro wD4 sD4
            intro x_ hx_; have hx_ : x_ = _ := hx_; subst x_
            intro x_ hx_; have hx_ : x_ = _ := hx_; subst x_
            intro v4_2 hv4_2
            intro x_ hx_; have hx_ : x_ = _ := hx_; subst x_
            intro x_ hx_; have hx_ : x_ = _ := hx_; subst x_
            intro x_ hx_; have hx_ : x_ = _ := hx_; subst x_
            intro x_ hx_; have hx_ : x_ = _ := hx_; subst x_
            intro x_ hx_; have hx_ : x_ = _ := hx_; subst x_
            intro x_ hx_; have hx_ : x_ = _ := hx_; subst x_
            intro x_ hx_; have hx_ : x_ = _ := hx_; subst x_
            intro x_ hx_; have hx_ : x_ = _ := hx_; subst x_
            intro v4_11 hv4_11
            intro x_ hx_; have hx_ : x_ = _ := hx_; subst x_
            intro x_ hx_; have hx_ : x_ = _ := hx_; subst x_
            intro x_ hx_; have hx_ : x_ = _ := hx_; subst x_
            intro x_ hx_; have hx_ : x_ = _ := hx_; subst x_
            intro v4_16 hv4_16
            intro x_ hx_; have hx_ : x_ = _ := hx_; subst x_
            intro x_ hx_; have hx_ : x_ = _ := hx_; subst x_
            intro x_ hx_; have hx_ : x_ = _ := hx_; subst x_
            intro x_ hx_; have hx_ : x_ = _ := hx_; subst x_
            refine T.ifp rfl (fun c4 => ?_) (fun c4 => ?_)
            · -- c4 True
              refine T.seq ?_
              refine T.region ?_ -- region 5
              refine Rg.assign rfl rfl ?_
              refine Rg.nil ?_
              refine T.ret ?_
              refine Kret1 rfl rfl ⟨?_, s1.trans0 sD4⟩
              rw [hr, rises_drop hx, decide_eq_false (by omega)]; rfl
            · -- c4 False
              refine T.skip ?_
              refine T.region ?_ -- region 3
              refine Rg.move rfl rfl ?_
              refine Rg.iadd rfl rfl rfl (by omega) ?_
              refine Rg.assign rfl rfl ?_
              refine Rg.nil ?_
              refine ⟨rfl, (k + 1, x), (.cons rfl (.cons rfl .nil)), ?_, ?_⟩
              · refine ⟨s1.trans0 sD4, by have := (List.getElem?_eq_some_iff.1 hx).1; simp only; omega, ?_, ?_, fun h => by simp at h, fun _ => by simpa using hx⟩
                · rw [hr, rises_drop hx, decide_eq_true (by omega), Bool.true_and]
                · simp only; omega
              · have := (List.getElem?_eq_some_iff.1 hx).1; simp only; omega
        · -- g4_8 False
          have h0' := h0 (by omega)
          apply T.draw (M := M) mixed [Asr.eq _, Asr.eq _, Asr.ptr (RT.int .i64) x, Asr.eq _, Asr.eq _, Asr.eq (.bool false), Asr.eq _, Asr.eq _, Asr.eq (.bool false), Asr.eq undef, Asr.eq undef, Asr.eq undef, Asr.eq undef, Asr.eq undef, Asr.eq undef, Asr.eq undef, Asr.eq undef, Asr.eq undef, Asr.eq undef, Asr.eq _, Asr.eq _] -- region 4
          · rfl
          · -- its operations
            refine Obls.cons ?_ ?_
            · intro wD E sD -- 0
              refine Rg.move rfl rfl ?_
              exact Rg.nil ⟨rfl, rfl, _, rfl, rfl, Step.refl _ _⟩
            refine Obls.cons ?_ ?_
            · intro wD E sD -- 1
              refine Rg.move rfl rfl ?_
              exact Rg.nil ⟨rfl, rfl, _, rfl, rfl, Step.refl _ _⟩
            refine Obls.cons ?_ ?_
            · intro wD E sD -- 2
              intro x_ hx_; have hx_ : x_ = _ := hx_; subst x_
              intro x_ hx_; have hx_ : x_ = _ := hx_; subst x_
              refine Rg.idx (M := M) Try.underlying23 I3 rfl rfl rfl (by assumption) (by repeat (first | exact Le.refl _ _ | refine Le.trans (Step.le (by assumption)) ?_)) (by omega) (fun u4_2 a4_2 hg4_2 hu4_2 => ?_)
              obtain rfl : a4_2 = x := Option.some.inj (hg4_2.symm.trans (by simpa using hx))
              exact Rg.nil ⟨rfl, rfl, _, rfl, hu4_2, Step.refl _ _⟩
            refine Obls.cons ?_ ?_
            · intro wD E sD -- 3
              intro v2 hv2
              refine Rg.loadi64 (M := M) Try.underlying3 rfl rfl (by assumption) (by repeat (first | exact Le.refl _ _ | refine Le.trans (Step.le (by assumption)) ?_)) (fun in4_3 => ?_)
              exact Rg.nil ⟨rfl, rfl, _, rfl, rfl, Step.refl _ _⟩
            refine Obls.cons ?_ ?_
            · intro wD E sD -- 4
              intro x_ hx_; have hx_ : x_ = _ := hx_; subst x_
              refine Rg.ilt rfl rfl rfl ?_
              exact Rg.nil ⟨rfl, rfl, _, rfl, rfl, Step.refl _ _⟩
            refine Obls.cons ?_ ?_
            · intro wD E sD -- 5
              intro x_ hx_; have hx_ : x_ = _ := hx_; subst x_
              refine Rg.move rfl rfl ?_
              refine Rg.nil ⟨rfl, rfl, _, rfl, ?_, Step.refl _ _⟩
              exact congrArg Value.bool (decide_eq_false g4_5)
            refine Obls.cons ?_ ?_
            · intro wD E sD -- 6
              intro x_ hx_; have hx_ : x_ = _ := hx_; subst x_
              refine Rg.gyes rfl rfl ?_
              refine Rg.move rfl rfl ?_
              exact Rg.nil ⟨rfl, rfl, _, rfl, rfl, Step.refl _ _⟩
            refine Obls.cons ?_ ?_
            · intro wD E sD -- 7
              intro x_ hx_; have hx_ : x_ = _ := hx_; subst x_
              intro x_ hx_; have hx_ : x_ = _ := hx_; subst x_
              refine Rg.gyes rfl rfl ?_
              refine Rg.igt rfl rfl rfl ?_
              exact Rg.nil ⟨rfl, rfl, _, rfl, rfl, Step.refl _ _⟩
            refine Obls.cons ?_ ?_
            · intro wD E sD -- 8
              intro x_ hx_; have hx_ : x_ = _ := hx_; subst x_
              intro x_ hx_; have hx_ : x_ = _ := hx_; subst x_
              intro x_ hx_; have hx_ : x_ = _ := hx_; subst x_
              refine Rg.gyes rfl rfl ?_
              refine Rg.move rfl rfl ?_
              refine Rg.nil ⟨rfl, rfl, _, rfl, ?_, Step.refl _ _⟩
              exact congrArg Value.bool (decide_eq_false g4_8)
            refine Obls.cons ?_ ?_
            · intro wD E sD -- 9
              intro x_ hx_; have hx_ : x_ = _ := hx_; subst x_
              exact Rg.gno rfl rfl rfl rfl (Rg.nil ⟨rfl, rfl, _, rfl, rfl, Step.refl _ _⟩)
            refine Obls.cons ?_ ?_
            · intro wD E sD -- 10
              intro x_ hx_; have hx_ : x_ = _ := hx_; subst x_
              exact Rg.gno rfl rfl rfl rfl (Rg.nil ⟨rfl, rfl, _, rfl, rfl, Step.refl _ _⟩)
            refine Obls.cons ?_ ?_
            · intro wD E sD -- 11
              intro x_ hx_; have hx_ : x_ = _ := hx_; subst x_
              intro x_ hx_; have hx_ : x_ = _ := hx_; subst x_
              intro x_ hx_; have hx_ : x_ = _ := hx_; subst x_
              exact Rg.gno rfl rfl rfl rfl (Rg.nil ⟨rfl, rfl, _, rfl, rfl, Step.refl _ _⟩)
            refine Obls.cons ?_ ?_
            · intro wD E sD -- 12
              intro x_ hx_; have hx_ : x_ = _ := hx_; subst x_
              intro x_ hx_; have hx_ : x_ = _ := hx_; subst x_
              exact Rg.gno rfl rfl rfl rfl (Rg.nil ⟨rfl, rfl, _, rfl, rfl, Step.refl _ _⟩)
            refine Obls.cons ?_ ?_
            · intro wD E sD -- 13
              intro x_ hx_; have hx_ : x_ = _ := hx_; subst x_
              exact Rg.gno rfl rfl rfl rfl (Rg.nil ⟨rfl, rfl, _, rfl, rfl, Step.refl _ _⟩)
            refine Obls.cons ?_ ?_
            · intro wD E sD -- 14
              intro x_ hx_; have hx_ : x_ = _ := hx_; subst x_
              exact Rg.gno rfl rfl rfl rfl (Rg.nil ⟨rfl, rfl, _, rfl, rfl, Step.refl _ _⟩)
            refine Obls.cons ?_ ?_
            · intro wD E sD -- 15
              intro x_ hx_; have hx_ : x_ = _ := hx_; subst x_
              intro x_ hx_; have hx_ : x_ = _ := hx_; subst x_
              exact Rg.gno rfl rfl rfl rfl (Rg.nil ⟨rfl, rfl, _, rfl, rfl, Step.refl _ _⟩)
            refine Obls.cons ?_ ?_
            · intro wD E sD -- 16
              intro x_ hx_; have hx_ : x_ = _ := hx_; subst x_
              intro x_ hx_; have hx_ : x_ = _ := hx_; subst x_
              intro x_ hx_; have hx_ : x_ = _ := hx_; subst x_
              exact Rg.gno rfl rfl rfl rfl (Rg.nil ⟨rfl, rfl, _, rfl, rfl, Step.refl _ _⟩)
            refine Obls.cons ?_ ?_
            · intro wD E sD -- 17
              intro x_ hx_; have hx_ : x_ = _ := hx_; subst x_
              intro x_ hx_; have hx_ : x_ = _ := hx_; subst x_
              exact Rg.gno rfl rfl rfl rfl (Rg.nil ⟨rfl, rfl, _, rfl, rfl, Step.refl _ _⟩)
            refine Obls.cons ?_ ?_
            · intro wD E sD -- 18
              intro x_ hx_; have hx_ : x_ = _ := hx_; subst x_
              intro x_ hx_; have hx_ : x_ = _ := hx_; subst x_
              intro x_ hx_; have hx_ : x_ = _ := hx_; subst x_
              exact Rg.gno rfl rfl rfl rfl (Rg.nil ⟨rfl, rfl, _, rfl, rfl, Step.refl _ _⟩)
            refine Obls.cons ?_ ?_
            · intro wD E sD -- 19
              intro x_ hx_; have hx_ : x_ = _ := hx_; subst x_
              intro x_ hx_; have hx_ : x_ = _ := hx_; subst x_
              intro x_ hx_; have hx_ : x_ = _ := hx_; subst x_
              refine Rg.gyes rfl rfl ?_
              refine Rg.pickf rfl rfl rfl ?_
              exact Rg.nil ⟨rfl, rfl, _, rfl, rfl, Step.refl _ _⟩
            refine Obls.cons ?_ ?_
            · intro wD E sD -- 20
              intro x_ hx_; have hx_ : x_ = _ := hx_; subst x_
              intro x_ hx_; have hx_ : x_ = _ := hx_; subst x_
              refine Rg.pickf rfl rfl rfl ?_
              exact Rg.nil ⟨rfl, rfl, _, rfl, rfl, Step.refl _ _⟩
            exact Obls.nil
          · -- behind it
            intro wD4 sD4
            intro x_ hx_; have hx_ : x_ = _ := hx_; subst x_
            intro x_ hx_; have hx_ : x_ = _ := hx_; subst x_
            intro v4_2 hv4_2
            intro x_ hx_; have hx_ : x_ = _ := hx_; subst x_
            intro x_ hx_; have hx_ : x_ = _ := hx_; subst x_
            intro x_ hx_; have hx_ : x_ = _ := hx_; subst x_
            intro x_ hx_; have hx_ : x_ = _ := hx_; subst x_
            intro x_ hx_; have hx_ : x_ = _ := hx_; subst x_
            intro x_ hx_; have hx_ : x_ = _ := hx_; subst x_
            intro x_ hx_; have hx_ : x_ = _ := hx_; subst x_
            intro x_ hx_; have hx_ : x_ = _ := hx_; subst x_
            intro x_ hx_; have hx_ : x_ = _ := hx_; subst x_
            intro x_ hx_; have hx_ : x_ = _ := hx_; subst x_
            intro x_ hx_; have hx_ : x_ = _ := hx_; subst x_
            intro x_ hx_; have hx_ : x_ = _ := hx_; subst x_
            intro x_ hx_; have hx_ : x_ = _ := hx_; subst x_
            intro x_ hx_; have hx_ : x_ = _ := hx_; subst x_
            intro x_ hx_; have hx_ : x_ = _ := hx_; subst x_
            intro x_ hx_; have hx_ : x_ = _ := hx_; subst x_
            intro x_ hx_; have hx_ : x_ = _ := hx_; subst x_
            intro x_ hx_; have hx_ : x_ = _ := hx_; subst x_
            refine T.iff rfl ?_
            refine T.skip ?_
            refine T.region ?_ -- region 3
            refine Rg.move rfl rfl ?_
            refine Rg.iadd rfl rfl rfl (by omega) ?_
            refine Rg.assign rfl rfl ?_
            refine Rg.nil ?_
            refine ⟨rfl, (k + 1, x), (.cons rfl (.cons rfl .nil)), ?_, ?_⟩
            · refine ⟨s1.trans0 sD4, by have := (List.getElem?_eq_some_iff.1 hx).1; simp only; omega, ?_, ?_, fun h => by simp at h, fun _ => by simpa using hx⟩
              · rw [hr, rises_drop hx, decide_eq_true (by omega), Bool.true_and]
              · simp only; omega
            · have := (List.getElem?_eq_some_iff.1 hx).1; simp only; omega
    · -- c2 False
      refine T.exit ?_
      refine T.seq ?_
      refine T.region ?_ -- region 6
      refine Rg.assign rfl rfl ?_
      refine Rg.nil ?_
      refine T.ret ?_
      refine Kret1 rfl rfl ⟨?_, s1⟩
      rw [hr, List.drop_eq_nil_of_le (by omega)]; rfl

/-- 'concordance/concordanceref04.Good' -/
theorem Good_spec {M : PSet} {w0 : World} {v : Value} {l : List Int} {most : Nat} (hM : Lt M w0) (hv : ((RT.int .i64).sl).V M w0 l v) (hmost : most ≤ 1099511627776) :
    Spec Try.prog 4 #[v, .int .i64 most] w0 (fun v' w' => Step M w0 M w' none' ∧ ((RT.int .i64).sl).V M w' (good l most) v') := by
  have hlen := V_sl_len hv
  refine spec_of (args := [_, _]) (fn := Try.f4) Try.func4 rfl (n := 39) Try.ntmps4 ?_
  refine T.seq ?_
  refine T.region ?_ -- region 0
  refine Rg.assign rfl rfl ?_
  refine Rg.nil ?_
  refine T.seq ?_
  refine T.region ?_ -- region 1
  refine Rg.assign rfl rfl ?_
  refine Rg.nil ?_
  refine T.seq ?_
  refine T.region ?_ -- region 2
  refine Rg.assign rfl rfl ?_
  refine Rg.nil ?_
  refine T.seq ?_
  refine T.seq ?_
  refine T.region ?_ -- region 3
  refine Rg.assign rfl rfl ?_
  refine Rg.nil ?_
  refine T.block ?_
  refine T.loop (σ := Nat × Int × Value × List Int) (fun s => [(0, v), (1, .int .i64 most), (5, s.2.2.1), (6, .int .i64 s.2.1), (7, .int .i64 s.1)]) (fun s w => s.2.2.2 ++ goodL s.2.1 ((l.take most).drop s.1) = good l most ∧ s.1 ≤ l.length ∧ s.1 ≤ most ∧ -1 ≤ s.2.1 ∧ s.2.1 < 1000 * s.1 ∧ s.2.2.2.length = s.1 ∧ ∃ M1, Lt M1 w ∧ Step M w0 M1 w none' ∧ Own (RT.int .i64) 3 M1 w w0.heap.size s.2.2.1 s.2.2.2) (fun s => l.length - s.1) (0, -1, _, []) (.cons rfl (.cons rfl (.cons rfl (.cons rfl (.cons rfl .nil))))) ?_ ?_ -- loop 0
  · exact ⟨rfl, Nat.zero_le _, Nat.zero_le _, by decide, by decide, rfl, M, hM, Step.refl _ _, Own.nil _ _ _ _ _⟩
  · rintro ⟨k, last, u0, acc⟩ w1 ⟨hacc, hk, hkm, hl0, hl1, hal, M1, hM1, s1, ho⟩
    dsimp only at hacc hk hkm hl0 hl1 hal ho ⊢
    refine T.seq ?_
    refine T.seq ?_
    refine T.region ?_ -- region 4
    refine Rg.move rfl rfl ?_
    refine Rg.move rfl rfl ?_
    first | refine Rg.lensl Try.underlying23 rfl (by assumption) rfl ?_ | refine Rg.lenown Try.underlying23 rfl (by assumption) rfl ?_
    refine Rg.ilt rfl rfl rfl ?_
    refine Rg.move rfl rfl ?_
    refine Rg.gsplitp (g := 13) rfl (fun g4_4 => ?_) (fun g4_4 => ?_)
    · -- g4_4 True
      refine Rg.gyes rfl rfl ?_
      refine Rg.move rfl rfl ?_
      refine Rg.gyes rfl rfl ?_
      refine Rg.move rfl rfl ?_
      refine Rg.gyes rfl rfl ?_
      refine Rg.ilt rfl rfl rfl ?_
      refine Rg.pickt rfl rfl rfl ?_
      refine Rg.nil ?_
      refine T.ifp rfl (fun c4 => ?_) (fun c4 => ?_)
      · -- c4 True
        refine T.skip ?_
        refine T.seq ?_
        refine T.block ?_
        refine T.seq ?_
        refine T.region ?_ -- region 6
        refine Rg.move rfl rfl ?_
        refine Rg.move rfl rfl ?_
        obtain ⟨x, hx⟩ : ∃ x, l[k]? = some x := ⟨_, List.getElem?_eq_getElem (by omega)⟩
        have hxr := i64_of hv hx
        refine Rg.idx (M := M) Try.underlying23 I3 rfl rfl rfl (hv.le (s1.back).le) (Le.refl _ _) (by omega) (fun u6_2 a6_2 hg6_2 hu6_2 => ?_)
        obtain rfl : a6_2 = x := Option.some.inj (hg6_2.symm.trans (by simpa using hx))
        refine Rg.loadi64 (M := M) Try.underlying3 rfl rfl hu6_2 (Le.refl _ _) (fun _ => ?_)
        refine Rg.assign rfl rfl ?_
        refine Rg.nil ?_
        refine T.seq ?_
        refine T.seq ?_
        refine T.region ?_ -- region 7
        refine Rg.move rfl rfl ?_
        refine Rg.ilt rfl rfl rfl ?_
        refine Rg.nil ?_
        refine T.ifp rfl (fun c7 => ?_) (fun c7 => ?_)
        · -- c7 True
          refine T.region ?_ -- region 8
          refine Rg.move rfl rfl ?_
          refine Rg.iadd rfl rfl rfl (by omega) ?_
          refine Rg.neg rfl rfl (by omega) ?_
          refine Rg.assign rfl rfl ?_
          refine Rg.nil ?_
          refine T.seq ?_
          refine T.region ?_ -- region 9
          refine Rg.move rfl rfl ?_
          refine Rg.iadd rfl rfl rfl (by omega) ?_
          refine Rg.move rfl rfl ?_
          refine Rg.imod rfl rfl rfl (by omega) ?_
          have hmod := Int.emod_nonneg (if a6_2 < 0 then -(a6_2 + 1) else a6_2) (show (1000 : Int) ≠ 0 by decide)
          have hmod2 := Int.emod_lt_of_pos (if a6_2 < 0 then -(a6_2 + 1) else a6_2) (show (0 : Int) < 1000 by decide)
          refine Rg.eqv (v' := .int .i64 ((if a6_2 < 0 then -(a6_2 + 1) else a6_2) % 1000)) (by first | rw [if_pos c7] | rw [if_neg c7]) ?_
          generalize hmm : (if a6_2 < 0 then -(a6_2 + 1) else a6_2) % 1000 = mm at hmod hmod2 ⊢
          refine Rg.iadd rfl rfl rfl (by omega) ?_
          refine Rg.assign rfl rfl ?_
          refine Rg.nil ?_
          refine T.region ?_ -- region 10
          refine Rg.move rfl rfl ?_
          refine Rg.move rfl rfl ?_
          refine Rg.sl1 (A := RT.int .i64) (hn := by decide) (M := M1) Try.underlying23 I3 (by decide) rfl rfl hM1 (V_i64 (by omega)) (.inr ⟨rfl, rfl⟩) (fun u w2 hu s2 => ?_)
          refine Rg.append (M := M1) (base := w0.heap.size) Try.underlying23 I3 rfl rfl rfl rfl (ho.step0 s2) hu (Le.refl _ _) (by simp; omega) (by simp; omega) (Nat.le_trans s1.size s2.size) (fun v3 M3 w3 ho3 s3 => ?_)
          refine Rg.assign rfl rfl ?_
          refine Rg.nil ?_
          refine T.region ?_ -- region 5
          refine Rg.move rfl rfl ?_
          refine Rg.iadd rfl rfl rfl (by omega) ?_
          refine Rg.assign rfl rfl ?_
          refine Rg.nil ?_
          refine ⟨rfl, (k + 1, last + 1 + mm, v3, acc ++ [last + 1 + mm]), (.cons rfl (.cons rfl (.cons rfl (.cons rfl (.cons rfl .nil))))), ?_, ?_⟩
          · refine ⟨?_, by simp only; omega, by simp only; omega, by simp only; omega, by simp only; omega, by simp; omega, M3, s3.lt (s2.lt hM1), (s1.trans0 s2).transBlk s3 (ho.step0 s2) (Nat.le_refl _), ho3⟩
            rw [← hacc, goodL_drop (l := l.take most) (k := k) (x := a6_2) (by rw [List.getElem?_take, if_pos (by omega)]; exact hx), hmm]; simp
          · simp only; omega
        · -- c7 False
          refine T.skip ?_
          refine T.seq ?_
          refine T.region ?_ -- region 9
          refine Rg.move rfl rfl ?_
          refine Rg.iadd rfl rfl rfl (by omega) ?_
          refine Rg.move rfl rfl ?_
          refine Rg.imod rfl rfl rfl (by omega) ?_
          have hmod := Int.emod_nonneg (if a6_2 < 0 then -(a6_2 + 1) else a6_2) (show (1000 : Int) ≠ 0 by decide)
          have hmod2 := Int.emod_lt_of_pos (if a6_2 < 0 then -(a6_2 + 1) else a6_2) (show (0 : Int) < 1000 by decide)
          refine Rg.eqv (v' := .int .i64 ((if a6_2 < 0 then -(a6_2 + 1) else a6_2) % 1000)) (by first | rw [if_pos c7] | rw [if_neg c7]) ?_
          generalize hmm : (if a6_2 < 0 then -(a6_2 + 1) else a6_2) % 1000 = mm at hmod hmod2 ⊢
          refine Rg.iadd rfl rfl rfl (by omega) ?_
          refine Rg.assign rfl rfl ?_
          refine Rg.nil ?_
          refine T.region ?_ -- region 10
          refine Rg.move rfl rfl ?_
          refine Rg.move rfl rfl ?_
          refine Rg.sl1 (A := RT.int .i64) (hn := by decide) (M := M1) Try.underlying23 I3 (by decide) rfl rfl hM1 (V_i64 (by omega)) (.inr ⟨rfl, rfl⟩) (fun u w2 hu s2 => ?_)
          refine Rg.append (M := M1) (base := w0.heap.size) Try.underlying23 I3 rfl rfl rfl rfl (ho.step0 s2) hu (Le.refl _ _) (by simp; omega) (by simp; omega) (Nat.le_trans s1.size s2.size) (fun v3 M3 w3 ho3 s3 => ?_)
          refine Rg.assign rfl rfl ?_
          refine Rg.nil ?_
          refine T.region ?_ -- region 5
          refine Rg.move rfl rfl ?_
          refine Rg.iadd rfl rfl rfl (by omega) ?_
          refine Rg.assign rfl rfl ?_
          refine Rg.nil ?_
          refine ⟨rfl, (k + 1, last + 1 + mm, v3, acc ++ [last + 1 + mm]), (.cons rfl (.cons rfl (.cons rfl (.cons rfl (.cons rfl .nil))))), ?_, ?_⟩
          · refine ⟨?_, by simp only; omega, by simp only; omega, by simp only; omega, by simp only; omega, by simp; omega, M3, s3.lt (s2.lt hM1), (s1.trans0 s2).transBlk s3 (ho.step0 s2) (Nat.le_refl _), ho3⟩
            rw [← hacc, goodL_drop (l := l.take most) (k := k) (x := a6_2) (by rw [List.getElem?_take, if_pos (by omega)]; exact hx), hmm]; simp
          · simp only; omega
      · -- c4 False
        refine T.exit ?_
        refine T.seq ?_
        refine T.region ?_ -- region 11
        refine Rg.move rfl rfl ?_
        refine Rg.assign rfl rfl ?_
        refine Rg.nil ?_
        refine T.ret ?_
        refine Kret1 rfl rfl ⟨s1.back, ?_⟩
        rw [← hacc, List.drop_eq_nil_of_le (by rw [List.length_take]; omega), goodL, List.append_nil]
        exact Own.close hM s1 ho (by omega)
    · -- g4_4 False
      refine Rg.gno rfl rfl rfl rfl ?_
      refine Rg.gno rfl rfl rfl rfl ?_
      refine Rg.gno rfl rfl rfl rfl ?_
      refine Rg.pickf rfl rfl rfl ?_
      refine Rg.nil ?_
      refine T.iff rfl ?_
      refine T.exit ?_
      refine T.seq ?_
      refine T.region ?_ -- region 11
      refine Rg.move rfl rfl ?_
      refine Rg.assign rfl rfl ?_
      refine Rg.nil ?_
      refine T.ret ?_
      refine Kret1 rfl rfl ⟨s1.back, ?_⟩
      rw [← hacc, List.drop_eq_nil_of_le (by rw [List.length_take]; omega), goodL, List.append_nil]
      exact Own.close hM s1 ho (by omega)

end Go.K

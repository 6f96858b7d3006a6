/- The walks of Go functions, operation by operation. -/
import Derived.Test.YtbgekgiaoedjiaaKTypes
import Derived.Test.YtbgekgiaoedjiaaKNum
import Derived.Test.YtbgekgiaoedjiaaKBits
import Derived.Test.YtbgekgiaoedjiaaKHp
import Derived.Test.YtbgekgiaoedjiaaKQuiet
import Derived.Test.YtbgekgiaoedjiaaProg
namespace Go.K
open Go.Proofs
set_option linter.unusedVariables false
set_option linter.unusedSimpArgs false
set_option maxRecDepth 10000

theorem mLen : Meth Try.prog 37 "Len" 15 false := by unfold Meth; kernel_rfl
theorem mLess : Meth Try.prog 37 "Less" 47 false := by unfold Meth; kernel_rfl
theorem mSwap : Meth Try.prog 37 "Swap" 50 false := by unfold Meth; kernel_rfl
theorem mPush : Meth Try.prog 37 "Push" 49 true := by unfold Meth; kernel_rfl
theorem mPop : Meth Try.prog 37 "Pop" 48 true := by unfold Meth; kernel_rfl
/-- '(concordance/merge.heads).Len' -/
theorem Len_spec {M : PSet} {w0 : World} {base : Nat} {v : Value} {hs : List Hd} (ho : Own RT.hd 42 M w0 base v hs) :
    Spec Try.prog 15 #[v] w0 (fun v' w' => v' = .int .i64 hs.length ∧ w0 = w') := by
  refine spec_of (args := [_]) (fn := Try.f15) Try.func15 rfl (n := 5) Try.ntmps15 ?_
  refine T.seq ?_
  refine T.region ?_ -- region 0
  refine Rg.assign rfl rfl ?_
  refine Rg.nil ?_
  refine T.seq ?_
  refine T.region ?_ -- region 1
  refine Rg.move rfl rfl ?_
  refine Rg.lenown Try.underlying39 rfl ho rfl ?_
  refine Rg.assign rfl rfl ?_
  refine Rg.nil ?_
  refine T.ret ?_
  exact Kret1 rfl rfl ⟨rfl, rfl⟩

/-- '(concordance/merge.heads).Less' -/
theorem Less_spec {M : PSet} {w0 : World} {v : Value} {hs : List Hd} {i j : Nat} (hv : ((RT.hd).sl).V M w0 hs v) (hi : i < hs.length) (hj : j < hs.length) :
    Spec Try.prog 47 #[v, .int .i64 i, .int .i64 j] w0 (fun v' w' => v' = .bool (decide (hn hs i < hn hs j)) ∧ Step M w0 M w' none') := by
  have hlen := V_sl_len hv
  obtain ⟨⟨a1, a2, a3⟩, hx⟩ : ∃ x, hs[i]? = some x := ⟨_, List.getElem?_eq_getElem hi⟩
  obtain ⟨⟨b1, b2, b3⟩, hy⟩ : ∃ x, hs[j]? = some x := ⟨_, List.getElem?_eq_getElem hj⟩
  refine spec_of (args := [_, _, _]) (fn := Try.f47) Try.func47 rfl (n := 18) Try.ntmps47 ?_
  refine T.seq ?_
  refine T.region ?_ -- region 0
  refine Rg.assign rfl rfl ?_
  refine Rg.nil ?_
  refine T.seq ?_
  apply T.drawQ0 mixed rfl rfl -- region 1
  intro wD1 sA1
  have sD1 := sA1 M
  refine Rg.move rfl rfl ?_
  refine Rg.nil ⟨rfl, rfl, rfl, ?_⟩
  refine Rg.move rfl rfl ?_
  refine Rg.nil ⟨rfl, rfl, rfl, ?_⟩

  refine Rg.idx (M := M) Try.underlying39 I42 rfl rfl rfl (hv.le sD1.le) (Le.refl _ _) (by omega) (fun u1_2 a1_2 hg1_2 hu1_2 => ?_)
  obtain rfl : (a1, a2, a3) = a1_2 := Eq.symm (Option.some.inj (hg1_2.symm.trans (by rw [Int.toNat_natCast]; exact hx)))
  refine Rg.nil ⟨rfl, rfl, rfl, ?_⟩
  refine Rg.fieldAddr (M := M) (A := RT.hd) (B := RT.int .i64) Try.underlying42 rfl rfl I3 (by decide) (hd0) rfl rfl (by decide) (by assumption) (by repeat (first | exact Le.refl _ _ | refine Le.trans (Step.le (by assumption)) ?_)) (fun u1_3 hu1_3 => ?_)
  refine Rg.nil ⟨rfl, rfl, rfl, ?_⟩
  refine Rg.loadi64 (M := M) Try.underlying3 rfl rfl (by assumption) (by repeat (first | exact Le.refl _ _ | refine Le.trans (Step.le (by assumption)) ?_)) (fun in1_4 => ?_)
  refine Rg.eqv (v' := .int .i64 (a1)) rfl ?_
  replace in1_4 : -9223372036854775808 ≤ (a1 : Int) ∧ a1 ≤ 9223372036854775807 := in1_4
  refine Rg.nil ⟨rfl, rfl, rfl, ?_⟩
  refine Rg.move rfl rfl ?_
  refine Rg.nil ⟨rfl, rfl, rfl, ?_⟩
  refine Rg.move rfl rfl ?_
  refine Rg.nil ⟨rfl, rfl, rfl, ?_⟩

  refine Rg.idx (M := M) Try.underlying39 I42 rfl rfl rfl (hv.le sD1.le) (Le.refl _ _) (by omega) (fun u1_7 a1_7 hg1_7 hu1_7 => ?_)
  obtain rfl : (b1, b2, b3) = a1_7 := Eq.symm (Option.some.inj (hg1_7.symm.trans (by rw [Int.toNat_natCast]; exact hy)))
  refine Rg.nil ⟨rfl, rfl, rfl, ?_⟩
  refine Rg.fieldAddr (M := M) (A := RT.hd) (B := RT.int .i64) Try.underlying42 rfl rfl I3 (by decide) (hd0) rfl rfl (by decide) (by assumption) (by repeat (first | exact Le.refl _ _ | refine Le.trans (Step.le (by assumption)) ?_)) (fun u1_8 hu1_8 => ?_)
  refine Rg.nil ⟨rfl, rfl, rfl, ?_⟩
  refine Rg.loadi64 (M := M) Try.underlying3 rfl rfl (by assumption) (by repeat (first | exact Le.refl _ _ | refine Le.trans (Step.le (by assumption)) ?_)) (fun in1_9 => ?_)
  refine Rg.eqv (v' := .int .i64 (b1)) rfl ?_
  replace in1_9 : -9223372036854775808 ≤ (b1 : Int) ∧ b1 ≤ 9223372036854775807 := in1_9
  refine Rg.nil ⟨rfl, rfl, rfl, ?_⟩
  refine Rg.ilt rfl rfl rfl ?_
  refine Rg.nil ⟨rfl, rfl, rfl, ?_⟩
  refine Rg.assign rfl rfl ?_
  refine Rg.nil ⟨rfl, rfl, rfl, ?_⟩
  refine QRg.nil ?_
  refine T.ret ?_
  exact Kret1 rfl rfl ⟨by rw [hn_at hx, hn_at hy], sD1⟩

set_option maxHeartbeats 4000000 in
/-- '(concordance/merge.heads).Swap' -/
theorem Swap_spec {M : PSet} {w0 : World} {base : Nat} {v : Value} {hs : List Hd} {i j : Nat} (h : Own RT.hd 42 M w0 base v hs) (hv : v ≠ .slice none 0 0) (hi : i < hs.length) (hj : j < hs.length) :
    Spec Try.prog 50 #[v, .int .i64 i, .int .i64 j] w0 (fun v' w' => Own RT.hd 42 M w' base v (swp hs i j) ∧ Step M w0 M w' (blk v)) := by
  obtain ⟨g, cap, cur, rfl, hbg, hMg, hcur⟩ := h.ofSome hv
  obtain ⟨⟨x1, x2, x3⟩, hx⟩ : ∃ x, hs[i]? = some x := ⟨_, List.getElem?_eq_getElem hi⟩
  obtain ⟨⟨y1, y2, y3⟩, hy⟩ : ∃ x, hs[j]? = some x := ⟨_, List.getElem?_eq_getElem hj⟩
  obtain ⟨vx, hvx⟩ : ∃ vx, RT.hd.V M w0 (x1, x2, x3) vx := h.val hx
  obtain ⟨vy, hvy⟩ : ∃ vy, RT.hd.V M w0 (y1, y2, y3) vy := h.val hy
  obtain ⟨rfl, rx1, rx2, rx3⟩ := hd_val hvx
  obtain ⟨rfl, ry1, ry2, ry3⟩ := hd_val hvy
  refine spec_of (args := [_, _, _]) (fn := Try.f50) Try.func50 rfl (n := 20) Try.ntmps50 ?_
  apply T.drawW (M := M) mixed [(13, fun k => k = g), (15, fun k => k = g)] [Asr.eq _, Asr.eq _, Asr.eq _, Asr.eq _, Asr.eq _, Asr.eq _, Asr.eq (.pointer (some ⟨g, j * 3, none⟩)), Asr.eq (.agg #[.int .i64 y1, .int .i64 y2, .int .i64 y3]), Asr.eq _, Asr.eq _, Asr.eq (.pointer (some ⟨g, i * 3, none⟩)), Asr.eq (.agg #[.int .i64 x1, .int .i64 x2, .int .i64 x3]), Asr.eq (.pointer (some ⟨g, i * 3, none⟩)), (Asr.mk' (fun _ w => Own RT.hd 42 M w base (.slice (some ⟨g, 0, none⟩) hs.length cap) (hs.set i (y1, y2, y3)) ∨ Own RT.hd 42 M w base (.slice (some ⟨g, 0, none⟩) hs.length cap) (swp hs i j)) (fun h s => h.imp (fun h => h.step0 s) (fun h => h.step0 s))), Asr.eq (.pointer (some ⟨g, j * 3, none⟩)), (Asr.mk' (fun _ w => Own RT.hd 42 M w base (.slice (some ⟨g, 0, none⟩) hs.length cap) (swp hs i j)) (fun h s => h.step0 s))] -- region 0
  · rfl
  · intro p hp b hb; simp only [List.mem_cons, List.not_mem_nil, or_false] at hp; rcases hp with rfl | rfl <;> (have hb : b = g := hb; subst hb; exact hMg)
  · refine StOk.of [(13, 15)] ?_ ?_
    · exact ⟨fun _ _ _ _ => trivial, ⟨fun _ _ _ _ => trivial, ⟨fun _ _ _ _ => trivial, ⟨fun _ _ _ _ => trivial, ⟨fun _ _ _ _ => trivial, ⟨fun _ _ _ _ => trivial, ⟨fun _ _ _ _ => trivial, ⟨fun _ _ _ _ => trivial, ⟨fun _ _ _ _ => trivial, ⟨fun _ _ _ _ => trivial, ⟨fun _ _ _ _ => trivial, ⟨fun _ _ _ _ => trivial, ⟨fun _ _ _ _ => trivial, ⟨fun p hp => (List.not_mem_nil (show p ∈ ([] : List (Nat × PSet)) from hp)).elim, ⟨fun _ _ _ _ => trivial, ⟨fun p hp => (List.not_mem_nil (show p ∈ ([] : List (Nat × PSet)) from hp)).elim, trivial⟩⟩⟩⟩⟩⟩⟩⟩⟩⟩⟩⟩⟩⟩⟩⟩
    · intro x hx s sj h1 h2 v vj w w' hp st hq
      obtain rfl := List.mem_singleton.1 hx
      obtain rfl := Option.some.inj h1
      obtain rfl := Option.some.inj h2
      exact Or.inr hq
  · -- its operations
    refine Obls.cons ?_ ?_
    · intro wD E sD -- 0
      replace sD : Step M _ M wD none' := sD
      refine Rg.move rfl rfl ?_
      exact Rg.nil ⟨rfl, rfl, _, rfl, rfl, Step.refl _ _⟩
    refine Obls.cons ?_ ?_
    · intro wD E sD -- 1
      replace sD : Step M _ M wD none' := sD
      refine Rg.move rfl rfl ?_
      exact Rg.nil ⟨rfl, rfl, _, rfl, rfl, Step.refl _ _⟩
    refine Obls.cons ?_ ?_
    · intro wD E sD -- 2
      replace sD : Step M _ M wD (fun k => k = g) := sD
      refine Rg.move rfl rfl ?_
      exact Rg.nil ⟨rfl, rfl, _, rfl, rfl, Step.refl _ _⟩
    refine Obls.cons ?_ ?_
    · intro wD E sD -- 3
      replace sD : Step M _ M wD (fun k => k = g) := sD
      refine Rg.move rfl rfl ?_
      exact Rg.nil ⟨rfl, rfl, _, rfl, rfl, Step.refl _ _⟩
    refine Obls.cons ?_ ?_
    · intro wD E sD -- 4
      replace sD : Step M _ M wD none' := sD
      refine Rg.move rfl rfl ?_
      exact Rg.nil ⟨rfl, rfl, _, rfl, rfl, Step.refl _ _⟩
    refine Obls.cons ?_ ?_
    · intro wD E sD -- 5
      replace sD : Step M _ M wD none' := sD
      refine Rg.move rfl rfl ?_
      exact Rg.nil ⟨rfl, rfl, _, rfl, rfl, Step.refl _ _⟩
    refine Obls.cons ?_ ?_
    · intro wD E sD -- 6
      replace sD : Step M _ M wD none' := sD
      intro x_ hx_; have hx_ : x_ = _ := hx_; subst x_
      intro x_ hx_; have hx_ : x_ = _ := hx_; subst x_
      refine Rg.idxo (size := 3) Try.underlying39 I42 rfl rfl rfl (by omega) (q := j * 3) (by rw [Int.toNat_natCast, Nat.zero_add]) ?_
      exact Rg.nil ⟨rfl, rfl, _, rfl, rfl, Step.refl _ _⟩
    refine Obls.cons ?_ ?_
    · intro wD E sD -- 7
      replace sD : Step M _ M wD none' := sD
      intro x_ hx_; have hx_ : x_ = _ := hx_; subst x_
      refine Rg.loadagg (M := fun k => M k ∧ k ≠ g) (A := RT.hd) Try.underlying42 rfl I42 (by decide) rfl rfl rfl ((h.step0 sD).ptr hy) (Le.refl _ _) (fun va hva => ?_)
      obtain ⟨rfl, _, _, _⟩ := hd_val hva
      exact Rg.nil ⟨rfl, rfl, _, rfl, rfl, Step.refl _ _⟩
    refine Obls.cons ?_ ?_
    · intro wD E sD -- 8
      replace sD : Step M _ M wD (fun k => k = g) := sD
      refine Rg.move rfl rfl ?_
      exact Rg.nil ⟨rfl, rfl, _, rfl, rfl, Step.refl _ _⟩
    refine Obls.cons ?_ ?_
    · intro wD E sD -- 9
      replace sD : Step M _ M wD (fun k => k = g) := sD
      refine Rg.move rfl rfl ?_
      exact Rg.nil ⟨rfl, rfl, _, rfl, rfl, Step.refl _ _⟩
    refine Obls.cons ?_ ?_
    · intro wD E sD -- 10
      replace sD : Step M _ M wD (fun k => k = g) := sD
      intro x_ hx_; have hx_ : x_ = _ := hx_; subst x_
      intro x_ hx_; have hx_ : x_ = _ := hx_; subst x_
      refine Rg.idxo (size := 3) Try.underlying39 I42 rfl rfl rfl (by omega) (q := i * 3) (by rw [Int.toNat_natCast, Nat.zero_add]) ?_
      exact Rg.nil ⟨rfl, rfl, _, rfl, rfl, Step.refl _ _⟩
    refine Obls.cons ?_ ?_
    · intro wD E sD -- 11
      replace sD : Step M _ M wD none' := sD
      intro x_ hx_; have hx_ : x_ = _ := hx_; subst x_
      refine Rg.loadagg (M := fun k => M k ∧ k ≠ g) (A := RT.hd) Try.underlying42 rfl I42 (by decide) rfl rfl rfl ((h.step0 sD).ptr hx) (Le.refl _ _) (fun va hva => ?_)
      obtain ⟨rfl, _, _, _⟩ := hd_val hva
      exact Rg.nil ⟨rfl, rfl, _, rfl, rfl, Step.refl _ _⟩
    refine Obls.cons ?_ ?_
    · intro wD E sD -- 12
      replace sD : Step M _ M wD none' := sD
      intro x_ hx_; have hx_ : x_ = _ := hx_; subst x_
      intro x_ hx_; have hx_ : x_ = _ := hx_; subst x_
      intro x_ hx_; have hx_ : x_ = _ := hx_; subst x_
      intro x_ hx_; have hx_ : x_ = _ := hx_; subst x_
      intro x_ hx_; have hx_ : x_ = _ := hx_; subst x_
      intro x_ hx_; have hx_ : x_ = _ := hx_; subst x_
      intro x_ hx_; have hx_ : x_ = _ := hx_; subst x_
      intro x_ hx_; have hx_ : x_ = _ := hx_; subst x_
      intro x_ hx_; have hx_ : x_ = _ := hx_; subst x_
      refine Rg.idxo (size := 3) Try.underlying39 I42 rfl rfl rfl (by omega) (q := i * 3) (by rw [Int.toNat_natCast, Nat.zero_add]) ?_
      exact Rg.nil ⟨rfl, rfl, _, rfl, rfl, Step.refl _ _⟩
    refine Obls.cons ?_ ?_
    · intro wD E sD -- 13
      replace sD : Step M _ M wD none' := sD
      intro x_ hx_; have hx_ : x_ = _ := hx_; subst x_
      intro x_ hx_; have hx_ : x_ = _ := hx_; subst x_
      intro x_ hx_; have hx_ : x_ = _ := hx_; subst x_
      intro x_ hx_; have hx_ : x_ = _ := hx_; subst x_
      intro x_ hx_; have hx_ : x_ = _ := hx_; subst x_
      intro x_ hx_; have hx_ : x_ = _ := hx_; subst x_
      intro x_ hx_; have hx_ : x_ = _ := hx_; subst x_
      intro x_ hx_; have hx_ : x_ = _ := hx_; subst x_
      intro x_ hx_; have hx_ : x_ = _ := hx_; subst x_
      refine Rg.storeo (A := RT.hd) (M := M) I42 rfl rfl rfl (h.step0 sD) hi (V_hd ry1 ry2 ry3) (fun w' ho' s' => ?_)
      exact Rg.nil ⟨rfl, rfl, undef, rfl, .inl ho', s'⟩
    refine Obls.cons ?_ ?_
    · intro wD E sD -- 14
      replace sD : Step M _ M wD (fun k => k = g) := sD
      intro x_ hx_; have hx_ : x_ = _ := hx_; subst x_
      intro x_ hx_; have hx_ : x_ = _ := hx_; subst x_
      intro x_ hx_; have hx_ : x_ = _ := hx_; subst x_
      intro x_ hx_; have hx_ : x_ = _ := hx_; subst x_
      intro x_ hx_; have hx_ : x_ = _ := hx_; subst x_
      intro x_ hx_; have hx_ : x_ = _ := hx_; subst x_
      intro x_ hx_; have hx_ : x_ = _ := hx_; subst x_
      intro x_ hx_; have hx_ : x_ = _ := hx_; subst x_
      intro x_ hx_; have hx_ : x_ = _ := hx_; subst x_
      intro x_ hx_; have hx_ : x_ = _ := hx_; subst x_
      intro x_ hx_; have hx_ : x_ = _ := hx_; subst x_
      intro x_ hx_; have hx_ : x_ = _ := hx_; subst x_
      intro x_ hx_; have hx_ : x_ = _ := hx_; subst x_
      intro x_ hx_; have hx_ : x_ = _ := hx_; subst x_
      intro x_ hx_; have hx_ : x_ = _ := hx_; subst x_
      intro v13 hv13
      refine Rg.idxo (size := 3) Try.underlying39 I42 rfl rfl rfl (by omega) (q := j * 3) (by rw [Int.toNat_natCast, Nat.zero_add]) ?_
      exact Rg.nil ⟨rfl, rfl, _, rfl, rfl, Step.refl _ _⟩
    refine Obls.cons ?_ ?_
    · intro wD E sD -- 15
      replace sD : Step M _ M wD (fun k => k = g) := sD
      intro x_ hx_; have hx_ : x_ = _ := hx_; subst x_
      intro x_ hx_; have hx_ : x_ = _ := hx_; subst x_
      intro v13 hv13
      intro x_ hx_; have hx_ : x_ = _ := hx_; subst x_
      intro x_ hx_; have hx_ : x_ = _ := hx_; subst x_
      intro x_ hx_; have hx_ : x_ = _ := hx_; subst x_
      intro x_ hx_; have hx_ : x_ = _ := hx_; subst x_
      intro x_ hx_; have hx_ : x_ = _ := hx_; subst x_
      intro x_ hx_; have hx_ : x_ = _ := hx_; subst x_
      intro x_ hx_; have hx_ : x_ = _ := hx_; subst x_
      intro x_ hx_; have hx_ : x_ = _ := hx_; subst x_
      intro x_ hx_; have hx_ : x_ = _ := hx_; subst x_
      intro x_ hx_; have hx_ : x_ = _ := hx_; subst x_
      intro x_ hx_; have hx_ : x_ = _ := hx_; subst x_
      intro x_ hx_; have hx_ : x_ = _ := hx_; subst x_
      intro x_ hx_; have hx_ : x_ = _ := hx_; subst x_
      intro v13 hv13
      rcases hv13 with ho | ho
      · refine Rg.storeo (A := RT.hd) (M := M) I42 rfl rfl rfl ho (by rw [List.length_set]; exact hj) (V_hd rx1 rx2 rx3) (fun w' ho' s' => ?_)
        exact Rg.nil ⟨rfl, rfl, undef, rfl, by rw [swp_set hx hy]; exact ho', s'⟩
      · refine Rg.storeo (A := RT.hd) (M := M) I42 rfl rfl rfl ho (by rw [swp_len]; exact hj) (V_hd rx1 rx2 rx3) (fun w' ho' s' => ?_)
        exact Rg.nil ⟨rfl, rfl, undef, rfl, by rw [swp_again hx hy] at ho'; exact ho', s'⟩
    exact Obls.nil
  · -- behind it
    intro wD0 sD0
    replace sD0 : Step M _ M wD0 (fun b => (fun k => k = g) b ∨ (fun k => k = g) b) := sD0
    intro x_ hx_; have hx_ : x_ = _ := hx_; subst x_
    intro x_ hx_; have hx_ : x_ = _ := hx_; subst x_
    intro x_ hx_; have hx_ : x_ = _ := hx_; subst x_
    intro x_ hx_; have hx_ : x_ = _ := hx_; subst x_
    intro x_ hx_; have hx_ : x_ = _ := hx_; subst x_
    intro x_ hx_; have hx_ : x_ = _ := hx_; subst x_
    intro x_ hx_; have hx_ : x_ = _ := hx_; subst x_
    intro x_ hx_; have hx_ : x_ = _ := hx_; subst x_
    intro x_ hx_; have hx_ : x_ = _ := hx_; subst x_
    intro x_ hx_; have hx_ : x_ = _ := hx_; subst x_
    intro x_ hx_; have hx_ : x_ = _ := hx_; subst x_
    intro x_ hx_; have hx_ : x_ = _ := hx_; subst x_
    intro x_ hx_; have hx_ : x_ = _ := hx_; subst x_
    intro v0_13 hv0_13
    intro x_ hx_; have hx_ : x_ = _ := hx_; subst x_
    intro v0_15 hv0_15
    first | refine EndP.nil ?_ | simp +decide only [Kseq, Kblock, if_true, if_false] | skip
    exact Kret0n rfl ⟨hv0_15, sD0.widen (fun b hb => by rcases hb with hb | hb <;> (have hb : b = g := hb; subst hb; rfl)) (fun b hb => by have hb : b = g := (Option.some.inj hb).symm; subst hb; exact hMg)⟩

/-- '(*concordance/merge.heads).Push' -/
theorem hPush_spec {M : PSet} {w0 : World} {bh base : Nat} {v : Value} {hs : List Hd} {a b c : Int} (hM : Lt M w0) (h : HpS 39 42 M w0 bh base v hs) (ra : i64r a) (rb : i64r b) (rc : i64r c) (hl : hs.length ≤ 1099511627776) :
    Spec Try.prog 49 #[.pointer (some ⟨bh, 0, none⟩), .iface 42 (.agg #[.int .i64 a, .int .i64 b, .int .i64 c])] w0 (fun v' w' => ∃ M' v2, HpS 39 42 M' w' bh base v2 (hs ++ [(a, b, c)]) ∧ Lt M' w' ∧ Step M w0 M' w' (NB 42 M w0 bh base)) := by
  have hbh := h.h
  obtain ⟨g, cap, cur, hvg, hbg, hMg, hcur⟩ := h.o.ofSome h.nn
  have hgl := lt_of_get hcur
  refine spec_of (args := [_, _]) (fn := Try.f49) Try.func49 rfl (n := 13) Try.ntmps49 ?_
  apply T.drawT (M := M) mixed [(7, blk v)] [Asr.eq _, Asr.eq _, Asr.eq _, Asr.eq _, Asr.eq _, Asr.eq _, Asr.V ((RT.hd).sl) [(a, b, c)], (Asr.mk' (fun v w => ∃ M2, (∀ b, b < w0.heap.size → (M2 b ↔ M b)) ∧ Lt M2 w ∧ Own RT.hd 42 M2 w base v (hs ++ [(a, b, c)])) (fun ⟨M2, h1, h2, h3⟩ s => ⟨M2, h1, (s.any M2).lt h2, h3.step0 (s.any M2)⟩))] 8 -- region 0
  · rfl
  · rfl
  · rfl
  · rfl
  · rfl
  · intro p hp b hb; obtain rfl := List.mem_singleton.1 hp; exact h.o.mut_ b hb
  · exact ⟨fun _ _ _ _ => trivial, ⟨fun _ _ _ _ => trivial, ⟨fun _ _ _ _ => trivial, ⟨fun _ _ _ _ => trivial, ⟨fun _ _ _ _ => trivial, ⟨fun _ _ _ _ => trivial, ⟨fun _ _ _ _ => trivial, ⟨fun p hp => (List.not_mem_nil (show p ∈ ([] : List (Nat × PSet)) from hp)).elim, trivial⟩⟩⟩⟩⟩⟩⟩⟩
  · -- its operations
    refine OblsS.cons ?_ ?_
    · intro wD E sD -- 0
      replace sD : Step M _ M wD (blk v) := sD
      refine Rg.move rfl rfl ?_
      exact Rg.nil ⟨rfl, rfl, _, rfl, rfl, Step.refl _ _⟩
    refine OblsS.cons ?_ ?_
    · intro wD E sD -- 1
      replace sD : Step M _ M wD (blk v) := sD
      refine Rg.move rfl rfl ?_
      exact Rg.nil ⟨rfl, rfl, _, rfl, rfl, Step.refl _ _⟩
    refine OblsS.cons ?_ ?_
    · intro wD E sD -- 2
      replace sD : Step M _ M wD (blk v) := sD
      intro x_ hx_; have hx_ : x_ = _ := hx_; subst x_
      refine Rg.nilCheck rfl ⟨_, rfl⟩ rfl ?_
      exact Rg.nil ⟨rfl, rfl, _, rfl, rfl, Step.refl _ _⟩
    refine OblsS.cons ?_ ?_
    · intro wD E sD -- 3
      replace sD : Step M _ M wD none' := sD
      intro x_ hx_; have hx_ : x_ = _ := hx_; subst x_
      refine Rg.loadc Try.underlying39 rfl rfl rfl (Step.same0 sD (by assumption)) rfl ?_
      exact Rg.nil ⟨rfl, rfl, _, rfl, rfl, Step.refl _ _⟩
    refine OblsS.cons ?_ ?_
    · intro wD E sD -- 4
      replace sD : Step M _ M wD (blk v) := sD
      refine Rg.move rfl rfl ?_
      exact Rg.nil ⟨rfl, rfl, _, rfl, rfl, Step.refl _ _⟩
    refine OblsS.cons ?_ ?_
    · intro wD E sD -- 5
      replace sD : Step M _ M wD (blk v) := sD
      intro x_ hx_; have hx_ : x_ = _ := hx_; subst x_
      refine Rg.assertT Try.underlying42 rfl rfl rfl ?_
      exact Rg.nil ⟨rfl, rfl, _, rfl, rfl, Step.refl _ _⟩
    refine OblsS.cons ?_ ?_
    · intro wD E sD -- 6
      replace sD : Step M _ M wD none' := sD
      intro x_ hx_; have hx_ : x_ = _ := hx_; subst x_
      refine Rg.sl1 (A := RT.hd) (hn := by decide) (M := M) Try.underlying39 I42 (by decide) rfl rfl (sD.lt hM) (V_hd ra rb rc) (.inl rfl) (fun u6 w6 hu6 s6 => ?_)
      exact Rg.nil ⟨rfl, rfl, _, rfl, hu6, s6⟩
    refine OblsS.cons ?_ ?_
    · intro wD E sD -- 7
      replace sD : Step M _ M wD none' := sD
      intro x_ hx_; have hx_ : x_ = _ := hx_; subst x_
      intro v6 hv6
      refine Rg.append (M := M) (base := base) Try.underlying39 I42 rfl rfl rfl rfl (h.o.step0 sD) hv6 (Le.refl _ _) (by simp; omega) (by simp; omega) (by have := sD.size; omega) (fun v7 M7 w7 ho7 s7 => ?_)
      exact Rg.nil ⟨rfl, rfl, _, rfl, ⟨M7, fun b hb => (s7.mem b (Nat.lt_of_lt_of_le hb sD.size)), s7.lt (sD.lt hM), ho7⟩, s7.back⟩
    exact OblsS.nil
  · -- behind it
    intro wD0 sD0
    replace sD0 : Step M _ M wD0 (blk v) := sD0
    intro x_ hx_; have hx_ : x_ = _ := hx_; subst x_
    intro x_ hx_; have hx_ : x_ = _ := hx_; subst x_
    intro x_ hx_; have hx_ : x_ = _ := hx_; subst x_
    intro x_ hx_; have hx_ : x_ = _ := hx_; subst x_
    intro x_ hx_; have hx_ : x_ = _ := hx_; subst x_
    intro x_ hx_; have hx_ : x_ = _ := hx_; subst x_
    intro v0_6 hv0_6
    intro v0_7 hv0_7
    obtain ⟨M7, hm7, hl7, ho7⟩ := hv0_7
    have s7 := sD0.withM hm7 hl7
    have hb7 := s7.keep h.h (fun hk => h.apart bh hk rfl)
    have mb7 : M7 bh := (hm7 bh (lt_of_get h.h)).2 h.mh
    refine Rg.nilCheck rfl ⟨_, rfl⟩ rfl ?_
    refine Rg.storec (M := M7) (u := v) I39 rfl rfl hb7 rfl (by obtain ⟨_, _, he, _⟩ := ho7.isSlice; rw [he]; rfl) mb7 (fun w9 h9 s9 => ?_)
    refine Rg.nil ?_
    first | refine EndP.nil ?_ | simp +decide only [Kseq, Kblock, if_true, if_false] | skip
    refine Kret0n rfl ⟨M7, v0_7, ⟨h9, mb7, ho7.step s9 (fun k hk => ho7.apart hb7 h.ne k hk), ho7.notnil (by simp), h.ne⟩, s9.lt hl7, ?_⟩
    exact (s7.nbw h).trans s9 (fun b hb he => ⟨he ▸ h.mh, .inl he⟩)

/-- '(*concordance/merge.heads).Pop' -/
theorem hPop_spec {M : PSet} {w0 : World} {bh base : Nat} {v : Value} {hs : List Hd} {a b c : Int} (hM : Lt M w0) (h : HpS 39 42 M w0 bh base v hs) (hx : hs[hs.length - 1]? = some (a, b, c)) :
    Spec Try.prog 48 #[.pointer (some ⟨bh, 0, none⟩)] w0 (fun v' w' => v' = .iface 42 (.agg #[.int .i64 a, .int .i64 b, .int .i64 c]) ∧ ∃ M' v2, HpS 39 42 M' w' bh base v2 (hs.take (hs.length - 1)) ∧ Lt M' w' ∧ Step M w0 M' w' (NB 42 M w0 bh base)) := by
  obtain ⟨g, cap, cur, rfl, hbg, hMg, hcur⟩ := h.o.ofSome h.nn
  have hbh := h.h
  have hlen := h.o.ltM
  have hpos := (List.getElem?_eq_some_iff.1 hx).1
  obtain ⟨vx, hvx⟩ := h.o.val hx
  obtain ⟨rfl, ra, rb, rc⟩ := hd_val hvx
  obtain ⟨_, hcap, hcap1, hcap2⟩ := h.o.isSlice
  simp only [Value.slice.injEq] at hcap1
  have hcl : hs.length ≤ cap := by omega
  refine spec_of (args := [_]) (fn := Try.f48) Try.func48 rfl (n := 27) Try.ntmps48 ?_
  refine T.seq ?_
  refine T.region ?_ -- region 0
  refine Rg.assign rfl rfl ?_
  refine Rg.nil ?_
  refine T.seq ?_
  apply T.drawT (M := M) mixed [] [Asr.eq _, Asr.eq _, Asr.eq _, Asr.eq _, Asr.eq _, Asr.eq _, Asr.eq _, Asr.eq _, Asr.eq (.pointer (some ⟨g, (hs.length - 1) * 3, none⟩)), Asr.eq (.agg #[.int .i64 a, .int .i64 b, .int .i64 c]), (Asr.mk' (fun v w => ∃ b : Nat, v = .pointer (some ⟨b, 0, none⟩) ∧ w0.heap.size ≤ b ∧ b < w.heap.size ∧ w.heap[b]? = some (.cells #[.int .i64 0, .int .i64 0, .int .i64 0] 42 (0, 0))) (fun ⟨b, h1, h2, h3, h4⟩ s => ⟨b, h1, h2, Nat.lt_of_lt_of_le h3 s.size, s.same0 h4⟩))] 11 -- region 1
  · rfl
  · rfl
  · rfl
  · rfl
  · rfl
  · exact fun p hp => by cases hp
  · exact UOk.none
  · -- its operations
    refine OblsS.cons ?_ ?_
    · intro wD E sD -- 0
      refine Rg.move rfl rfl ?_
      exact Rg.nil ⟨rfl, rfl, _, rfl, rfl, Step.refl _ _⟩
    refine OblsS.cons ?_ ?_
    · intro wD E sD -- 1
      intro x_ hx_; have hx_ : x_ = _ := hx_; subst x_
      refine Rg.nilCheck rfl ⟨_, rfl⟩ rfl ?_
      exact Rg.nil ⟨rfl, rfl, _, rfl, rfl, Step.refl _ _⟩
    refine OblsS.cons ?_ ?_
    · intro wD E sD -- 2
      intro x_ hx_; have hx_ : x_ = _ := hx_; subst x_
      refine Rg.loadc Try.underlying39 rfl rfl rfl (Step.same0 sD (by assumption)) rfl ?_
      exact Rg.nil ⟨rfl, rfl, _, rfl, rfl, Step.refl _ _⟩
    refine OblsS.cons ?_ ?_
    · intro wD E sD -- 3
      refine Rg.move rfl rfl ?_
      exact Rg.nil ⟨rfl, rfl, _, rfl, rfl, Step.refl _ _⟩
    refine OblsS.cons ?_ ?_
    · intro wD E sD -- 4
      intro x_ hx_; have hx_ : x_ = _ := hx_; subst x_
      refine Rg.nilCheck rfl ⟨_, rfl⟩ rfl ?_
      exact Rg.nil ⟨rfl, rfl, _, rfl, rfl, Step.refl _ _⟩
    refine OblsS.cons ?_ ?_
    · intro wD E sD -- 5
      intro x_ hx_; have hx_ : x_ = _ := hx_; subst x_
      refine Rg.loadc Try.underlying39 rfl rfl rfl (Step.same0 sD (by assumption)) rfl ?_
      exact Rg.nil ⟨rfl, rfl, _, rfl, rfl, Step.refl _ _⟩
    refine OblsS.cons ?_ ?_
    · intro wD E sD -- 6
      intro x_ hx_; have hx_ : x_ = _ := hx_; subst x_
      refine Rg.lenraw Try.underlying39 rfl rfl ?_
      exact Rg.nil ⟨rfl, rfl, _, rfl, rfl, Step.refl _ _⟩
    refine OblsS.cons ?_ ?_
    · intro wD E sD -- 7
      intro x_ hx_; have hx_ : x_ = _ := hx_; subst x_
      refine Rg.isub rfl rfl rfl (by omega) ?_
      exact Rg.nil ⟨rfl, rfl, _, rfl, rfl, Step.refl _ _⟩
    refine OblsS.cons ?_ ?_
    · intro wD E sD -- 8
      intro x_ hx_; have hx_ : x_ = _ := hx_; subst x_
      intro x_ hx_; have hx_ : x_ = _ := hx_; subst x_
      refine Rg.idxo (size := 3) Try.underlying39 I42 rfl rfl rfl (by omega) (q := (hs.length - 1) * 3) (by rw [show ((hs.length : Int) - 1).toNat = hs.length - 1 from by omega, Nat.zero_add]) ?_
      exact Rg.nil ⟨rfl, rfl, _, rfl, rfl, Step.refl _ _⟩
    refine OblsS.cons ?_ ?_
    · intro wD E sD -- 9
      intro x_ hx_; have hx_ : x_ = _ := hx_; subst x_
      refine Rg.loadagg (M := fun k => M k ∧ k ≠ g) (A := RT.hd) Try.underlying42 rfl I42 (by decide) rfl rfl rfl ((h.o.step0 sD).ptr hx) (Le.refl _ _) (fun va hva => ?_)
      obtain ⟨rfl, _, _, _⟩ := hd_val hva
      exact Rg.nil ⟨rfl, rfl, _, rfl, rfl, Step.refl _ _⟩
    refine OblsS.cons ?_ ?_
    · intro wD E sD -- 10
      refine Rg.alloc M I42 rfl (fun b7 w7 z7 z7' g7 s7 => ?_)
      exact Rg.nil ⟨rfl, rfl, _, rfl, ⟨b7, rfl, Nat.le_trans sD.size z7, z7', g7⟩, s7.any M⟩
    exact OblsS.nil
  · -- behind it
    intro wD1 sD1
    intro x_ hx_; have hx_ : x_ = _ := hx_; subst x_
    intro x_ hx_; have hx_ : x_ = _ := hx_; subst x_
    intro x_ hx_; have hx_ : x_ = _ := hx_; subst x_
    intro x_ hx_; have hx_ : x_ = _ := hx_; subst x_
    intro x_ hx_; have hx_ : x_ = _ := hx_; subst x_
    intro x_ hx_; have hx_ : x_ = _ := hx_; subst x_
    intro x_ hx_; have hx_ : x_ = _ := hx_; subst x_
    intro x_ hx_; have hx_ : x_ = _ := hx_; subst x_
    intro x_ hx_; have hx_ : x_ = _ := hx_; subst x_
    intro x_ hx_; have hx_ : x_ = _ := hx_; subst x_
    intro v1_10 hv1_10
    obtain ⟨b7, rfl, z7, z7', g7⟩ := hv1_10
    have s7 := sD1.own z7 z7'
    refine Rg.storeaggc (M := ins M b7) (vs := [.int .i64 a, .int .i64 b, .int .i64 c]) I42 rfl rfl (by intro u hu; simp only [List.mem_cons, List.not_mem_nil, or_false] at hu; rcases hu with rfl | rfl | rfl <;> rfl) rfl rfl g7 (.inl rfl) (fun w8 g8 s8 => ?_)
    have S8 := s7.transNew s8 (fun b hb => by have hb : b = b7 := hb; rw [hb]; exact z7)
    have hbb := lt_of_get hbh
    have hbh8 := S8.same0 hbh
    clear hbh
    refine Rg.nil ?_
    refine T.seq ?_
    apply T.drawT (M := ins M b7) mixed [] [Asr.eq _, Asr.eq _, Asr.eq _, Asr.eq _, Asr.eq _, Asr.eq _, Asr.eq _, Asr.eq _, Asr.eq _, Asr.eq (.slice (some ⟨g, 0, none⟩) (hs.length - 1) cap)] 10 -- region 2
    · rfl
    · rfl
    · rfl
    · rfl
    · rfl
    · exact fun p hp => by cases hp
    · exact UOk.none
    · -- its operations
      refine OblsS.cons ?_ ?_
      · intro wD E sD -- 0
        refine Rg.move rfl rfl ?_
        exact Rg.nil ⟨rfl, rfl, _, rfl, rfl, Step.refl _ _⟩
      refine OblsS.cons ?_ ?_
      · intro wD E sD -- 1
        refine Rg.move rfl rfl ?_
        exact Rg.nil ⟨rfl, rfl, _, rfl, rfl, Step.refl _ _⟩
      refine OblsS.cons ?_ ?_
      · intro wD E sD -- 2
        intro x_ hx_; have hx_ : x_ = _ := hx_; subst x_
        refine Rg.nilCheck rfl ⟨_, rfl⟩ rfl ?_
        exact Rg.nil ⟨rfl, rfl, _, rfl, rfl, Step.refl _ _⟩
      refine OblsS.cons ?_ ?_
      · intro wD E sD -- 3
        intro x_ hx_; have hx_ : x_ = _ := hx_; subst x_
        refine Rg.loadc Try.underlying39 rfl rfl rfl (Step.same0 sD (by assumption)) rfl ?_
        exact Rg.nil ⟨rfl, rfl, _, rfl, rfl, Step.refl _ _⟩
      refine OblsS.cons ?_ ?_
      · intro wD E sD -- 4
        refine Rg.move rfl rfl ?_
        exact Rg.nil ⟨rfl, rfl, _, rfl, rfl, Step.refl _ _⟩
      refine OblsS.cons ?_ ?_
      · intro wD E sD -- 5
        intro x_ hx_; have hx_ : x_ = _ := hx_; subst x_
        refine Rg.nilCheck rfl ⟨_, rfl⟩ rfl ?_
        exact Rg.nil ⟨rfl, rfl, _, rfl, rfl, Step.refl _ _⟩
      refine OblsS.cons ?_ ?_
      · intro wD E sD -- 6
        intro x_ hx_; have hx_ : x_ = _ := hx_; subst x_
        refine Rg.loadc Try.underlying39 rfl rfl rfl (Step.same0 sD (by assumption)) rfl ?_
        exact Rg.nil ⟨rfl, rfl, _, rfl, rfl, Step.refl _ _⟩
      refine OblsS.cons ?_ ?_
      · intro wD E sD -- 7
        intro x_ hx_; have hx_ : x_ = _ := hx_; subst x_
        refine Rg.lenraw Try.underlying39 rfl rfl ?_
        exact Rg.nil ⟨rfl, rfl, _, rfl, rfl, Step.refl _ _⟩
      refine OblsS.cons ?_ ?_
      · intro wD E sD -- 8
        intro x_ hx_; have hx_ : x_ = _ := hx_; subst x_
        refine Rg.isub rfl rfl rfl (by omega) ?_
        exact Rg.nil ⟨rfl, rfl, _, rfl, rfl, Step.refl _ _⟩
      refine OblsS.cons ?_ ?_
      · intro wD E sD -- 9
        intro x_ hx_; have hx_ : x_ = _ := hx_; subst x_
        intro x_ hx_; have hx_ : x_ = _ := hx_; subst x_
        refine Rg.cuto Try.underlying39 I42 rfl rfl rfl (by omega) ?_
        refine Rg.eqv (v' := .slice (some ⟨g, 0, none⟩) (hs.length - 1) cap) (by rw [show ((hs.length : Int) - 1).toNat = hs.length - 1 from by omega]) ?_
        exact Rg.nil ⟨rfl, rfl, _, rfl, rfl, Step.refl _ _⟩
      exact OblsS.nil
    · -- behind it
      intro wD2 sD2
      intro x_ hx_; have hx_ : x_ = _ := hx_; subst x_
      intro x_ hx_; have hx_ : x_ = _ := hx_; subst x_
      intro x_ hx_; have hx_ : x_ = _ := hx_; subst x_
      intro x_ hx_; have hx_ : x_ = _ := hx_; subst x_
      intro x_ hx_; have hx_ : x_ = _ := hx_; subst x_
      intro x_ hx_; have hx_ : x_ = _ := hx_; subst x_
      intro x_ hx_; have hx_ : x_ = _ := hx_; subst x_
      intro x_ hx_; have hx_ : x_ = _ := hx_; subst x_
      intro x_ hx_; have hx_ : x_ = _ := hx_; subst x_
      intro x_ hx_; have hx_ : x_ = _ := hx_; subst x_
      refine Rg.nilCheck rfl ⟨_, rfl⟩ rfl ?_
      refine Rg.storec (M := ins M b7) (u := .slice (some ⟨g, 0, none⟩) hs.length cap) I39 rfl rfl (sD2.same0 hbh8) rfl rfl (.inr h.mh) (fun w9 h9 s9 => ?_)
      have g9 := s9.keep (sD2.same0 g8) (fun e => by have e : b7 = bh := e; omega)
      refine Rg.nil ?_
      refine T.seq ?_
      refine T.region ?_ -- region 3
      refine Rg.loadaggc (vs := [.int .i64 a, .int .i64 b, .int .i64 c]) Try.underlying42 rfl I42 rfl rfl rfl g9 ?_
      refine Rg.mkIface Try.underlying42 rfl rfl rfl ?_
      refine Rg.assign rfl rfl ?_
      refine Rg.nil ?_
      refine T.ret ?_
      have ho9 : Own RT.hd 42 (ins M b7) w9 base (.slice (some ⟨g, 0, none⟩) hs.length cap) hs := ((h.o.step0 S8).step0 sD2).step s9 (fun k hk e => h.apart k hk e)
      have S9 := (S8.trans0 sD2).widen (N' := NB 42 M w0 bh base) (fun _ h => h.elim) (fun _ h => h.1)
      exact Kret1 rfl rfl ⟨rfl, ins M b7, _, ⟨h9, .inr h.mh, ho9.cut (by omega), by simp, h.ne⟩, s9.lt (sD2.lt (S8.lt hM)), S9.trans s9 (fun b hb he => ⟨he ▸ h.mh, .inl he⟩)⟩

end Go.K

/- The walks of Go functions, operation by operation. -/
import Derived.Test.YtbgekgiaoedjiaaKTypes
import Derived.Test.YtbgekgiaoedjiaaKNum
import Derived.Test.YtbgekgiaoedjiaaKBits
import Derived.Test.YtbgekgiaoedjiaaKHp
import Derived.Test.YtbgekgiaoedjiaaKQuiet
import Derived.Test.YtbgekgiaoedjiaaProg
import Derived.KernelRfl
namespace Go.K
open Go.Proofs
namespace TKSmall11
theorem E21 : Enters Try.prog 21 := enters Try.func21 rfl (by decide) -- cmp.Compare[int]
theorem E27 : Enters Try.prog 27 := enters Try.func27 rfl (by decide) -- cmp.isNaN[int]
end TKSmall11
open TKSmall11
set_option linter.unusedVariables false
set_option linter.unusedSimpArgs false
set_option maxRecDepth 10000

/-- 'cmp.isNaN[int]' -/
theorem isNaN_spec {w0 : World} {x : Int} :
    Spec Try.prog 27 #[.int .i64 x] w0 (fun v' w' => v' = .bool (decide False) ∧ w0 = w') := by
  refine spec_of (args := [_]) (fn := Try.f27) Try.func27 rfl (n := 6) Try.ntmps27 ?_
  refine T.seq ?_
  refine T.region ?_ -- region 0
  refine Rg.assign rfl rfl ?_
  refine Rg.nil ?_
  refine T.seq ?_
  refine T.region ?_ -- region 1
  refine Rg.move rfl rfl ?_
  refine Rg.move rfl rfl ?_
  refine Rg.ine rfl rfl rfl ?_
  refine Rg.assign rfl rfl ?_
  refine Rg.nil ?_
  refine T.ret ?_
  exact Kret1 rfl rfl ⟨congrArg Value.bool (by simp), rfl⟩

/-- 'cmp.Compare[int]' -/
theorem Compare_spec {w0 : World} {x y : Int} :
    Spec Try.prog 21 #[.int .i64 x, .int .i64 y] w0 (fun v' w' => v' = .int .i64 (if x < y then -1 else if x > y then 1 else 0) ∧ w0 = w') := by
  refine spec_of (args := [_, _]) (fn := Try.f21) Try.func21 rfl (n := 20) Try.ntmps21 ?_
  refine T.seq ?_
  refine T.region ?_ -- region 0
  refine Rg.assign rfl rfl ?_
  refine Rg.nil ?_
  refine T.seq ?_
  refine T.region ?_ -- region 1
  refine Rg.move rfl rfl ?_
  refine Rg.call rfl rfl E27 (isNaN_spec) (fun r wc h => ?_)
  obtain ⟨rfl, rfl⟩ := h
  refine Rg.assign rfl rfl ?_
  refine Rg.nil ?_
  refine T.seq ?_
  refine T.region ?_ -- region 2
  refine Rg.move rfl rfl ?_
  refine Rg.call rfl rfl E27 (isNaN_spec) (fun r wc h => ?_)
  obtain ⟨rfl, rfl⟩ := h
  refine Rg.assign rfl rfl ?_
  refine Rg.nil ?_
  refine T.seq ?_
  refine T.seq ?_
  refine T.region ?_ -- region 3
  refine Rg.move rfl rfl ?_
  refine Rg.nil ?_
  refine T.iffp rfl ((fun h => h)) ?_
  refine T.skip ?_
  refine T.seq ?_
  refine T.seq ?_
  refine T.region ?_ -- region 7
  refine Rg.move rfl rfl ?_
  refine Rg.nil ?_
  refine T.iffp rfl ((fun h => h)) ?_
  refine T.skip ?_
  refine T.seq ?_
  refine T.seq ?_
  refine T.region ?_ -- region 9
  refine Rg.move rfl rfl ?_
  refine Rg.move rfl rfl ?_
  refine Rg.ilt rfl rfl rfl ?_
  refine Rg.nil ?_
  refine T.ifp rfl (fun c9 => ?_) (fun c9 => ?_)
  · -- c9 True
    refine T.seq ?_
    refine T.region ?_ -- region 10
    refine Rg.assign rfl rfl ?_
    refine Rg.nil ?_
    refine T.ret ?_
    exact Kret1 rfl rfl ⟨by rw [if_pos c9], rfl⟩
  · -- c9 False
    refine T.skip ?_
    refine T.seq ?_
    refine T.seq ?_
    refine T.region ?_ -- region 11
    refine Rg.move rfl rfl ?_
    refine Rg.move rfl rfl ?_
    refine Rg.igt rfl rfl rfl ?_
    refine Rg.nil ?_
    refine T.ifp rfl (fun c11 => ?_) (fun c11 => ?_)
    · -- c11 True
      refine T.seq ?_
      refine T.region ?_ -- region 12
      refine Rg.assign rfl rfl ?_
      refine Rg.nil ?_
      refine T.ret ?_
      exact Kret1 rfl rfl ⟨by rw [if_neg c9, if_pos c11], rfl⟩
    · -- c11 False
      refine T.skip ?_
      refine T.seq ?_
      refine T.region ?_ -- region 13
      refine Rg.assign rfl rfl ?_
      refine Rg.nil ?_
      refine T.ret ?_
      exact Kret1 rfl rfl ⟨by rw [if_neg c9, if_neg c11], rfl⟩

noncomputable instance {xs : List Int} : Decidable (∀ i, i + 1 < xs.length → xs.getD i 0 ≤ xs.getD (i + 1) 0) := Classical.propDecidable _
theorem getD_of {l : List Int} {i : Nat} {x : Int} (h : l[i]? = some x) : l.getD i 0 = x := by rw [List.getD_eq_getElem?_getD, h]; rfl
/-- 'slices.IsSortedFunc[[]int,int]' -/
theorem IsSorted_spec {M : PSet} {w0 : World} {v : Value} {xs : List Int} (hv : ((RT.int .i64).sl).V M w0 xs v) (hpos : 0 < xs.length) :
    Spec Try.prog 20 #[v, .func (.func 21) #[] #[]] w0 (fun v' w' => v' = .bool (decide (∀ i, i + 1 < xs.length → xs.getD i 0 ≤ xs.getD (i + 1) 0)) ∧ Step M w0 M w' none') := by
  have hlen := V_sl_len hv
  refine spec_of (args := [_, _]) (fn := Try.f20) Try.func20 rfl (n := 25) Try.ntmps20 ?_
  refine T.seq ?_
  refine T.region ?_ -- region 0
  refine Rg.assign rfl rfl ?_
  refine Rg.nil ?_
  refine T.seq ?_
  refine T.seq ?_
  refine T.region ?_ -- region 1
  refine Rg.move rfl rfl ?_
  refine Rg.lensl Try.underlying23 rfl hv rfl ?_
  refine Rg.isub rfl rfl rfl (by omega) ?_
  refine Rg.eqv (v' := .int .i64 ((xs.length - 1 : Nat) : Int)) (congrArg _ (by omega)) ?_
  refine Rg.assign rfl rfl ?_
  refine Rg.nil ?_
  refine T.block ?_
  refine T.loop (σ := Nat) (fun s => [(0, v), (1, .func (.func 21) #[] #[]), (5, .int .i64 s)]) (fun s w => s < xs.length ∧ (∀ t, s ≤ t → t + 1 < xs.length → xs.getD t 0 ≤ xs.getD (t + 1) 0) ∧ Step M w0 M w none') (fun s => s) (xs.length - 1) (.cons rfl (.cons rfl (.cons rfl .nil))) ?_ ?_ -- loop 0
  · exact ⟨by omega, fun t h1 h2 => by omega, Step.refl _ _⟩
  · rintro k w1 ⟨hk, hs, S⟩
    refine T.seq ?_
    refine T.seq ?_
    refine T.region ?_ -- region 2
    refine Rg.move rfl rfl ?_
    refine Rg.igt rfl rfl rfl ?_
    refine Rg.nil ?_
    refine T.ifp rfl (fun c2 => ?_) (fun c2 => ?_)
    · -- c2 True
      refine T.skip ?_
      refine T.seq ?_
      refine T.block ?_
      refine T.seq ?_
      obtain ⟨x, hx⟩ : ∃ x, (xs)[k]? = some x := ⟨_, List.getElem?_eq_getElem (by omega)⟩
      obtain ⟨y, hy⟩ : ∃ x, (xs)[k - 1]? = some x := ⟨_, List.getElem?_eq_getElem (by omega)⟩
      apply T.drawQ 10 mixed rfl rfl rfl rfl rfl -- region 4
      intro wD4 sA4
      have sD4 := sA4 M
      refine Rg.move rfl rfl ?_
      refine Rg.nil ⟨rfl, rfl, rfl, ?_⟩
      refine Rg.move rfl rfl ?_
      refine Rg.nil ⟨rfl, rfl, rfl, ?_⟩
      refine Rg.move rfl rfl ?_
      refine Rg.nil ⟨rfl, rfl, rfl, ?_⟩

      refine Rg.idx (M := M) Try.underlying23 I3 rfl rfl rfl ((hv.le S.le).le sD4.le) (Le.refl _ _) (by omega) (fun u4_3 a4_3 hg4_3 hu4_3 => ?_)
      obtain rfl : x = a4_3 := Eq.symm (Option.some.inj (hg4_3.symm.trans (by rw [Int.toNat_natCast]; exact hx)))
      refine Rg.nil ⟨rfl, rfl, rfl, ?_⟩
      refine Rg.loadi64 (M := M) Try.underlying3 rfl rfl (by assumption) (by repeat (first | exact Le.refl _ _ | refine Le.trans (Step.le (by assumption)) ?_)) (fun in4_4 => ?_)
      refine Rg.eqv (v' := .int .i64 (x)) rfl ?_
      replace in4_4 : -9223372036854775808 ≤ (x : Int) ∧ x ≤ 9223372036854775807 := in4_4
      refine Rg.nil ⟨rfl, rfl, rfl, ?_⟩
      refine Rg.move rfl rfl ?_
      refine Rg.nil ⟨rfl, rfl, rfl, ?_⟩
      refine Rg.move rfl rfl ?_
      refine Rg.nil ⟨rfl, rfl, rfl, ?_⟩
      refine Rg.isub rfl rfl rfl (by omega) ?_
      refine Rg.nil ⟨rfl, rfl, rfl, ?_⟩

      refine Rg.idx (M := M) Try.underlying23 I3 rfl rfl rfl ((hv.le S.le).le sD4.le) (Le.refl _ _) (by omega) (fun u4_8 a4_8 hg4_8 hu4_8 => ?_)
      obtain rfl : y = a4_8 := Eq.symm (Option.some.inj (hg4_8.symm.trans (by rw [show ((k : Int) - 1).toNat = k - 1 from by omega]; exact hy)))
      refine Rg.nil ⟨rfl, rfl, rfl, ?_⟩
      refine Rg.loadi64 (M := M) Try.underlying3 rfl rfl (by assumption) (by repeat (first | exact Le.refl _ _ | refine Le.trans (Step.le (by assumption)) ?_)) (fun in4_9 => ?_)
      refine Rg.eqv (v' := .int .i64 (y)) rfl ?_
      replace in4_9 : -9223372036854775808 ≤ (y : Int) ∧ y ≤ 9223372036854775807 := in4_9
      refine Rg.nil ⟨rfl, rfl, rfl, ?_⟩
      refine QRg.nil ?_
      refine Rg.callv (first := []) (captured := []) rfl rfl rfl E21 Compare_spec (fun r w1 h => ?_)
      obtain ⟨rfl, rfl⟩ := h
      refine Rg.ilt rfl rfl rfl ?_
      refine Rg.nil ?_
      refine T.ifp rfl (fun c4 => ?_) (fun c4 => ?_)
      · -- c4 True
        have hgt : ¬ (y ≤ x) := fun h => by
          first
          | omega
          | (split at c4 <;> first | omega | (split at c4 <;> omega))
        refine T.seq ?_
        refine T.region ?_ -- region 5
        refine Rg.assign rfl rfl ?_
        refine Rg.nil ?_
        refine T.ret ?_
        exact Kret1 rfl rfl ⟨congrArg Value.bool (Eq.symm (decide_eq_false fun h => by
          have := h (k - 1) (by omega)
          rw [show k - 1 + 1 = k from by omega, getD_of hx, getD_of hy] at this
          exact hgt this)), S.trans0 sD4⟩
      · -- c4 False
        have hle : y ≤ x := by
          first
          | omega
          | (split at c4 <;> first | omega | (split at c4 <;> omega))
        refine T.skip ?_
        refine T.region ?_ -- region 3
        refine Rg.move rfl rfl ?_
        refine Rg.isub rfl rfl rfl (by omega) ?_
        refine Rg.assign rfl rfl ?_
        refine Rg.nil ?_
        refine ⟨rfl, k - 1, (.cons rfl (.cons rfl (.cons (congrArg (fun z => some (Value.int .i64 z)) (by omega)) .nil))), ?_, ?_⟩
        · refine ⟨by omega, fun t h1 h2 => ?_, S.trans0 sD4⟩
          by_cases e : t = k - 1
          · subst e
            rw [show k - 1 + 1 = k from by omega, getD_of hx, getD_of hy]; exact hle
          · exact hs t (by omega) h2
        · show k - 1 < k; omega
    · -- c2 False
      refine T.exit ?_
      refine T.seq ?_
      refine T.region ?_ -- region 6
      refine Rg.assign rfl rfl ?_
      refine Rg.nil ?_
      refine T.ret ?_
      exact Kret1 rfl rfl ⟨congrArg Value.bool (Eq.symm (decide_eq_true fun i hi => hs i (by omega) hi)), S⟩

/-- 'slices.Clone[[]int,int]' -/
theorem CloneO_spec {M : PSet} {w0 : World} {v : Value} {xs : List Int} (hM : Lt M w0) (hv : ((RT.int .i64).sl).V M w0 xs v) (hl : xs.length ≤ 1099511627776) :
    Spec Try.prog 23 #[v] w0 (fun v' w' => ∃ M', Own (RT.int .i64) 3 M' w' w0.heap.size v' xs ∧ Lt M' w' ∧ Step M w0 M' w' none') := by
  obtain ⟨a, cap, hva, hc, hlen, hs⟩ := V_sl.1 hv
  refine spec_of (args := [_]) (fn := Try.f23) Try.func23 rfl (n := 8) Try.ntmps23 ?_
  refine T.seq ?_
  refine T.region ?_ -- region 0
  refine Rg.assign rfl rfl ?_
  refine Rg.nil ?_
  refine T.seq ?_
  refine T.seq ?_
  refine T.region ?_ -- region 1
  refine Rg.move rfl rfl ?_
  refine Rg.eqv (v' := .slice a xs.length cap) hva ?_
  refine Rg.sleqnil Try.underlying23 rfl rfl rfl ?_
  refine Rg.nil ?_
  refine T.ifp rfl (fun c1 => ?_) (fun c1 => ?_)
  · -- c1 True
    refine T.seq ?_
    refine T.region ?_ -- region 2
    refine Rg.assign rfl rfl ?_
    refine Rg.nil ?_
    refine T.ret ?_
    obtain rfl : xs = [] := by
      rcases hs with h | ⟨b, o, h, _⟩
      · exact h
      · rw [c1] at h; cases h
    exact Kret1 rfl rfl ⟨M, Own.nil _ _ _ _ _, hM, Step.refl _ _⟩
  · -- c1 False
    refine T.skip ?_
    refine T.seq ?_
    refine T.region ?_ -- region 3
    refine Rg.sl0o Try.underlying23 I3 M rfl (fun g w1 z1 z1' g1 s1 => ?_)
    have hM1 := s1.lt hM
    refine Rg.move rfl rfl ?_
    refine Rg.append (M := ins M g) (base := w0.heap.size) Try.underlying23 I3 rfl rfl rfl rfl (Own.empty g1 z1 (.inl rfl)) (hv.le s1.le) (Le.refl _ _) (by simp; omega) (by simp; omega) (by have := s1.size; omega) (fun v2 M2 w2 ho2 s2 => ?_)
    refine Rg.assign rfl rfl ?_
    refine Rg.nil ?_
    refine T.ret ?_
    exact Kret1 rfl rfl ⟨M2, by rw [List.nil_append] at ho2; exact ho2, s2.lt hM1, s1.transNew s2 (fun b hb => by have hb : b = g := (Option.some.inj hb).symm; rw [hb]; exact z1)⟩

/-- 'slices.Compact[[]int,int]' -/
theorem Compact_spec {M : PSet} {w0 : World} {base : Nat} {v : Value} {xs : List Int} (ho : Own (RT.int .i64) 3 M w0 base v xs) (hl : xs.length ≤ 1099511627776) :
    Spec Try.prog 22 #[v] w0 (fun v' w' => ∃ a k cap, v' = .slice a k cap ∧ (k = xs.length ↔ (∀ i, i + 1 < xs.length → xs.getD i 0 ≠ xs.getD (i + 1) 0)) ∧ Step M w0 M w' (blk v)) := by
  refine spec_of (args := [_]) (fn := Try.f22) Try.func22 rfl (n := 61) Try.ntmps22 ?_
  refine T.seq ?_
  refine T.region ?_ -- region 0
  refine Rg.assign rfl rfl ?_
  refine Rg.nil ?_
  refine T.seq ?_
  refine T.seq ?_
  refine T.region ?_ -- region 1
  refine Rg.move rfl rfl ?_
  refine Rg.lenown Try.underlying23 rfl ho rfl ?_
  refine Rg.ilt rfl rfl rfl ?_
  refine Rg.nil ?_
  refine T.ifp rfl (fun c1 => ?_) (fun c1 => ?_)
  · -- c1 True
    refine T.seq ?_
    refine T.region ?_ -- region 2
    refine Rg.move rfl rfl ?_
    refine Rg.assign rfl rfl ?_
    refine Rg.nil ?_
    refine T.ret ?_
    obtain ⟨a, cap, rfl, hc⟩ := ho.isSlice
    exact Kret1 rfl rfl ⟨a, xs.length, cap, rfl, ⟨fun _ i hi => by omega, fun _ => rfl⟩, (Step.refl _ _).widen (fun _ h => h.elim) (fun b hb => ho.mut_ b hb)⟩
  · -- c1 False
    obtain ⟨g, cap, cur, rfl, hbg, hMg, hcur⟩ := ho.ofSome (ho.notnil (by omega))
    obtain ⟨_, cap', hc1, hc2⟩ := ho.isSlice
    simp only [Value.slice.injEq] at hc1
    have hcl : xs.length ≤ cap := by omega
    have hN : ∀ b, b = g → blk (.slice (some ⟨g, 0, none⟩) xs.length cap) b := fun b hb => by rw [hb]; rfl
    refine T.skip ?_
    refine T.seq ?_
    refine T.seq ?_
    refine T.region ?_ -- region 3
    refine Rg.assign rfl rfl ?_
    refine Rg.nil ?_
    refine T.block ?_
    refine T.loop (σ := Nat) (fun s => [(0, .slice (some ⟨g, 0, none⟩) xs.length cap), (3, .int .i64 s)]) (fun s w => 1 ≤ s ∧ s ≤ xs.length ∧ (∀ i, i + 1 < s → xs.getD i 0 ≠ xs.getD (i + 1) 0) ∧ Step M w0 M w none') (fun s => xs.length - s) 1 (.cons rfl (.cons rfl .nil)) ?_ ?_ -- loop 0
    · exact ⟨Nat.le_refl _, by omega, fun i hi => by omega, Step.refl _ _⟩
    · rintro k w1 ⟨hk1, hk, hno, S⟩
      refine T.seq ?_
      refine T.seq ?_
      refine T.region ?_ -- region 4
      refine Rg.move rfl rfl ?_
      refine Rg.move rfl rfl ?_
      refine Rg.lenraw Try.underlying23 rfl rfl ?_
      refine Rg.ilt rfl rfl rfl ?_
      refine Rg.nil ?_
      refine T.ifp rfl (fun c4 => ?_) (fun c4 => ?_)
      · -- c4 True
        refine T.skip ?_
        refine T.seq ?_
        refine T.block ?_
        refine T.seq ?_
        obtain ⟨a, hx⟩ : ∃ x, (xs)[k]? = some x := ⟨_, List.getElem?_eq_getElem (by omega)⟩
        obtain ⟨b, hy⟩ : ∃ x, (xs)[k - 1]? = some x := ⟨_, List.getElem?_eq_getElem (by omega)⟩
        apply T.drawQ0 mixed rfl rfl -- region 6
        intro wD6 sA6
        have sD6 := sA6 M
        refine Rg.move rfl rfl ?_
        refine Rg.nil ⟨rfl, rfl, rfl, ?_⟩
        refine Rg.move rfl rfl ?_
        refine Rg.nil ⟨rfl, rfl, rfl, ?_⟩
        refine Rg.idxo (size := 1) Try.underlying23 I3 rfl rfl rfl (by omega) (q := k) (by rw [Int.toNat_natCast]; omega) ?_
        refine Rg.nil ⟨rfl, rfl, rfl, ?_⟩
        refine Rg.loadi64 (M := fun b => M b ∧ b ≠ g) Try.underlying3 rfl rfl (((ho.step0 S).step0 sD6).ptri hx) (Le.refl _ _) (fun hin => ?_)
        refine Rg.nil ⟨rfl, rfl, rfl, ?_⟩
        refine Rg.move rfl rfl ?_
        refine Rg.nil ⟨rfl, rfl, rfl, ?_⟩
        refine Rg.move rfl rfl ?_
        refine Rg.nil ⟨rfl, rfl, rfl, ?_⟩
        refine Rg.isub rfl rfl rfl (by omega) ?_
        refine Rg.nil ⟨rfl, rfl, rfl, ?_⟩
        refine Rg.idxo (size := 1) Try.underlying23 I3 rfl rfl rfl (by omega) (q := k - 1) (by omega) ?_
        refine Rg.nil ⟨rfl, rfl, rfl, ?_⟩
        refine Rg.loadi64 (M := fun b => M b ∧ b ≠ g) Try.underlying3 rfl rfl (((ho.step0 S).step0 sD6).ptri hy) (Le.refl _ _) (fun hin => ?_)
        refine Rg.nil ⟨rfl, rfl, rfl, ?_⟩
        refine Rg.ieq rfl rfl rfl ?_
        refine Rg.nil ⟨rfl, rfl, rfl, ?_⟩
        refine QRg.nil ?_
        refine T.ifp rfl (fun c6 => ?_) (fun c6 => ?_)
        · -- c6 True
          refine T.seq ?_
          refine T.region ?_ -- region 7
          refine Rg.move rfl rfl ?_
          refine Rg.move rfl rfl ?_
          refine Rg.dropo Try.underlying23 I3 rfl rfl rfl (by omega) ?_
          refine Rg.eqv (v' := .slice (some ⟨g, k, none⟩) (xs.length - k) (cap - k)) (by rw [Int.toNat_natCast, Nat.mul_one]) ?_
          refine Rg.assign rfl rfl ?_
          refine Rg.nil ?_
          refine T.seq ?_
          refine T.seq ?_
          refine T.region ?_ -- region 8
          refine Rg.assign rfl rfl ?_
          refine Rg.nil ?_
          refine T.block ?_
          refine T.loop (σ := Nat × Nat) (fun s => [(0, .slice (some ⟨g, 0, none⟩) xs.length cap), (3, .int .i64 s.2), (4, .slice (some ⟨g, k, none⟩) (xs.length - k) (cap - k)), (5, .int .i64 s.1)]) (fun s w => 1 ≤ s.1 ∧ s.1 ≤ xs.length - k ∧ k ≤ s.2 ∧ s.2 + 1 ≤ k + s.1 ∧ ∃ ys, Own (RT.int .i64) 3 M w base (.slice (some ⟨g, 0, none⟩) xs.length cap) ys ∧ ys.length = xs.length ∧ Step M w0 M w (blk (.slice (some ⟨g, 0, none⟩) xs.length cap))) (fun s => xs.length - k - s.1) (1, k) (.cons rfl (.cons rfl (.cons rfl (.cons rfl .nil)))) ?_ ?_ -- loop 1
          · exact ⟨Nat.le_refl _, by simp only; omega, Nat.le_refl _, Nat.le_refl _, xs, (ho.step0 S).step0 sD6, rfl, (S.trans0 sD6).widen (fun _ h => h.elim) (fun b hb => ho.mut_ b hb)⟩
          · rintro ⟨k2, kk⟩ w2 ⟨h21, h22, hkk1, hkk2, ys, ho2, hyl, S2⟩
            dsimp only at h21 h22 hkk1 hkk2 ho2 ⊢
            refine T.seq ?_
            refine T.seq ?_
            refine T.region ?_ -- region 9
            refine Rg.move rfl rfl ?_
            refine Rg.move rfl rfl ?_
            refine Rg.lenraw Try.underlying23 rfl rfl ?_
            refine Rg.ilt rfl rfl rfl ?_
            refine Rg.nil ?_
            refine T.ifp rfl (fun c9 => ?_) (fun c9 => ?_)
            · -- c9 True
              refine T.skip ?_
              refine T.seq ?_
              refine T.block ?_
              refine T.seq ?_
              obtain ⟨a2, hx⟩ : ∃ x, (ys)[k + k2]? = some x := ⟨_, List.getElem?_eq_getElem (by omega)⟩
              obtain ⟨b2, hy⟩ : ∃ x, (ys)[k + k2 - 1]? = some x := ⟨_, List.getElem?_eq_getElem (by omega)⟩
              apply T.drawQ0 mixed rfl rfl -- region 11
              intro wD11 sA11
              have sD11 := sA11 M
              refine Rg.move rfl rfl ?_
              refine Rg.nil ⟨rfl, rfl, rfl, ?_⟩
              refine Rg.move rfl rfl ?_
              refine Rg.nil ⟨rfl, rfl, rfl, ?_⟩
              refine Rg.idxo (size := 1) Try.underlying23 I3 rfl rfl rfl (by omega) (q := k + k2) (by rw [Int.toNat_natCast]; omega) ?_
              refine Rg.nil ⟨rfl, rfl, rfl, ?_⟩
              refine Rg.loadi64 (M := fun b => M b ∧ b ≠ g) Try.underlying3 rfl rfl ((ho2.step0 sD11).ptri hx) (Le.refl _ _) (fun hin => ?_)
              refine Rg.nil ⟨rfl, rfl, rfl, ?_⟩
              refine Rg.move rfl rfl ?_
              refine Rg.nil ⟨rfl, rfl, rfl, ?_⟩
              refine Rg.move rfl rfl ?_
              refine Rg.nil ⟨rfl, rfl, rfl, ?_⟩
              refine Rg.isub rfl rfl rfl (by omega) ?_
              refine Rg.nil ⟨rfl, rfl, rfl, ?_⟩
              refine Rg.idxo (size := 1) Try.underlying23 I3 rfl rfl rfl (by omega) (q := k + k2 - 1) (by omega) ?_
              refine Rg.nil ⟨rfl, rfl, rfl, ?_⟩
              refine Rg.loadi64 (M := fun b => M b ∧ b ≠ g) Try.underlying3 rfl rfl ((ho2.step0 sD11).ptri hy) (Le.refl _ _) (fun hin => ?_)
              refine Rg.nil ⟨rfl, rfl, rfl, ?_⟩
              refine Rg.ine rfl rfl rfl ?_
              refine Rg.nil ⟨rfl, rfl, rfl, ?_⟩
              refine QRg.nil ?_
              refine T.ifp rfl (fun c11 => ?_) (fun c11 => ?_)
              · -- c11 True
                refine T.seq ?_
                refine T.region ?_ -- region 12
                refine Rg.move rfl rfl ?_
                refine Rg.move rfl rfl ?_
                refine Rg.move rfl rfl ?_
                refine Rg.move rfl rfl ?_
                refine Rg.idxo (size := 1) Try.underlying23 I3 rfl rfl rfl (by omega) (q := k + k2) (by rw [Int.toNat_natCast]; omega) ?_
                refine Rg.loadi64 (M := fun b => M b ∧ b ≠ g) Try.underlying3 rfl rfl ((ho2.step0 sD11).ptri hx) (Le.refl _ _) (fun hin => ?_)
                refine Rg.idxo (size := 1) Try.underlying23 I3 rfl rfl rfl (by omega) (q := kk) (by rw [Int.toNat_natCast]; omega) ?_
                refine Rg.storei (M := M) I3 rfl rfl (ho2.step0 sD11) (by omega) hin (fun w5 ho5 s5 => ?_)
                refine Rg.nil ?_
                refine T.region ?_ -- region 13
                refine Rg.move rfl rfl ?_
                refine Rg.iadd rfl rfl rfl (by omega) ?_
                refine Rg.assign rfl rfl ?_
                refine Rg.nil ?_
                refine T.region ?_ -- region 10
                refine Rg.move rfl rfl ?_
                refine Rg.iadd rfl rfl rfl (by omega) ?_
                refine Rg.assign rfl rfl ?_
                refine Rg.nil ?_
                refine ⟨rfl, (k2 + 1, _), (.cons rfl (.cons rfl (.cons rfl (.cons rfl .nil)))), ?_, ?_⟩
                · first
                  | exact ⟨by simp only; omega, by simp only; omega, by simp only; omega, by simp only; omega, _, ho5, by rw [List.length_set]; exact hyl, (S2.trans0 sD11).trans s5 (fun b _ hb => hN b hb)⟩
                  | exact ⟨by simp only; omega, by simp only; omega, by simp only; omega, by simp only; omega, ys, ho2.step0 sD11, hyl, S2.trans0 sD11⟩
                · simp only; omega
              · -- c11 False
                refine T.skip ?_
                refine T.region ?_ -- region 10
                refine Rg.move rfl rfl ?_
                refine Rg.iadd rfl rfl rfl (by omega) ?_
                refine Rg.assign rfl rfl ?_
                refine Rg.nil ?_
                refine ⟨rfl, (k2 + 1, _), (.cons rfl (.cons rfl (.cons rfl (.cons rfl .nil)))), ?_, ?_⟩
                · first
                  | exact ⟨by simp only; omega, by simp only; omega, by simp only; omega, by simp only; omega, _, ho5, by rw [List.length_set]; exact hyl, (S2.trans0 sD11).trans s5 (fun b _ hb => hN b hb)⟩
                  | exact ⟨by simp only; omega, by simp only; omega, by simp only; omega, by simp only; omega, ys, ho2.step0 sD11, hyl, S2.trans0 sD11⟩
                · simp only; omega
            · -- c9 False
              refine T.exit ?_
              refine T.seq ?_
              refine T.region ?_ -- region 14
              refine Rg.move rfl rfl ?_
              refine Rg.move rfl rfl ?_
              refine Rg.dropo Try.underlying23 I3 rfl rfl rfl (by omega) ?_
              refine Rg.eqv (v' := .slice (some ⟨g, kk, none⟩) (xs.length - kk) (cap - kk)) (by rw [Int.toNat_natCast, Nat.mul_one]) ?_
              refine Rg.cleari (M := M) Try.underlying23 I3 rfl ho2 (by omega) (by omega) (by decide) (fun w6 ho6 s6 => ?_)
              refine Rg.nil ?_
              refine T.seq ?_
              refine T.region ?_ -- region 15
              refine Rg.move rfl rfl ?_
              refine Rg.move rfl rfl ?_
              refine Rg.cuto Try.underlying23 I3 rfl rfl rfl (by omega) ?_
              refine Rg.eqv (v' := .slice (some ⟨g, 0, none⟩) kk cap) (by rw [Int.toNat_natCast]) ?_
              refine Rg.assign rfl rfl ?_
              refine Rg.nil ?_
              refine T.ret ?_
              exact Kret1 rfl rfl ⟨_, kk, cap, rfl, ⟨fun h => by omega, fun h => absurd (h (k - 1) (by omega)) (by rw [show k - 1 + 1 = k from by omega, getD_of hy, getD_of hx]; exact fun h => h c6.symm)⟩, S2.trans s6 (fun b _ hb => hN b hb)⟩
        · -- c6 False
          refine T.skip ?_
          refine T.region ?_ -- region 5
          refine Rg.move rfl rfl ?_
          refine Rg.iadd rfl rfl rfl (by omega) ?_
          refine Rg.assign rfl rfl ?_
          refine Rg.nil ?_
          refine ⟨rfl, k + 1, (.cons rfl (.cons rfl .nil)), ?_, ?_⟩
          · refine ⟨by omega, by omega, fun i hi => ?_, S.trans0 sD6⟩
            by_cases e : i + 1 = k
            · rw [e, getD_of hx, show i = k - 1 from by omega, getD_of hy]; exact fun h => c6 h.symm
            · exact hno i (by omega)
          · show xs.length - (k + 1) < xs.length - k; omega
      · -- c4 False
        refine T.exit ?_
        refine T.seq ?_
        refine T.region ?_ -- region 16
        refine Rg.move rfl rfl ?_
        refine Rg.assign rfl rfl ?_
        refine Rg.nil ?_
        refine T.ret ?_
        exact Kret1 rfl rfl ⟨_, xs.length, cap, rfl, ⟨fun _ i hi => hno i (by omega), fun _ => rfl⟩, S.widen (fun _ h => h.elim) (fun b hb => ho.mut_ b hb)⟩

end Go.K

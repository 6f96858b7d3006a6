/- The walks of Go functions, operation by operation. -/
import Derived.Test.YtgpmihcdjmjfoaaKTypes
import Derived.Test.YtgpmihcdjmjfoaaKNum
import Derived.Test.YtgpmihcdjmjfoaaKPost
import Derived.Test.YtgpmihcdjmjfoaaKMatch
import Derived.Test.YtgpmihcdjmjfoaaKSides
import Derived.Test.YtgpmihcdjmjfoaaKDraw
import Derived.Test.YtgpmihcdjmjfoaaKSearch
import Derived.Test.YtgpmihcdjmjfoaaProg
import Derived.KernelRfl
namespace Go.K
open Go.Proofs
namespace TKSides2
theorem I23 : TI Try.prog 23 (.slice none 0 0) 1 24 := by unfold TI; kernel_rfl -- []int
theorem E47 : Enters Try.prog 47 := enters Try.func47 rfl (by decide) -- slices.BinarySearch[[]int,int]
theorem E48 : Enters Try.prog 48 := enters Try.func48 rfl (by decide) -- concordance/concordanceref13.has
end TKSides2
open TKSides2
set_option linter.unusedVariables false
set_option linter.unusedSimpArgs false
set_option maxRecDepth 10000

/-- 'concordance/match.Side' -/
theorem Side_spec {M : PSet} {w0 : World} {v : Value} {ls : List (List Int)} (hv : (((RT.int .i64).sl).sl).V M w0 ls v) (hg : ∀ l ∈ ls, GoodL l) (hll : ls.length ≤ 1000) :
    Spec Try.prog 15 #[v] w0 (fun v' w' => v' = .int .i64 (sideC ls) ∧ w0 = w') := by
  have hlen := V_sl_len hv
  refine spec_of (args := [v]) (fn := Try.f15) Try.func15 rfl (n := 49) Try.ntmps15 ?_
  refine T.seq ?_
  refine T.region ?_ -- region 0
  refine Rg.assign rfl rfl ?_
  refine Rg.nil ?_
  refine T.seq ?_
  refine T.seq ?_
  refine T.region ?_ -- region 1
  refine Rg.move rfl rfl ?_
  refine Rg.lensl Try.underlying22 rfl hv rfl ?_
  refine Rg.ieq rfl rfl rfl ?_
  refine Rg.nil ?_
  refine T.ifp rfl (fun c1 => ?_) (fun c1 => ?_)
  · -- c1 True
    refine T.seq ?_
    refine T.region ?_ -- region 2
    refine Rg.assign rfl rfl ?_
    refine Rg.nil ?_
    refine T.ret ?_
    have : ls = [] := List.length_eq_zero_iff.1 (by omega)
    subst this
    exact Kret1 rfl rfl ⟨rfl, rfl⟩
  · -- c1 False
    obtain ⟨l0, tl, rfl⟩ : ∃ l0 tl, ls = l0 :: tl := by
      cases ls with
      | nil => simp at c1
      | cons a b => exact ⟨a, b, rfl⟩
    have htl : tl.length ≤ 1000 := by simp only [List.length_cons] at hll; omega
    have hlc : (l0 :: tl).length = tl.length + 1 := rfl
    refine T.skip ?_
    refine T.seq ?_
    refine T.region ?_ -- region 3
    refine Rg.assign rfl rfl ?_
    refine Rg.nil ?_
    refine T.seq ?_
    refine T.seq ?_
    refine T.region ?_ -- region 4
    refine Rg.move rfl rfl ?_

    refine Rg.idx (M := M) Try.underlying22 I23 rfl rfl rfl (hv) (Le.refl _ _) (by omega) (fun u4_1 a4_1 hg4_1 hu4_1 => ?_)
    obtain rfl : l0 = a4_1 := Eq.symm (Option.some.inj (hg4_1.symm.trans rfl))
    refine Rg.load (M := M) Try.underlying23 rfl rfl rfl rfl rfl hu4_1 (Le.refl _ _) (fun v16 hv16 => ?_)
    replace hv16 : ((RT.int .i64).sl).V M w0 l0 v16 := hv16
    have hl0 := hg l0 (List.mem_cons_self ..)
    have hl0l := hl0.2.2
    refine Rg.lensl Try.underlying23 rfl hv16 rfl ?_
    refine Rg.move rfl rfl ?_
    refine Rg.nil ?_
    refine T.block ?_
    refine T.loop (σ := Nat) (fun s => [(0, v), (3, .int .i64 (cntS tl l0 s)), (16, v16), (17, .int .i64 l0.length), (18, .int .i64 s)]) (fun s w => w0 = w ∧ s ≤ l0.length) (fun s => l0.length - s) 0 (.cons rfl (.cons rfl (.cons rfl (.cons rfl (.cons rfl .nil))))) ?_ ?_ -- loop 0
    · exact ⟨rfl, Nat.zero_le _⟩
    · rintro i w1 ⟨rfl, hi⟩
      refine T.seq ?_
      refine T.region ?_ -- region 5
      refine Rg.ilt rfl rfl rfl ?_
      refine Rg.nil ?_
      refine T.seq ?_
      refine T.ifp rfl (fun c5 => ?_) (fun c5 => ?_)
      · -- c5 True
        refine T.skip ?_
        refine T.seq ?_
        refine T.block ?_
        refine T.seq ?_
        refine T.region ?_ -- region 6
        obtain ⟨at_, hx⟩ : ∃ x, l0[i]? = some x := ⟨_, List.getElem?_eq_getElem (by omega)⟩
        refine Rg.idx (M := M) Try.underlying23 I3 rfl rfl rfl (hv16) (Le.refl _ _) (by omega) (fun u6_0 a6_0 hg6_0 hu6_0 => ?_)
        obtain rfl : at_ = a6_0 := Eq.symm (Option.some.inj (hg6_0.symm.trans (by rw [Int.toNat_natCast]; exact hx)))
        have hat := hl0.2.1 at_ (List.mem_of_getElem? hx)
        refine Rg.loadi64 (M := M) Try.underlying3 rfl rfl hu6_0 (Le.refl _ _) (fun _ => ?_)
        refine Rg.eqv (v' := .int .i64 at_) rfl ?_
        refine Rg.assign rfl rfl ?_
        refine Rg.nil ?_
        refine T.seq ?_
        refine T.region ?_ -- region 7
        refine Rg.assign rfl rfl ?_
        refine Rg.nil ?_
        refine T.seq ?_
        refine T.seq ?_
        refine T.region ?_ -- region 8
        refine Rg.move rfl rfl ?_
        refine Rg.slice_l (A := (RT.int .i64).sl) (hn := by decide) Try.underlying22 I23 rfl rfl rfl hv (by simp only [List.length_cons]; omega) (fun u23 hu23 => ?_)
        replace hu23 : (((RT.int .i64).sl).sl).V M w0 tl u23 := hu23
        refine Rg.lensl Try.underlying22 rfl hu23 rfl ?_
        refine Rg.move rfl rfl ?_
        refine Rg.nil ?_
        refine T.block ?_
        refine T.loop (σ := Nat) (fun s => [(0, v), (3, .int .i64 (cntS tl l0 i)), (5, .int .i64 at_), (6, .bool (okS tl at_ s)), (16, v16), (17, .int .i64 l0.length), (18, .int .i64 i), (23, u23), (24, .int .i64 tl.length), (25, .int .i64 s)]) (fun s w => w0 = w ∧ s ≤ tl.length) (fun s => tl.length - s) 0 (.cons rfl (.cons rfl (.cons rfl (.cons rfl (.cons rfl (.cons rfl (.cons rfl (.cons rfl (.cons rfl (.cons rfl .nil)))))))))) ?_ ?_ -- loop 1
        · exact ⟨rfl, Nat.zero_le _⟩
        · rintro k w2 ⟨rfl, hk⟩
          refine T.seq ?_
          refine T.region ?_ -- region 9
          refine Rg.ilt rfl rfl rfl ?_
          refine Rg.nil ?_
          refine T.seq ?_
          refine T.ifp rfl (fun c9 => ?_) (fun c9 => ?_)
          · -- c9 True
            refine T.skip ?_
            refine T.seq ?_
            refine T.block ?_
            refine T.seq ?_
            refine T.region ?_ -- region 10
            refine Rg.move rfl rfl ?_
            obtain ⟨lk, hlk⟩ : ∃ x, tl[k]? = some x := ⟨_, List.getElem?_eq_getElem (by omega)⟩
            refine Rg.idx (M := M) Try.underlying22 I23 rfl rfl rfl (hu23) (Le.refl _ _) (by omega) (fun u10_1 a10_1 hg10_1 hu10_1 => ?_)
            obtain rfl : lk = a10_1 := Eq.symm (Option.some.inj (hg10_1.symm.trans (by rw [Int.toNat_natCast]; exact hlk)))
            refine Rg.load (M := M) Try.underlying23 rfl rfl rfl rfl rfl hu10_1 (Le.refl _ _) (fun v8 hv8 => ?_)
            replace hv8 : ((RT.int .i64).sl).V M w0 lk v8 := hv8
            have hgk := hg lk (List.mem_cons_of_mem _ (List.mem_of_getElem? hlk))
            have hgd : tl.getD k [] = lk := by rw [List.getD_eq_getElem?_getD, hlk]; rfl
            refine Rg.assign rfl rfl ?_
            refine Rg.assign rfl rfl ?_
            refine Rg.nil ?_
            refine T.seq ?_
            refine T.region ?_ -- region 11
            refine Rg.move rfl rfl ?_
            refine Rg.move rfl rfl ?_
            refine Rg.iadd rfl rfl rfl (by omega) ?_
            refine Rg.move rfl rfl ?_
            refine Rg.iadd rfl rfl rfl (by omega) ?_
            refine Rg.call rfl rfl E47 (Search_spec (x := at_ + 1 + k) hv8 hgk.1) (fun r wc h => ?_)
            obtain ⟨i5, rfl, rfl⟩ := h
            refine Rg.move rfl rfl ?_
            refine Rg.extract rfl rfl rfl ?_
            refine Rg.extract rfl rfl rfl ?_
            refine Rg.assign rfl rfl ?_
            refine Rg.assign rfl rfl ?_
            refine Rg.nil ?_
            refine T.region ?_ -- region 12
            refine Rg.move rfl rfl ?_
            refine Rg.move rfl rfl ?_
            refine Rg.eqv (v' := .bool (decide (okS tl at_ k = true))) (by simp) ?_
            refine Rg.gsplitp (g := 40) rfl (fun g12_1 => ?_) (fun g12_1 => ?_)
            · -- g12_1 True
              refine Rg.gyes rfl rfl ?_
              refine Rg.move rfl rfl ?_
              refine Rg.pickt rfl rfl rfl ?_
              refine Rg.assign rfl rfl ?_
              refine Rg.nil ?_
              refine T.region ?_ -- region 13
              refine Rg.iadd rfl rfl rfl (by omega) ?_
              refine Rg.move rfl rfl ?_
              refine Rg.nil ?_
              refine ⟨rfl, k + 1, (.cons rfl (.cons rfl (.cons rfl (.cons (by first | (rw [okS_succ, g12_1, hgd, Bool.true_and]; rfl) | (rw [okS_succ, (Bool.not_eq_true _).mp g12_1, Bool.false_and]; rfl)) (.cons rfl (.cons rfl (.cons rfl (.cons rfl (.cons rfl (.cons rfl .nil)))))))))), ?_, ?_⟩
              · exact ⟨rfl, by omega⟩
              · show _ - (k + 1) < _ - k; omega
            · -- g12_1 False
              refine Rg.gno rfl rfl rfl rfl ?_
              refine Rg.pickf rfl rfl rfl ?_
              refine Rg.assign rfl rfl ?_
              refine Rg.nil ?_
              refine T.region ?_ -- region 13
              refine Rg.iadd rfl rfl rfl (by omega) ?_
              refine Rg.move rfl rfl ?_
              refine Rg.nil ?_
              refine ⟨rfl, k + 1, (.cons rfl (.cons rfl (.cons rfl (.cons (by first | (rw [okS_succ, g12_1, hgd, Bool.true_and]; rfl) | (rw [okS_succ, (Bool.not_eq_true _).mp g12_1, Bool.false_and]; rfl)) (.cons rfl (.cons rfl (.cons rfl (.cons rfl (.cons rfl (.cons rfl .nil)))))))))), ?_, ?_⟩
              · exact ⟨rfl, by omega⟩
              · show _ - (k + 1) < _ - k; omega
          · -- c9 False
            refine T.exit ?_
            refine T.seq ?_
            refine T.region ?_ -- region 14
            obtain rfl : k = tl.length := by omega
            refine Rg.move rfl rfl ?_
            refine Rg.eqv (v' := .bool (decide (okS tl at_ tl.length = true))) (by simp) ?_
            refine Rg.nil ?_
            refine T.ifp rfl (fun c14 => ?_) (fun c14 => ?_)
            · -- c14 True
              refine T.region ?_ -- region 15
              refine Rg.move rfl rfl ?_
              have hcl := cntS_le tl l0 i
              refine Rg.iadd rfl rfl rfl (by omega) ?_
              refine Rg.assign rfl rfl ?_
              refine Rg.nil ?_
              refine T.region ?_ -- region 16
              refine Rg.iadd rfl rfl rfl (by omega) ?_
              refine Rg.move rfl rfl ?_
              refine Rg.nil ?_
              refine ⟨rfl, i + 1, (.cons rfl (.cons (by first | (rw [cntS_succ hx, if_pos c14]; rfl) | (rw [cntS_succ hx, if_neg c14]; rfl)) (.cons rfl (.cons rfl (.cons rfl .nil))))), ?_, ?_⟩
              · exact ⟨rfl, by omega⟩
              · show _ - (i + 1) < _ - i; omega
            · -- c14 False
              refine T.skip ?_
              refine T.region ?_ -- region 16
              refine Rg.iadd rfl rfl rfl (by omega) ?_
              refine Rg.move rfl rfl ?_
              refine Rg.nil ?_
              refine ⟨rfl, i + 1, (.cons rfl (.cons (by first | (rw [cntS_succ hx, if_pos c14]; rfl) | (rw [cntS_succ hx, if_neg c14]; rfl)) (.cons rfl (.cons rfl (.cons rfl .nil))))), ?_, ?_⟩
              · exact ⟨rfl, by omega⟩
              · show _ - (i + 1) < _ - i; omega
      · -- c5 False
        refine T.exit ?_
        refine T.seq ?_
        refine T.region ?_ -- region 17
        refine Rg.move rfl rfl ?_
        refine Rg.assign rfl rfl ?_
        refine Rg.nil ?_
        refine T.ret ?_
        obtain rfl : i = l0.length := by omega
        exact Kret1 rfl rfl ⟨rfl, rfl⟩

/-- 'concordance/concordanceref13.has' -/
theorem has_spec {M : PSet} {w0 : World} {v : Value} {l : List Int} {x : Int} (hv : ((RT.int .i64).sl).V M w0 l v) :
    Spec Try.prog 48 #[v, .int .i64 x] w0 (fun v' w' => v' = .bool (l.contains x) ∧ w0 = w') := by
  have hlen := V_sl_len hv
  refine spec_of (args := [v, .int .i64 x]) (fn := Try.f48) Try.func48 rfl (n := 18) Try.ntmps48 ?_
  refine T.seq ?_
  refine T.region ?_ -- region 0
  refine Rg.assign rfl rfl ?_
  refine Rg.nil ?_
  refine T.seq ?_
  refine T.seq ?_
  refine T.region ?_ -- region 1
  refine Rg.assign rfl rfl ?_
  refine Rg.nil ?_
  refine T.block ?_
  refine T.loop (σ := Nat) (fun s => [(0, v), (1, .int .i64 x), (5, .int .i64 s)]) (fun s w => w0 = w ∧ s ≤ l.length ∧ ∀ t y, t < s → l[t]? = some y → ¬ y = x) (fun s => l.length - s) 0 (.cons rfl (.cons rfl (.cons rfl .nil))) ?_ ?_ -- loop 0
  · exact ⟨rfl, Nat.zero_le _, fun t y h => absurd h (Nat.not_lt_zero _)⟩
  · rintro k w1 ⟨rfl, hk, hno⟩
    refine T.seq ?_
    refine T.seq ?_
    refine T.region ?_ -- region 2
    refine Rg.move rfl rfl ?_
    refine Rg.move rfl rfl ?_
    refine Rg.lensl Try.underlying23 rfl hv rfl ?_
    refine Rg.ilt rfl rfl rfl ?_
    refine Rg.nil ?_
    refine T.ifp rfl (fun c2 => ?_) (fun c2 => ?_)
    · -- c2 True
      refine T.skip ?_
      refine T.seq ?_
      refine T.block ?_
      refine T.seq ?_
      refine T.region ?_ -- region 4
      refine Rg.move rfl rfl ?_
      refine Rg.move rfl rfl ?_
      obtain ⟨y, hy⟩ : ∃ y, l[k]? = some y := ⟨_, List.getElem?_eq_getElem (by omega)⟩
      refine Rg.idx (M := M) Try.underlying23 I3 rfl rfl rfl (hv) (Le.refl _ _) (by omega) (fun u4_2 a4_2 hg4_2 hu4_2 => ?_)
      obtain rfl : y = a4_2 := Eq.symm (Option.some.inj (hg4_2.symm.trans (by rw [Int.toNat_natCast]; exact hy)))
      refine Rg.loadi64 (M := M) Try.underlying3 rfl rfl (by assumption) (by repeat (first | exact Le.refl _ _ | refine Le.trans (Step.le (by assumption)) ?_)) (fun in4_3 => ?_)
      refine Rg.eqv (v' := .int .i64 y) rfl ?_
      replace in4_3 : -9223372036854775808 ≤ (y : Int) ∧ y ≤ 9223372036854775807 := in4_3
      refine Rg.move rfl rfl ?_
      refine Rg.ieq rfl rfl rfl ?_
      refine Rg.nil ?_
      refine T.ifp rfl (fun c4 => ?_) (fun c4 => ?_)
      · -- c4 True
        refine T.seq ?_
        refine T.region ?_ -- region 5
        refine Rg.assign rfl rfl ?_
        refine Rg.nil ?_
        refine T.ret ?_
        exact Kret1 rfl rfl ⟨by rw [List.contains_iff_mem.2 (by rw [← c4]; exact List.mem_of_getElem? hy)], rfl⟩
      · -- c4 False
        refine T.skip ?_
        refine T.region ?_ -- region 3
        refine Rg.move rfl rfl ?_
        refine Rg.iadd rfl rfl rfl (by omega) ?_
        refine Rg.assign rfl rfl ?_
        refine Rg.nil ?_
        refine ⟨rfl, k + 1, (.cons rfl (.cons rfl (.cons rfl .nil))), ?_, ?_⟩
        · refine ⟨rfl, by omega, fun t z ht hz => ?_⟩
          rcases Nat.lt_or_ge t k with h | h
          · exact hno t z h hz
          · rw [show t = k from by omega, hy] at hz; cases hz; exact c4
        · show _ - (k + 1) < _ - k; omega
    · -- c2 False
      refine T.exit ?_
      refine T.seq ?_
      refine T.region ?_ -- region 6
      refine Rg.assign rfl rfl ?_
      refine Rg.nil ?_
      refine T.ret ?_
      refine Kret1 rfl rfl ⟨?_, rfl⟩
      have : l.contains x = false := by
        cases h : l.contains x with
        | false => rfl
        | true =>
          obtain ⟨t, ht⟩ := List.mem_iff_getElem?.1 (List.contains_iff_mem.1 h)
          exact absurd rfl (hno t x (by have := (List.getElem?_eq_some_iff.1 ht).1; omega) ht)
      rw [this]

/-- 'concordance/concordanceref13.Side' -/
theorem rSide_spec {M : PSet} {w0 : World} {v : Value} {ls : List (List Int)} (hM : Lt M w0) (hv : (((RT.int .i64).sl).sl).V M w0 ls v) (hg : ∀ l ∈ ls, GoodL l) (hll : ls.length ≤ 1000) :
    Spec Try.prog 16 #[v] w0 (fun v' w' => v' = .int .i64 (sideC ls) ∧ Step M w0 M w' none') := by
  have hlen := V_sl_len hv
  refine spec_of (args := [v]) (fn := Try.f16) Try.func16 rfl (n := 46) Try.ntmps16 ?_
  refine T.seq ?_
  refine T.region ?_ -- region 0
  refine Rg.assign rfl rfl ?_
  refine Rg.nil ?_
  refine T.seq ?_
  refine T.seq ?_
  refine T.region ?_ -- region 1
  refine Rg.move rfl rfl ?_
  refine Rg.lensl Try.underlying22 rfl hv rfl ?_
  refine Rg.ieq rfl rfl rfl ?_
  refine Rg.nil ?_
  refine T.ifp rfl (fun c1 => ?_) (fun c1 => ?_)
  · -- c1 True
    refine T.seq ?_
    refine T.region ?_ -- region 2
    refine Rg.assign rfl rfl ?_
    refine Rg.nil ?_
    refine T.ret ?_
    have : ls = [] := List.length_eq_zero_iff.1 (by omega)
    subst this
    exact Kret1 rfl rfl ⟨rfl, Step.refl _ _⟩
  · -- c1 False
    obtain ⟨l0, tl, rfl⟩ : ∃ l0 tl, ls = l0 :: tl := by
      cases ls with
      | nil => simp at c1
      | cons a b => exact ⟨a, b, rfl⟩
    have htl : tl.length ≤ 1000 := by simp only [List.length_cons] at hll; omega
    have hlc : (l0 :: tl).length = tl.length + 1 := rfl
    have hl0 := hg l0 (List.mem_cons_self ..)
    have hl0l := hl0.2.2
    refine T.skip ?_
    refine T.seq ?_
    refine T.region ?_ -- region 3
    refine Rg.assign rfl rfl ?_
    refine Rg.nil ?_
    refine T.seq ?_
    refine T.seq ?_
    refine T.region ?_ -- region 4
    refine Rg.assign rfl rfl ?_
    refine Rg.nil ?_
    refine T.block ?_
    refine T.loop (σ := Nat) (fun s => [(0, v), (3, .int .i64 (cntS tl l0 s)), (4, .int .i64 s)]) (fun s w => Step M w0 M w none' ∧ s ≤ l0.length) (fun s => l0.length - s) 0 (.cons rfl (.cons rfl (.cons rfl .nil))) ?_ ?_ -- loop 0
    · exact ⟨Step.refl _ _, Nat.zero_le _⟩
    · rintro i w1 ⟨S, hi⟩
      refine T.seq ?_
      refine T.seq ?_
      refine T.region ?_ -- region 5
      refine Rg.move rfl rfl ?_
      refine Rg.move rfl rfl ?_

      refine Rg.idx (M := M) Try.underlying22 I23 rfl rfl rfl (hv.le S.le) (Le.refl _ _) (by omega) (fun u5_2 a5_2 hg5_2 hu5_2 => ?_)
      obtain rfl : l0 = a5_2 := Eq.symm (Option.some.inj (hg5_2.symm.trans rfl))
      refine Rg.load (M := M) Try.underlying23 rfl rfl rfl rfl rfl hu5_2 (Le.refl _ _) (fun v5 hv5 => ?_)
      replace hv5 : ((RT.int .i64).sl).V M w1 l0 v5 := hv5
      refine Rg.lensl Try.underlying23 rfl hv5 rfl ?_
      refine Rg.ilt rfl rfl rfl ?_
      refine Rg.nil ?_
      refine T.ifp rfl (fun c5 => ?_) (fun c5 => ?_)
      · -- c5 True
        obtain ⟨at_, hx⟩ : ∃ x, l0[i]? = some x := ⟨_, List.getElem?_eq_getElem (by omega)⟩
        have hat := hl0.2.1 at_ (List.mem_of_getElem? hx)
        refine T.skip ?_
        refine T.seq ?_
        refine T.block ?_
        refine T.seq ?_
        refine T.region ?_ -- region 7
        refine Rg.assign rfl rfl ?_
        refine Rg.nil ?_
        refine T.seq ?_
        refine T.seq ?_
        refine T.region ?_ -- region 8
        refine Rg.assign rfl rfl ?_
        refine Rg.nil ?_
        refine T.block ?_
        refine T.loop (σ := Nat) (fun s => [(0, v), (3, .int .i64 (cntS tl l0 i)), (4, .int .i64 i), (5, .bool (okS tl at_ s)), (6, .int .i64 ((s : Int) + 1))]) (fun s w => Step M w0 M w none' ∧ s ≤ tl.length) (fun s => tl.length - s) 0 (.cons rfl (.cons rfl (.cons rfl (.cons rfl (.cons rfl .nil))))) ?_ ?_ -- loop 1
        · exact ⟨S, Nat.zero_le _⟩
        · clear S
          rintro k w2 ⟨S, hk⟩
          refine T.seq ?_
          refine T.seq ?_
          refine T.region ?_ -- region 9
          refine Rg.move rfl rfl ?_
          refine Rg.move rfl rfl ?_
          refine Rg.lensl Try.underlying22 rfl hv rfl ?_
          refine Rg.ilt rfl rfl rfl ?_
          refine Rg.nil ?_
          refine T.ifp rfl (fun c9 => ?_) (fun c9 => ?_)
          · -- c9 True
            refine T.skip ?_
            refine T.seq ?_
            refine T.block ?_
            refine T.seq ?_
            obtain ⟨lk, hlk⟩ : ∃ x, (l0 :: tl)[k + 1]? = some x := ⟨_, List.getElem?_eq_getElem (by omega)⟩
            have hgd : tl.getD k [] = lk := by rw [List.getD_eq_getElem?_getD, show tl[k]? = some lk from by simpa using hlk]; rfl
            apply T.drawT (M := M) mixed [] [Asr.eq _, Asr.eq _, Asr.ptr ((RT.int .i64).sl) lk, Asr.V ((RT.int .i64).sl) lk, Asr.eq _, Asr.ptr ((RT.int .i64).sl) l0, Asr.V ((RT.int .i64).sl) l0, Asr.eq _, Asr.ptr (RT.int .i64) at_, Asr.eq (.int .i64 at_), Asr.eq _, Asr.eq _, Asr.eq (.bool (lk.contains (at_ + 1 + k)))] 13 -- region 11
            · rfl
            · rfl
            · rfl
            · rfl
            · rfl
            · exact fun p hp => by cases hp
            · exact UOk.none
            · -- its operations
              refine OblsS.cons ?_ ?_
              · intro wD E sD -- 0
                refine Rg.move rfl rfl ?_
                exact Rg.nil ⟨rfl, rfl, _, rfl, rfl, Step.refl _ _⟩
              refine OblsS.cons ?_ ?_
              · intro wD E sD -- 1
                refine Rg.move rfl rfl ?_
                exact Rg.nil ⟨rfl, rfl, _, rfl, rfl, Step.refl _ _⟩
              refine OblsS.cons ?_ ?_
              · intro wD E sD -- 2
                intro x_ hx_; have hx_ : x_ = _ := hx_; subst x_
                intro x_ hx_; have hx_ : x_ = _ := hx_; subst x_
                refine Rg.idx (M := M) Try.underlying22 I23 rfl rfl rfl ((hv.le S.le).le sD.le) (Le.refl _ _) (by omega) (fun ui ai hgi hui => ?_)
                obtain rfl : lk = ai := Eq.symm (Option.some.inj (hgi.symm.trans (by rw [show ((k : Int) + 1).toNat = k + 1 from by omega]; exact hlk)))
                exact Rg.nil ⟨rfl, rfl, _, rfl, hui, Step.refl _ _⟩
              refine OblsS.cons ?_ ?_
              · intro wD E sD -- 3
                intro v2 hv2
                refine Rg.load (M := M) Try.underlying23 rfl rfl rfl rfl rfl (show PtrTo ((RT.int .i64).sl) M wD v2 lk from hv2) (Le.refl _ _) (fun va hva => ?_)
                exact Rg.nil ⟨rfl, rfl, _, rfl, hva, Step.refl _ _⟩
              refine OblsS.cons ?_ ?_
              · intro wD E sD -- 4
                refine Rg.move rfl rfl ?_
                exact Rg.nil ⟨rfl, rfl, _, rfl, rfl, Step.refl _ _⟩
              refine OblsS.cons ?_ ?_
              · intro wD E sD -- 5
                intro x_ hx_; have hx_ : x_ = _ := hx_; subst x_
                refine Rg.idx (M := M) Try.underlying22 I23 rfl rfl rfl ((hv.le S.le).le sD.le) (Le.refl _ _) (by omega) (fun ui ai hgi hui => ?_)
                obtain rfl : l0 = ai := Eq.symm (Option.some.inj (hgi.symm.trans rfl))
                exact Rg.nil ⟨rfl, rfl, _, rfl, hui, Step.refl _ _⟩
              refine OblsS.cons ?_ ?_
              · intro wD E sD -- 6
                intro v5 hv5
                refine Rg.load (M := M) Try.underlying23 rfl rfl rfl rfl rfl (show PtrTo ((RT.int .i64).sl) M wD v5 l0 from hv5) (Le.refl _ _) (fun va hva => ?_)
                exact Rg.nil ⟨rfl, rfl, _, rfl, hva, Step.refl _ _⟩
              refine OblsS.cons ?_ ?_
              · intro wD E sD -- 7
                refine Rg.move rfl rfl ?_
                exact Rg.nil ⟨rfl, rfl, _, rfl, rfl, Step.refl _ _⟩
              refine OblsS.cons ?_ ?_
              · intro wD E sD -- 8
                intro v6 hv6
                intro x_ hx_; have hx_ : x_ = _ := hx_; subst x_
                refine Rg.idx (M := M) Try.underlying23 I3 rfl rfl rfl (show ((RT.int .i64).sl).V M wD l0 v6 from hv6) (Le.refl _ _) (by omega) (fun ui ai hgi hui => ?_)
                obtain rfl : at_ = ai := Eq.symm (Option.some.inj (hgi.symm.trans (by rw [Int.toNat_natCast]; exact hx)))
                exact Rg.nil ⟨rfl, rfl, _, rfl, hui, Step.refl _ _⟩
              refine OblsS.cons ?_ ?_
              · intro wD E sD -- 9
                intro v8 hv8
                refine Rg.loadi64 (M := M) Try.underlying3 rfl rfl (show PtrTo (RT.int .i64) M wD v8 at_ from hv8) (Le.refl _ _) (fun hin => ?_)
                exact Rg.nil ⟨rfl, rfl, _, rfl, rfl, Step.refl _ _⟩
              refine OblsS.cons ?_ ?_
              · intro wD E sD -- 10
                refine Rg.move rfl rfl ?_
                exact Rg.nil ⟨rfl, rfl, _, rfl, rfl, Step.refl _ _⟩
              refine OblsS.cons ?_ ?_
              · intro wD E sD -- 11
                intro x_ hx_; have hx_ : x_ = _ := hx_; subst x_
                intro x_ hx_; have hx_ : x_ = _ := hx_; subst x_
                refine Rg.iadd rfl rfl rfl (by omega) ?_
                exact Rg.nil ⟨rfl, rfl, _, rfl, rfl, Step.refl _ _⟩
              refine OblsS.cons ?_ ?_
              · intro wD E sD -- 12
                intro v3 hv3
                intro x_ hx_; have hx_ : x_ = _ := hx_; subst x_
                refine Rg.call rfl rfl E48 (has_spec (show ((RT.int .i64).sl).V M wD lk v3 from hv3)) (fun r wc h => ?_)
                obtain ⟨rfl, rfl⟩ := h
                exact Rg.nil ⟨rfl, rfl, _, rfl, congrArg (fun z => Value.bool (lk.contains z)) (by omega), Step.refl _ _⟩
              exact OblsS.nil
            · -- behind it
              intro wD11 sD11
              intro x_ hx_; have hx_ : x_ = _ := hx_; subst x_
              intro x_ hx_; have hx_ : x_ = _ := hx_; subst x_
              intro v11_2 hv11_2
              intro v11_3 hv11_3
              intro x_ hx_; have hx_ : x_ = _ := hx_; subst x_
              intro v11_5 hv11_5
              intro v11_6 hv11_6
              intro x_ hx_; have hx_ : x_ = _ := hx_; subst x_
              intro v11_8 hv11_8
              intro x_ hx_; have hx_ : x_ = _ := hx_; subst x_
              intro x_ hx_; have hx_ : x_ = _ := hx_; subst x_
              intro x_ hx_; have hx_ : x_ = _ := hx_; subst x_
              intro x_ hx_; have hx_ : x_ = _ := hx_; subst x_
              replace S := S.trans0 sD11
              refine Rg.assign rfl rfl ?_
              refine Rg.nil ?_
              refine T.region ?_ -- region 12
              refine Rg.move rfl rfl ?_
              refine Rg.move rfl rfl ?_
              refine Rg.eqv (v' := .bool (decide (okS tl at_ k = true))) (by simp) ?_
              refine Rg.gsplitp (g := 39) rfl (fun g12_1 => ?_) (fun g12_1 => ?_)
              · -- g12_1 True
                refine Rg.gyes rfl rfl ?_
                refine Rg.move rfl rfl ?_
                refine Rg.pickt rfl rfl rfl ?_
                refine Rg.assign rfl rfl ?_
                refine Rg.nil ?_
                refine T.region ?_ -- region 10
                refine Rg.move rfl rfl ?_
                refine Rg.iadd rfl rfl rfl (by omega) ?_
                refine Rg.assign rfl rfl ?_
                refine Rg.nil ?_
                refine ⟨rfl, k + 1, (.cons rfl (.cons rfl (.cons rfl (.cons (by first | (rw [okS_succ, g12_1, hgd, Bool.true_and]; rfl) | (rw [okS_succ, (Bool.not_eq_true _).mp g12_1, Bool.false_and]; rfl)) (.cons rfl .nil))))), ?_, ?_⟩
                · exact ⟨S, by omega⟩
                · show _ - (k + 1) < _ - k; omega
              · -- g12_1 False
                refine Rg.gno rfl rfl rfl rfl ?_
                refine Rg.pickf rfl rfl rfl ?_
                refine Rg.assign rfl rfl ?_
                refine Rg.nil ?_
                refine T.region ?_ -- region 10
                refine Rg.move rfl rfl ?_
                refine Rg.iadd rfl rfl rfl (by omega) ?_
                refine Rg.assign rfl rfl ?_
                refine Rg.nil ?_
                refine ⟨rfl, k + 1, (.cons rfl (.cons rfl (.cons rfl (.cons (by first | (rw [okS_succ, g12_1, hgd, Bool.true_and]; rfl) | (rw [okS_succ, (Bool.not_eq_true _).mp g12_1, Bool.false_and]; rfl)) (.cons rfl .nil))))), ?_, ?_⟩
                · exact ⟨S, by omega⟩
                · show _ - (k + 1) < _ - k; omega
          · -- c9 False
            refine T.exit ?_
            refine T.seq ?_
            refine T.region ?_ -- region 13
            obtain rfl : k = tl.length := by omega
            refine Rg.move rfl rfl ?_
            refine Rg.eqv (v' := .bool (decide (okS tl at_ tl.length = true))) (by simp) ?_
            refine Rg.nil ?_
            refine T.ifp rfl (fun c13 => ?_) (fun c13 => ?_)
            · -- c13 True
              refine T.region ?_ -- region 14
              refine Rg.move rfl rfl ?_
              have hcl := cntS_le tl l0 i
              refine Rg.iadd rfl rfl rfl (by omega) ?_
              refine Rg.assign rfl rfl ?_
              refine Rg.nil ?_
              refine T.region ?_ -- region 6
              refine Rg.move rfl rfl ?_
              refine Rg.iadd rfl rfl rfl (by omega) ?_
              refine Rg.assign rfl rfl ?_
              refine Rg.nil ?_
              refine ⟨rfl, i + 1, (.cons rfl (.cons (by first | (rw [cntS_succ hx, if_pos c13]; rfl) | (rw [cntS_succ hx, if_neg c13]; rfl)) (.cons rfl .nil))), ?_, ?_⟩
              · exact ⟨S, by omega⟩
              · show _ - (i + 1) < _ - i; omega
            · -- c13 False
              refine T.skip ?_
              refine T.region ?_ -- region 6
              refine Rg.move rfl rfl ?_
              refine Rg.iadd rfl rfl rfl (by omega) ?_
              refine Rg.assign rfl rfl ?_
              refine Rg.nil ?_
              refine ⟨rfl, i + 1, (.cons rfl (.cons (by first | (rw [cntS_succ hx, if_pos c13]; rfl) | (rw [cntS_succ hx, if_neg c13]; rfl)) (.cons rfl .nil))), ?_, ?_⟩
              · exact ⟨S, by omega⟩
              · show _ - (i + 1) < _ - i; omega
      · -- c5 False
        refine T.exit ?_
        refine T.seq ?_
        refine T.region ?_ -- region 15
        refine Rg.move rfl rfl ?_
        refine Rg.assign rfl rfl ?_
        refine Rg.nil ?_
        refine T.ret ?_
        obtain rfl : i = l0.length := by omega
        exact Kret1 rfl rfl ⟨rfl, S⟩

end Go.K

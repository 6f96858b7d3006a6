/- The walks of Go functions, operation by operation. -/
import Derived.Test.YtgpmihcdjmjfoaaDoorKTypes
import Derived.Test.YtgpmihcdjmjfoaaDoorKNum
import Derived.Test.YtgpmihcdjmjfoaaDoorKPost
import Derived.Test.YtgpmihcdjmjfoaaDoorKMatch
import Derived.Test.YtgpmihcdjmjfoaaDoorKSides
import Derived.Test.YtgpmihcdjmjfoaaDoorKDraw
import Derived.Test.YtgpmihcdjmjfoaaDoorKSearch
import Derived.Test.YtgpmihcdjmjfoaaDoorProg
import Derived.KernelRfl
namespace Go.K
open Go.Proofs
namespace TKSides2
theorem I40 : TI Tryd.prog 40 (.slice none 0 0) 1 24 := by unfold TI; kernel_rfl -- []int
theorem E26 : Enters Tryd.prog 26 := enters Tryd.func26 rfl (by decide) -- slices.BinarySearch[[]int,int]
end TKSides2
open TKSides2
set_option linter.unusedVariables false
set_option linter.unusedSimpArgs false
set_option maxRecDepth 10000

/-- 'concordance/match.Side' -/
theorem Side_spec {M : PSet} {w0 : World} {v : Value} {ls : List (List Int)} (hv : (((RT.int .i64).sl).sl).V M w0 ls v) (hg : ∀ l ∈ ls, GoodL l) (hll : ls.length ≤ 1000) :
    Spec Tryd.prog 18 #[v] w0 (fun v' w' => v' = .int .i64 (sideC ls) ∧ w0 = w') := by
  have hlen := V_sl_len hv
  refine spec_of (args := [v]) (fn := Tryd.f18) Tryd.func18 rfl (n := 49) Tryd.ntmps18 ?_
  refine T.seq ?_
  refine T.region ?_ -- region 0
  refine Rg.assign rfl rfl ?_
  refine Rg.nil ?_
  refine T.seq ?_
  refine T.seq ?_
  refine T.region ?_ -- region 1
  refine Rg.move rfl rfl ?_
  refine Rg.lensl Tryd.underlying41 rfl hv rfl ?_
  refine Rg.ieq rfl rfl rfl ?_
  refine Rg.nil ?_
  refine T.ifp rfl (fun c1 => ?_) (fun c1 => ?_)
  · -- c1 True
    refine T.seq ?_
    refine T.region ?_ -- region 2
    refine Rg.assign rfl rfl ?_
    refine Rg.nil ?_
    refine T.ret ?_
    have : ls = [] := List.length_eq_zero_iff.1 (by omega)
    subst this
    exact Kret1 rfl rfl ⟨rfl, rfl⟩
  · -- c1 False
    obtain ⟨l0, tl, rfl⟩ : ∃ l0 tl, ls = l0 :: tl := by
      cases ls with
      | nil => simp at c1
      | cons a b => exact ⟨a, b, rfl⟩
    have htl : tl.length ≤ 1000 := by simp only [List.length_cons] at hll; omega
    have hlc : (l0 :: tl).length = tl.length + 1 := rfl
    refine T.skip ?_
    refine T.seq ?_
    refine T.region ?_ -- region 3
    refine Rg.assign rfl rfl ?_
    refine Rg.nil ?_
    refine T.seq ?_
    refine T.seq ?_
    refine T.region ?_ -- region 4
    refine Rg.move rfl rfl ?_

    refine Rg.idx (M := M) Tryd.underlying41 I40 rfl rfl rfl (hv) (Le.refl _ _) (by omega) (fun u4_1 a4_1 hg4_1 hu4_1 => ?_)
    obtain rfl : l0 = a4_1 := Eq.symm (Option.some.inj (hg4_1.symm.trans rfl))
    refine Rg.load (M := M) Tryd.underlying40 rfl rfl rfl rfl rfl hu4_1 (Le.refl _ _) (fun v16 hv16 => ?_)
    replace hv16 : ((RT.int .i64).sl).V M w0 l0 v16 := hv16
    have hl0 := hg l0 (List.mem_cons_self ..)
    have hl0l := hl0.2.2
    refine Rg.lensl Tryd.underlying40 rfl hv16 rfl ?_
    refine Rg.move rfl rfl ?_
    refine Rg.nil ?_
    refine T.block ?_
    refine T.loop (σ := Nat) (fun s => [(0, v), (3, .int .i64 (cntS tl l0 s)), (16, v16), (17, .int .i64 l0.length), (18, .int .i64 s)]) (fun s w => w0 = w ∧ s ≤ l0.length) (fun s => l0.length - s) 0 (.cons rfl (.cons rfl (.cons rfl (.cons rfl (.cons rfl .nil))))) ?_ ?_ -- loop 0
    · exact ⟨rfl, Nat.zero_le _⟩
    · rintro i w1 ⟨rfl, hi⟩
      refine T.seq ?_
      refine T.region ?_ -- region 5
      refine Rg.ilt rfl rfl rfl ?_
      refine Rg.nil ?_
      refine T.seq ?_
      refine T.ifp rfl (fun c5 => ?_) (fun c5 => ?_)
      · -- c5 True
        refine T.skip ?_
        refine T.seq ?_
        refine T.block ?_
        refine T.seq ?_
        refine T.region ?_ -- region 6
        obtain ⟨at_, hx⟩ : ∃ x, l0[i]? = some x := ⟨_, List.getElem?_eq_getElem (by omega)⟩
        refine Rg.idx (M := M) Tryd.underlying40 I3 rfl rfl rfl (hv16) (Le.refl _ _) (by omega) (fun u6_0 a6_0 hg6_0 hu6_0 => ?_)
        obtain rfl : at_ = a6_0 := Eq.symm (Option.some.inj (hg6_0.symm.trans (by rw [Int.toNat_natCast]; exact hx)))
        have hat := hl0.2.1 at_ (List.mem_of_getElem? hx)
        refine Rg.loadi64 (M := M) Tryd.underlying3 rfl rfl hu6_0 (Le.refl _ _) (fun _ => ?_)
        refine Rg.eqv (v' := .int .i64 at_) rfl ?_
        refine Rg.assign rfl rfl ?_
        refine Rg.nil ?_
        refine T.seq ?_
        refine T.region ?_ -- region 7
        refine Rg.assign rfl rfl ?_
        refine Rg.nil ?_
        refine T.seq ?_
        refine T.seq ?_
        refine T.region ?_ -- region 8
        refine Rg.move rfl rfl ?_
        refine Rg.slice_l (A := (RT.int .i64).sl) (hn := by decide) Tryd.underlying41 I40 rfl rfl rfl hv (by simp only [List.length_cons]; omega) (fun u23 hu23 => ?_)
        replace hu23 : (((RT.int .i64).sl).sl).V M w0 tl u23 := hu23
        refine Rg.lensl Tryd.underlying41 rfl hu23 rfl ?_
        refine Rg.move rfl rfl ?_
        refine Rg.nil ?_
        refine T.block ?_
        refine T.loop (σ := Nat) (fun s => [(0, v), (3, .int .i64 (cntS tl l0 i)), (5, .int .i64 at_), (6, .bool (okS tl at_ s)), (16, v16), (17, .int .i64 l0.length), (18, .int .i64 i), (23, u23), (24, .int .i64 tl.length), (25, .int .i64 s)]) (fun s w => w0 = w ∧ s ≤ tl.length) (fun s => tl.length - s) 0 (.cons rfl (.cons rfl (.cons rfl (.cons rfl (.cons rfl (.cons rfl (.cons rfl (.cons rfl (.cons rfl (.cons rfl .nil)))))))))) ?_ ?_ -- loop 1
        · exact ⟨rfl, Nat.zero_le _⟩
        · rintro k w2 ⟨rfl, hk⟩
          refine T.seq ?_
          refine T.region ?_ -- region 9
          refine Rg.ilt rfl rfl rfl ?_
          refine Rg.nil ?_
          refine T.seq ?_
          refine T.ifp rfl (fun c9 => ?_) (fun c9 => ?_)
          · -- c9 True
            refine T.skip ?_
            refine T.seq ?_
            refine T.block ?_
            refine T.seq ?_
            refine T.region ?_ -- region 10
            refine Rg.move rfl rfl ?_
            obtain ⟨lk, hlk⟩ : ∃ x, tl[k]? = some x := ⟨_, List.getElem?_eq_getElem (by omega)⟩
            refine Rg.idx (M := M) Tryd.underlying41 I40 rfl rfl rfl (hu23) (Le.refl _ _) (by omega) (fun u10_1 a10_1 hg10_1 hu10_1 => ?_)
            obtain rfl : lk = a10_1 := Eq.symm (Option.some.inj (hg10_1.symm.trans (by rw [Int.toNat_natCast]; exact hlk)))
            refine Rg.load (M := M) Tryd.underlying40 rfl rfl rfl rfl rfl hu10_1 (Le.refl _ _) (fun v8 hv8 => ?_)
            replace hv8 : ((RT.int .i64).sl).V M w0 lk v8 := hv8
            have hgk := hg lk (List.mem_cons_of_mem _ (List.mem_of_getElem? hlk))
            have hgd : tl.getD k [] = lk := by rw [List.getD_eq_getElem?_getD, hlk]; rfl
            refine Rg.assign rfl rfl ?_
            refine Rg.assign rfl rfl ?_
            refine Rg.nil ?_
            refine T.seq ?_
            refine T.region ?_ -- region 11
            refine Rg.move rfl rfl ?_
            refine Rg.move rfl rfl ?_
            refine Rg.iadd rfl rfl rfl (by omega) ?_
            refine Rg.move rfl rfl ?_
            refine Rg.iadd rfl rfl rfl (by omega) ?_
            refine Rg.call rfl rfl E26 (Search_spec (x := at_ + 1 + k) hv8 hgk.1) (fun r wc h => ?_)
            obtain ⟨i5, rfl, rfl⟩ := h
            refine Rg.move rfl rfl ?_
            refine Rg.extract rfl rfl rfl ?_
            refine Rg.extract rfl rfl rfl ?_
            refine Rg.assign rfl rfl ?_
            refine Rg.assign rfl rfl ?_
            refine Rg.nil ?_
            refine T.region ?_ -- region 12
            refine Rg.move rfl rfl ?_
            refine Rg.move rfl rfl ?_
            refine Rg.eqv (v' := .bool (decide (okS tl at_ k = true))) (by simp) ?_
            refine Rg.gsplitp (g := 40) rfl (fun g12_1 => ?_) (fun g12_1 => ?_)
            · -- g12_1 True
              refine Rg.gyes rfl rfl ?_
              refine Rg.move rfl rfl ?_
              refine Rg.pickt rfl rfl rfl ?_
              refine Rg.assign rfl rfl ?_
              refine Rg.nil ?_
              refine T.region ?_ -- region 13
              refine Rg.iadd rfl rfl rfl (by omega) ?_
              refine Rg.move rfl rfl ?_
              refine Rg.nil ?_
              refine ⟨rfl, k + 1, (.cons rfl (.cons rfl (.cons rfl (.cons (by first | (rw [okS_succ, g12_1, hgd, Bool.true_and]; rfl) | (rw [okS_succ, (Bool.not_eq_true _).mp g12_1, Bool.false_and]; rfl)) (.cons rfl (.cons rfl (.cons rfl (.cons rfl (.cons rfl (.cons rfl .nil)))))))))), ?_, ?_⟩
              · exact ⟨rfl, by omega⟩
              · show _ - (k + 1) < _ - k; omega
            · -- g12_1 False
              refine Rg.gno rfl rfl rfl rfl ?_
              refine Rg.pickf rfl rfl rfl ?_
              refine Rg.assign rfl rfl ?_
              refine Rg.nil ?_
              refine T.region ?_ -- region 13
              refine Rg.iadd rfl rfl rfl (by omega) ?_
              refine Rg.move rfl rfl ?_
              refine Rg.nil ?_
              refine ⟨rfl, k + 1, (.cons rfl (.cons rfl (.cons rfl (.cons (by first | (rw [okS_succ, g12_1, hgd, Bool.true_and]; rfl) | (rw [okS_succ, (Bool.not_eq_true _).mp g12_1, Bool.false_and]; rfl)) (.cons rfl (.cons rfl (.cons rfl (.cons rfl (.cons rfl (.cons rfl .nil)))))))))), ?_, ?_⟩
              · exact ⟨rfl, by omega⟩
              · show _ - (k + 1) < _ - k; omega
          · -- c9 False
            refine T.exit ?_
            refine T.seq ?_
            refine T.region ?_ -- region 14
            obtain rfl : k = tl.length := by omega
            refine Rg.move rfl rfl ?_
            refine Rg.eqv (v' := .bool (decide (okS tl at_ tl.length = true))) (by simp) ?_
            refine Rg.nil ?_
            refine T.ifp rfl (fun c14 => ?_) (fun c14 => ?_)
            · -- c14 True
              refine T.region ?_ -- region 15
              refine Rg.move rfl rfl ?_
              have hcl := cntS_le tl l0 i
              refine Rg.iadd rfl rfl rfl (by omega) ?_
              refine Rg.assign rfl rfl ?_
              refine Rg.nil ?_
              refine T.region ?_ -- region 16
              refine Rg.iadd rfl rfl rfl (by omega) ?_
              refine Rg.move rfl rfl ?_
              refine Rg.nil ?_
              refine ⟨rfl, i + 1, (.cons rfl (.cons (by first | (rw [cntS_succ hx, if_pos c14]; rfl) | (rw [cntS_succ hx, if_neg c14]; rfl)) (.cons rfl (.cons rfl (.cons rfl .nil))))), ?_, ?_⟩
              · exact ⟨rfl, by omega⟩
              · show _ - (i + 1) < _ - i; omega
            · -- c14 False
              refine T.skip ?_
              refine T.region ?_ -- region 16
              refine Rg.iadd rfl rfl rfl (by omega) ?_
              refine Rg.move rfl rfl ?_
              refine Rg.nil ?_
              refine ⟨rfl, i + 1, (.cons rfl (.cons (by first | (rw [cntS_succ hx, if_pos c14]; rfl) | (rw [cntS_succ hx, if_neg c14]; rfl)) (.cons rfl (.cons rfl (.cons rfl .nil))))), ?_, ?_⟩
              · exact ⟨rfl, by omega⟩
              · show _ - (i + 1) < _ - i; omega
      · -- c5 False
        refine T.exit ?_
        refine T.seq ?_
        refine T.region ?_ -- region 17
        refine Rg.move rfl rfl ?_
        refine Rg.assign rfl rfl ?_
        refine Rg.nil ?_
        refine T.ret ?_
        obtain rfl : i = l0.length := by omega
        exact Kret1 rfl rfl ⟨rfl, rfl⟩

end Go.K

/- The walks of Go functions, operation by operation. -/
import Derived.Test.YtgpmihcdjmjfoaaDoorKTypes
import Derived.Test.YtgpmihcdjmjfoaaDoorKNum
import Derived.Test.YtgpmihcdjmjfoaaDoorKPost
import Derived.Test.YtgpmihcdjmjfoaaDoorKMatch
import Derived.Test.YtgpmihcdjmjfoaaDoorKSides
import Derived.Test.YtgpmihcdjmjfoaaDoorKDraw
import Derived.Test.YtgpmihcdjmjfoaaDoorProg
import Derived.KernelRfl
namespace Go.K
open Go.Proofs
namespace TKSearch
theorem E31 : Enters Tryd.prog 31 := enters Tryd.func31 rfl (by decide) -- cmp.Less[int]
theorem E32 : Enters Tryd.prog 32 := enters Tryd.func32 rfl (by decide) -- slices.isNaN[int]
theorem E33 : Enters Tryd.prog 33 := enters Tryd.func33 rfl (by decide) -- cmp.isNaN[int]
end TKSearch
open TKSearch
set_option linter.unusedVariables false
set_option linter.unusedSimpArgs false
set_option maxRecDepth 10000

/-- 'slices.isNaN[int]' -/
theorem isNaN_spec {w0 : World} {x : Int} :
    Spec Tryd.prog 32 #[.int .i64 x] w0 (fun v' w' => v' = .bool (decide False) ∧ w0 = w') := by
  refine spec_of (args := [.int .i64 x]) (fn := Tryd.f32) Tryd.func32 rfl (n := 6) Tryd.ntmps32 ?_
  refine T.seq ?_
  refine T.region ?_ -- region 0
  refine Rg.assign rfl rfl ?_
  refine Rg.nil ?_
  refine T.seq ?_
  refine T.region ?_ -- region 1
  refine Rg.move rfl rfl ?_
  refine Rg.move rfl rfl ?_
  refine Rg.ine rfl rfl rfl ?_
  refine Rg.assign rfl rfl ?_
  refine Rg.nil ?_
  refine T.ret ?_
  exact Kret1 rfl rfl ⟨by simp, rfl⟩

/-- 'cmp.isNaN[int]' -/
theorem cmpNaN_spec {w0 : World} {x : Int} :
    Spec Tryd.prog 33 #[.int .i64 x] w0 (fun v' w' => v' = .bool (decide False) ∧ w0 = w') := by
  refine spec_of (args := [.int .i64 x]) (fn := Tryd.f33) Tryd.func33 rfl (n := 6) Tryd.ntmps33 ?_
  refine T.seq ?_
  refine T.region ?_ -- region 0
  refine Rg.assign rfl rfl ?_
  refine Rg.nil ?_
  refine T.seq ?_
  refine T.region ?_ -- region 1
  refine Rg.move rfl rfl ?_
  refine Rg.move rfl rfl ?_
  refine Rg.ine rfl rfl rfl ?_
  refine Rg.assign rfl rfl ?_
  refine Rg.nil ?_
  refine T.ret ?_
  exact Kret1 rfl rfl ⟨by simp, rfl⟩

/-- 'cmp.Less[int]' -/
theorem Less_spec {w0 : World} {x y : Int} :
    Spec Tryd.prog 31 #[.int .i64 x, .int .i64 y] w0 (fun v' w' => v' = .bool (decide (x < y)) ∧ w0 = w') := by
  refine spec_of (args := [.int .i64 x, .int .i64 y]) (fn := Tryd.f31) Tryd.func31 rfl (n := 17) Tryd.ntmps31 ?_
  refine T.seq ?_
  refine T.region ?_ -- region 0
  refine Rg.assign rfl rfl ?_
  refine Rg.nil ?_
  refine T.seq ?_
  refine T.region ?_ -- region 1
  refine Rg.move rfl rfl ?_
  refine Rg.call rfl rfl E33 (cmpNaN_spec) (fun r wc h => ?_)
  obtain ⟨rfl, rfl⟩ := h
  refine Rg.move rfl rfl ?_
  refine Rg.gfalse (g := 7) rfl ((fun h => h)) ?_
  refine Rg.gno rfl rfl rfl rfl ?_
  refine Rg.gno rfl rfl rfl rfl ?_
  refine Rg.gno rfl rfl rfl rfl ?_
  refine Rg.pickf rfl rfl rfl ?_
  refine Rg.move rfl rfl ?_
  refine Rg.gyes rfl rfl ?_
  refine Rg.move rfl rfl ?_
  refine Rg.gyes rfl rfl ?_
  refine Rg.move rfl rfl ?_
  refine Rg.gyes rfl rfl ?_
  refine Rg.ilt rfl rfl rfl ?_
  refine Rg.pickf rfl rfl rfl ?_
  refine Rg.assign rfl rfl ?_
  refine Rg.nil ?_
  refine T.ret ?_
  exact Kret1 rfl rfl ⟨rfl, rfl⟩

/-- 'slices.BinarySearch[[]int,int]' -/
theorem Search_spec {M : PSet} {w0 : World} {v : Value} {l : List Int} {x : Int} (hv : ((RT.int .i64).sl).V M w0 l v) (hr : l.Pairwise (· < ·)) :
    Spec Tryd.prog 26 #[v, .int .i64 x] w0 (fun v' w' => ∃ i : Int, v' = .tuple #[.int .i64 i, .bool (l.contains x)] ∧ w0 = w') := by
  have hlen := V_sl_len hv
  refine spec_of (args := [v, .int .i64 x]) (fn := Tryd.f26) Tryd.func26 rfl (n := 54) Tryd.ntmps26 ?_
  refine T.seq ?_
  refine T.region ?_ -- region 0
  refine Rg.assign rfl rfl ?_
  refine Rg.assign rfl rfl ?_
  refine Rg.nil ?_
  refine T.seq ?_
  refine T.region ?_ -- region 1
  refine Rg.move rfl rfl ?_
  refine Rg.lensl Tryd.underlying40 rfl hv rfl ?_
  refine Rg.assign rfl rfl ?_
  refine Rg.nil ?_
  refine T.seq ?_
  refine T.region ?_ -- region 2
  refine Rg.move rfl rfl ?_
  refine Rg.assign rfl rfl ?_
  refine Rg.assign rfl rfl ?_
  refine Rg.nil ?_
  refine T.seq ?_
  refine T.block ?_
  refine T.loop (σ := Nat × Nat) (fun s => [(0, v), (1, .int .i64 x), (6, .int .i64 l.length), (7, .int .i64 s.1), (8, .int .i64 s.2)]) (fun s w => w0 = w ∧ s.1 ≤ s.2 ∧ s.2 ≤ l.length ∧ (∀ t y, t < s.1 → l[t]? = some y → y < x) ∧ (∀ t y, s.2 ≤ t → l[t]? = some y → x ≤ y)) (fun s => s.2 - s.1) (0, l.length) (.cons rfl (.cons rfl (.cons rfl (.cons rfl (.cons rfl .nil))))) ?_ ?_ -- loop 0
  · exact ⟨rfl, Nat.zero_le _, Nat.le_refl _, fun t y h => absurd h (Nat.not_lt_zero _), fun t y h hy => by have := (List.getElem?_eq_some_iff.1 hy).1; simp only at h; omega⟩
  · rintro ⟨i, j⟩ w1 ⟨rfl, hij, hj, h1, h2⟩
    dsimp only at hij hj h1 h2 ⊢
    refine T.seq ?_
    refine T.seq ?_
    refine T.region ?_ -- region 3
    refine Rg.move rfl rfl ?_
    refine Rg.move rfl rfl ?_
    refine Rg.ilt rfl rfl rfl ?_
    refine Rg.nil ?_
    refine T.ifp rfl (fun c3 => ?_) (fun c3 => ?_)
    · -- c3 True
      refine T.skip ?_
      refine T.block ?_
      refine T.seq ?_
      refine T.region ?_ -- region 4
      refine Rg.move rfl rfl ?_
      refine Rg.move rfl rfl ?_
      refine Rg.iadd rfl rfl rfl (by omega) ?_
      refine Rg.conv Tryd.underlying3 Tryd.underlying62 rfl rfl ?_
      refine Rg.eqv (v' := .int .u64 ((i + j : Nat) : Int)) (congrArg _ (by rw [IntWalk.u64_in _ (by omega)]; omega)) ?_
      refine Rg.shr rfl rfl rfl (by omega) ?_
      refine Rg.eqv (v' := .int .u64 (((i + j) / 2 : Nat) : Int)) (congrArg _ (shr1 _)) ?_
      refine Rg.conv64 Tryd.underlying62 Tryd.underlying3 rfl rfl (by omega) ?_
      refine Rg.assign rfl rfl ?_
      refine Rg.nil ?_
      refine T.seq ?_
      refine T.region ?_ -- region 5
      refine Rg.move rfl rfl ?_
      refine Rg.move rfl rfl ?_
      obtain ⟨y, hy⟩ : ∃ y, l[(i + j) / 2]? = some y := ⟨_, List.getElem?_eq_getElem (by omega)⟩
      refine Rg.idx (M := M) Tryd.underlying40 I3 rfl rfl rfl (hv) (Le.refl _ _) (by omega) (fun u5_2 a5_2 hg5_2 hu5_2 => ?_)
      obtain rfl : y = a5_2 := Eq.symm (Option.some.inj (hg5_2.symm.trans (by rw [Int.toNat_natCast]; exact hy)))
      refine Rg.loadi64 (M := M) Tryd.underlying3 rfl rfl (by assumption) (by repeat (first | exact Le.refl _ _ | refine Le.trans (Step.le (by assumption)) ?_)) (fun in5_3 => ?_)
      refine Rg.eqv (v' := .int .i64 y) rfl ?_
      replace in5_3 : -9223372036854775808 ≤ (y : Int) ∧ y ≤ 9223372036854775807 := in5_3
      refine Rg.move rfl rfl ?_
      refine Rg.call rfl rfl E31 (Less_spec) (fun r wc h => ?_)
      obtain ⟨rfl, rfl⟩ := h
      refine Rg.nil ?_
      refine T.ifp rfl (fun c5 => ?_) (fun c5 => ?_)
      · -- c5 True
        refine T.region ?_ -- region 6
        refine Rg.move rfl rfl ?_
        refine Rg.iadd rfl rfl rfl (by omega) ?_
        refine Rg.assign rfl rfl ?_
        refine Rg.nil ?_
        refine ⟨rfl, ((i + j) / 2 + 1, j), (.cons rfl (.cons rfl (.cons rfl (.cons rfl (.cons rfl .nil))))), ?_, ?_⟩
        · refine ⟨rfl, by simp only; omega, hj, fun t z ht hz => ?_, h2⟩
          rcases Nat.lt_or_ge t ((i + j) / 2) with h | h
          · have := pair_lt hr hz hy h; omega
          · rw [show t = (i + j) / 2 from by simp only at ht; omega, hy] at hz; cases hz; exact c5
        · simp only; omega
      · -- c5 False
        refine T.region ?_ -- region 7
        refine Rg.move rfl rfl ?_
        refine Rg.assign rfl rfl ?_
        refine Rg.nil ?_
        refine ⟨rfl, (i, (i + j) / 2), (.cons rfl (.cons rfl (.cons rfl (.cons rfl (.cons rfl .nil))))), ?_, ?_⟩
        · refine ⟨rfl, by simp only; omega, by simp only; omega, h1, fun t z ht hz => ?_⟩
          rcases Nat.lt_or_ge ((i + j) / 2) t with h | h
          · have := pair_lt hr hy hz h; omega
          · rw [show t = (i + j) / 2 from by simp only at ht; omega, hy] at hz; cases hz; omega
        · simp only; omega
    · -- c3 False
      refine T.exit ?_
      refine T.seq ?_
      refine T.region ?_ -- region 8
      refine Rg.move rfl rfl ?_
      refine Rg.move rfl rfl ?_
      refine Rg.move rfl rfl ?_
      refine Rg.ilt rfl rfl rfl ?_
      refine Rg.move rfl rfl ?_
      refine Rg.gsplitp (g := 35) rfl (fun g8_4 => ?_) (fun g8_4 => ?_)
      · -- g8_4 True
        refine Rg.gyes rfl rfl ?_
        refine Rg.move rfl rfl ?_
        refine Rg.gyes rfl rfl ?_
        refine Rg.move rfl rfl ?_
        refine Rg.gyes rfl rfl ?_
        obtain ⟨y, hy⟩ : ∃ y, l[i]? = some y := ⟨_, List.getElem?_eq_getElem (by omega)⟩
        refine Rg.idx (M := M) Tryd.underlying40 I3 rfl rfl rfl (hv) (Le.refl _ _) (by omega) (fun u8_7 a8_7 hg8_7 hu8_7 => ?_)
        obtain rfl : y = a8_7 := Eq.symm (Option.some.inj (hg8_7.symm.trans (by rw [Int.toNat_natCast]; exact hy)))
        refine Rg.gyes rfl rfl ?_
        refine Rg.loadi64 (M := M) Tryd.underlying3 rfl rfl (by assumption) (by repeat (first | exact Le.refl _ _ | refine Le.trans (Step.le (by assumption)) ?_)) (fun in8_8 => ?_)
        refine Rg.eqv (v' := .int .i64 y) rfl ?_
        replace in8_8 : -9223372036854775808 ≤ (y : Int) ∧ y ≤ 9223372036854775807 := in8_8
        refine Rg.gyes rfl rfl ?_
        refine Rg.move rfl rfl ?_
        refine Rg.gyes rfl rfl ?_
        refine Rg.ieq rfl rfl rfl ?_
        refine Rg.gyes rfl rfl ?_
        refine Rg.move rfl rfl ?_
        refine Rg.gsplitp (g := 42) rfl (fun g8_11 => ?_) (fun g8_11 => ?_)
        · -- g8_11 True
          refine Rg.gno rfl rfl rfl rfl ?_
          refine Rg.gno rfl rfl rfl rfl ?_
          refine Rg.gno rfl rfl rfl rfl ?_
          refine Rg.gno rfl rfl rfl rfl ?_
          refine Rg.gno rfl rfl rfl rfl ?_
          refine Rg.gno rfl rfl rfl rfl ?_
          refine Rg.gnox rfl rfl rfl ?_
          refine Rg.gnox rfl rfl rfl ?_
          refine Rg.gno rfl rfl rfl rfl ?_
          refine Rg.gyes rfl rfl ?_
          refine Rg.pickt rfl rfl rfl ?_
          refine Rg.pickt rfl rfl rfl ?_
          refine Rg.assign rfl rfl ?_
          refine Rg.assign rfl rfl ?_
          refine Rg.nil ?_
          refine T.ret ?_
          have hbm := bs_mem hr h1 (fun t y ht hy => h2 t y (by omega) hy)
          first
          | exact Kret2 rfl rfl rfl ⟨_, by rw [hbm, hy, g8_11, decide_eq_true rfl], rfl⟩
          | exact Kret2 rfl rfl rfl ⟨_, by rw [hbm, hy, decide_eq_false (fun h => g8_11 (Option.some.inj h))], rfl⟩
          | exact Kret2 rfl rfl rfl ⟨_, by rw [hbm, List.getElem?_eq_none (by omega), decide_eq_false (by simp)], rfl⟩
        · -- g8_11 False
          refine Rg.gyes rfl rfl ?_
          refine Rg.move rfl rfl ?_
          refine Rg.gyes rfl rfl ?_
          refine Rg.move rfl rfl ?_
          refine Rg.gyes rfl rfl ?_

          refine Rg.idx (M := M) Tryd.underlying40 I3 rfl rfl rfl (hv) (Le.refl _ _) (by omega) (fun u8_14 a8_14 hg8_14 hu8_14 => ?_)
          obtain rfl : y = a8_14 := Eq.symm (Option.some.inj (hg8_14.symm.trans (by rw [Int.toNat_natCast]; exact hy)))
          refine Rg.gyes rfl rfl ?_
          refine Rg.loadi64 (M := M) Tryd.underlying3 rfl rfl (by assumption) (by repeat (first | exact Le.refl _ _ | refine Le.trans (Step.le (by assumption)) ?_)) (fun in8_15 => ?_)
          refine Rg.eqv (v' := .int .i64 y) rfl ?_
          replace in8_15 : -9223372036854775808 ≤ (y : Int) ∧ y ≤ 9223372036854775807 := in8_15
          refine Rg.gyes rfl rfl ?_
          refine Rg.call rfl rfl E32 (isNaN_spec) (fun r wc h => ?_)
          obtain ⟨rfl, rfl⟩ := h
          refine Rg.gyes rfl rfl ?_
          refine Rg.move rfl rfl ?_
          refine Rg.gfalse (g := 48) rfl ((fun h => h)) ?_
          refine Rg.gno rfl rfl rfl rfl ?_
          refine Rg.gno rfl rfl rfl rfl ?_
          refine Rg.gyes rfl rfl ?_
          refine Rg.pickf rfl rfl rfl ?_
          refine Rg.gyes rfl rfl ?_
          refine Rg.pickf rfl rfl rfl ?_
          refine Rg.pickt rfl rfl rfl ?_
          refine Rg.assign rfl rfl ?_
          refine Rg.assign rfl rfl ?_
          refine Rg.nil ?_
          refine T.ret ?_
          have hbm := bs_mem hr h1 (fun t y ht hy => h2 t y (by omega) hy)
          first
          | exact Kret2 rfl rfl rfl ⟨_, by rw [hbm, hy, g8_11, decide_eq_true rfl], rfl⟩
          | exact Kret2 rfl rfl rfl ⟨_, by rw [hbm, hy, decide_eq_false (fun h => g8_11 (Option.some.inj h))], rfl⟩
          | exact Kret2 rfl rfl rfl ⟨_, by rw [hbm, List.getElem?_eq_none (by omega), decide_eq_false (by simp)], rfl⟩
      · -- g8_4 False
        refine Rg.gno rfl rfl rfl rfl ?_
        refine Rg.gno rfl rfl rfl rfl ?_
        refine Rg.gno rfl rfl rfl rfl ?_
        refine Rg.gno rfl rfl rfl rfl ?_
        refine Rg.gno rfl rfl rfl rfl ?_
        refine Rg.gno rfl rfl rfl rfl ?_
        refine Rg.gno rfl rfl rfl rfl ?_
        refine Rg.gnox rfl rfl rfl ?_
        refine Rg.gnox rfl rfl rfl ?_
        refine Rg.gnox rfl rfl rfl ?_
        refine Rg.gnox rfl rfl rfl ?_
        refine Rg.gnox rfl rfl rfl ?_
        refine Rg.gnox rfl rfl rfl ?_
        refine Rg.gnox rfl rfl rfl ?_
        refine Rg.gnox rfl rfl rfl ?_
        refine Rg.gnox rfl rfl rfl ?_
        refine Rg.gno rfl rfl rfl rfl ?_
        refine Rg.pickf rfl rfl rfl ?_
        refine Rg.assign rfl rfl ?_
        refine Rg.assign rfl rfl ?_
        refine Rg.nil ?_
        refine T.ret ?_
        have hbm := bs_mem hr h1 (fun t y ht hy => h2 t y (by omega) hy)
        first
        | exact Kret2 rfl rfl rfl ⟨_, by rw [hbm, hy, g8_11, decide_eq_true rfl], rfl⟩
        | exact Kret2 rfl rfl rfl ⟨_, by rw [hbm, hy, decide_eq_false (fun h => g8_11 (Option.some.inj h))], rfl⟩
        | exact Kret2 rfl rfl rfl ⟨_, by rw [hbm, List.getElem?_eq_none (by omega), decide_eq_false (by simp)], rfl⟩

end Go.K

/- The walks of Go functions, operation by operation. -/
import Derived.Test.YtgpmihcdjmjfoaaKTypes
import Derived.Test.YtgpmihcdjmjfoaaKNum
import Derived.Test.YtgpmihcdjmjfoaaKPost
import Derived.Test.YtgpmihcdjmjfoaaKDraw
import Derived.Test.YtgpmihcdjmjfoaaKRef04
import Derived.Test.YtgpmihcdjmjfoaaKPosting
import Derived.Test.YtgpmihcdjmjfoaaKRef05
import Derived.Test.YtgpmihcdjmjfoaaProg
import Derived.KernelRfl
namespace Go.K
open Go.Proofs
namespace TKMay5
theorem I23 : TI Try.prog 23 (.slice none 0 0) 1 24 := by unfold TI; kernel_rfl -- []int
theorem I37 : TI Try.prog 37 (.agg #[(.int .i64 0), (.slice none 0 0)]) 2 32 := by unfold TI; kernel_rfl -- api.Posting
theorem E56 : Enters Try.prog 56 := enters Try.func56 rfl (by decide) -- concordance/concordanceref04.Rises
end TKMay5
open TKMay5
set_option linter.unusedVariables false
set_option linter.unusedSimpArgs false
set_option maxRecDepth 10000


theorem rises_max : ∀ (l : List Int) (last : Int), rises last l = true → ∀ y, l.getLast? = some y → ∀ x ∈ l, x ≤ y
  | [], _, _, _, h, _, _ => by simp at h
  | [a], _, _, y, h, x, hx => by simp at h hx; omega
  | a :: b :: l, last, h, y, hy, x, hx => by
    simp only [rises, Bool.and_eq_true, decide_eq_true_eq] at h
    have h2 : rises a (b :: l) = true := by simp only [rises, Bool.and_eq_true, decide_eq_true_eq]; exact h.2
    have hy2 : (b :: l).getLast? = some y := by simpa [List.getLast?_cons_cons] using hy
    have ih := rises_max (b :: l) a h2 y hy2
    rcases List.mem_cons.1 hx with rfl | hx
    · have := ih b (List.mem_cons_self ..); omega
    · exact ih x hx
theorem risesB_last {ps : List Int} {y : Int} (h : rises (-1) ps = true) (hy : ps[ps.length - 1]? = some y) : risesB ps = decide (y < 2147483648) := by
  rw [← List.getLast?_eq_getElem?] at hy
  unfold risesB
  rw [h, Bool.true_and]
  by_cases hlt : y < 2147483648
  · rw [decide_eq_true hlt]
    simp only [List.all_eq_true, decide_eq_true_eq]
    intro x hx
    have := rises_max ps _ h y hy x hx; omega
  · rw [decide_eq_false hlt]
    rw [List.all_eq_false]
    exact ⟨y, List.mem_of_getLast? hy, by simpa using hlt⟩

set_option maxHeartbeats 4000000 in
/-- 'concordance/concordanceref05.May' -/
theorem rMay5_spec {M : PSet} {w0 : World} {v : Value} {l : List Po} (hM : Lt M w0) (hv : ((RT.po).sl).V M w0 l v) :
    Spec Try.prog 27 #[v] w0 (fun v' w' => v' = .bool (mayPo (-1) l) ∧ Step M w0 M w' none') := by
  have hlen := V_sl_len hv
  refine spec_of (args := [v]) (fn := Try.f27) Try.func27 rfl (n := 79) Try.ntmps27 ?_
  refine T.seq ?_
  refine T.region ?_ -- region 0
  refine Rg.assign rfl rfl ?_
  refine Rg.nil ?_
  refine T.seq ?_
  refine T.seq ?_
  refine T.region ?_ -- region 1
  refine Rg.assign rfl rfl ?_
  refine Rg.nil ?_
  refine T.block ?_
  refine T.loop (σ := Nat × Int × List Int) (fun s => [(0, v), (3, .int .i64 s.1)]) (fun s w => Step M w0 M w none' ∧ s.1 ≤ l.length ∧ mayPo (-1) l = mayPo s.2.1 (l.drop s.1) ∧ -1 ≤ s.2.1 ∧ (s.1 = 0 → s.2.1 = -1) ∧ (0 < s.1 → l[s.1 - 1]? = some s.2)) (fun s => l.length - s.1) (0, -1, []) (.cons rfl (.cons rfl .nil)) ?_ ?_ -- loop 0
  · exact ⟨Step.refl _ _, Nat.zero_le _, rfl, by decide, fun _ => rfl, fun h => absurd h (Nat.lt_irrefl 0)⟩
  · rintro ⟨k, last, pl⟩ w1 ⟨S, hk, hr, hl0, h0, h1⟩
    dsimp only at hk hr hl0 h0 h1 ⊢
    refine T.seq ?_
    refine T.seq ?_
    refine T.region ?_ -- region 2
    refine Rg.move rfl rfl ?_
    refine Rg.move rfl rfl ?_
    refine Rg.lensl Try.underlying28 rfl hv rfl ?_
    refine Rg.ilt rfl rfl rfl ?_
    refine Rg.nil ?_
    refine T.ifp rfl (fun c2 => ?_) (fun c2 => ?_)
    · -- c2 True
      refine T.skip ?_
      refine T.seq ?_
      refine T.block ?_
      refine T.seq ?_
      refine T.region ?_ -- region 4
      refine Rg.move rfl rfl ?_
      refine Rg.move rfl rfl ?_
      obtain ⟨⟨d, ps⟩, hx⟩ : ∃ x, (l)[k]? = some x := ⟨_, List.getElem?_eq_getElem (by omega)⟩
      refine Rg.idx (M := M) Try.underlying28 I37 rfl rfl rfl (hv.le S.le) (Le.refl _ _) (by omega) (fun u4_2 a4_2 hg4_2 hu4_2 => ?_)
      obtain rfl : (d, ps) = a4_2 := Eq.symm (Option.some.inj (hg4_2.symm.trans (by simpa using hx)))
      refine Rg.fieldAddr (M := M) (A := RT.po) (B := (RT.int .i64).sl) Try.underlying37 rfl rfl I23 (by decide) (po1) rfl rfl (by decide) (by assumption) (by repeat (first | exact Le.refl _ _ | refine Le.trans (Step.le (by assumption)) ?_)) (fun u4_3 hu4_3 => ?_)
      refine Rg.load (M := M) Try.underlying23 rfl rfl rfl rfl rfl (by assumption) (by repeat (first | exact Le.refl _ _ | refine Le.trans (Step.le (by assumption)) ?_)) (fun v4_4 hv4_4 => ?_)
      replace hv4_4 : ((RT.int .i64).sl).V M _ ps v4_4 := hv4_4
      refine Rg.call rfl rfl E56 (Rises_spec (M := M) (S.lt hM) hv4_4) (fun r4 w4 h4 => ?_)
      obtain ⟨rfl, s4⟩ := h4
      have S4 := S.trans0 s4
      have hvM := hv.le S4.le
      have hpl := po_len hvM hx
      have hd := po_rng hvM hx
      refine Rg.assign rfl rfl ?_
      refine Rg.nil ?_
      refine T.seq ?_
      by_cases g5_6 : d < 0
      · -- g5_6 True
        apply T.draw (M := M) mixed [Asr.eq _, Asr.eq _, Asr.ptr (RT.po) (d, ps), Asr.ptr (RT.int .i64) d, Asr.eq (.int .i64 d), Asr.eq _, Asr.eq (.bool true), Asr.eq undef, Asr.eq undef, Asr.eq undef, Asr.eq undef, Asr.eq undef, Asr.eq undef, Asr.eq _, Asr.eq _, Asr.eq undef, Asr.eq undef, Asr.eq undef, Asr.eq undef, Asr.eq undef, Asr.eq undef, Asr.eq undef, Asr.eq undef, Asr.eq undef, Asr.eq undef, Asr.eq undef, Asr.eq undef, Asr.eq undef, Asr.eq undef, Asr.eq undef, Asr.eq undef, Asr.eq _, Asr.eq _, Asr.eq undef, Asr.eq undef, Asr.eq undef, Asr.eq undef, Asr.eq undef, Asr.eq undef, Asr.eq undef, Asr.eq _, Asr.eq _, Asr.eq undef, Asr.eq undef, Asr.eq _, Asr.eq _, Asr.eq undef, Asr.eq undef, Asr.eq undef, Asr.eq undef, Asr.eq undef, Asr.eq undef, Asr.eq undef, Asr.eq undef, Asr.eq undef, Asr.eq undef, Asr.eq undef, Asr.eq undef, Asr.eq undef, Asr.eq undef, Asr.eq undef, Asr.eq _] -- region 5
        · rfl
        · -- its operations
          refine Obls.cons ?_ ?_
          · intro wD E sD -- 0
            refine Rg.move rfl rfl ?_
            exact Rg.nil ⟨rfl, rfl, _, rfl, rfl, Step.refl _ _⟩
          refine Obls.cons ?_ ?_
          · intro wD E sD -- 1
            refine Rg.move rfl rfl ?_
            exact Rg.nil ⟨rfl, rfl, _, rfl, rfl, Step.refl _ _⟩
          refine Obls.cons ?_ ?_
          · intro wD E sD -- 2
            intro x_ hx_; have hx_ : x_ = _ := hx_; subst x_
            intro x_ hx_; have hx_ : x_ = _ := hx_; subst x_
            refine Rg.idx (M := M) Try.underlying28 I37 rfl rfl rfl (hvM.le sD.le) (Le.refl _ _) (by omega) (fun ui ai hgi hui => ?_)
            obtain rfl : (d, ps) = ai := Eq.symm (Option.some.inj (hgi.symm.trans (by simpa using hx)))
            exact Rg.nil ⟨rfl, rfl, _, rfl, hui, Step.refl _ _⟩
          refine Obls.cons ?_ ?_
          · intro wD E sD -- 3
            intro v2 hv2
            refine Rg.fieldAddr (M := M) (A := RT.po) (B := RT.int .i64) Try.underlying37 rfl rfl I3 (by decide) (po0) rfl rfl (by decide) (show PtrTo (RT.po) M wD v2 (d, ps) from hv2) (Le.refl _ _) (fun uf huf => ?_)
            exact Rg.nil ⟨rfl, rfl, _, rfl, huf, Step.refl _ _⟩
          refine Obls.cons ?_ ?_
          · intro wD E sD -- 4
            intro v3 hv3
            refine Rg.loadi64 (M := M) Try.underlying3 rfl rfl (show PtrTo (RT.int .i64) M wD v3 d from hv3) (Le.refl _ _) (fun hin => ?_)
            exact Rg.nil ⟨rfl, rfl, _, rfl, rfl, Step.refl _ _⟩
          refine Obls.cons ?_ ?_
          · intro wD E sD -- 5
            intro x_ hx_; have hx_ : x_ = _ := hx_; subst x_
            refine Rg.ilt rfl rfl rfl ?_
            exact Rg.nil ⟨rfl, rfl, _, rfl, rfl, Step.refl _ _⟩
          refine Obls.cons ?_ ?_
          · intro wD E sD -- 6
            intro x_ hx_; have hx_ : x_ = _ := hx_; subst x_
            refine Rg.move rfl rfl ?_
            refine Rg.nil ⟨rfl, rfl, _, rfl, ?_, Step.refl _ _⟩
            exact congrArg Value.bool (decide_eq_true g5_6)
          refine Obls.cons ?_ ?_
          · intro wD E sD -- 7
            intro x_ hx_; have hx_ : x_ = _ := hx_; subst x_
            exact Rg.gno rfl rfl rfl rfl (Rg.nil ⟨rfl, rfl, _, rfl, rfl, Step.refl _ _⟩)
          refine Obls.cons ?_ ?_
          · intro wD E sD -- 8
            intro x_ hx_; have hx_ : x_ = _ := hx_; subst x_
            exact Rg.gno rfl rfl rfl rfl (Rg.nil ⟨rfl, rfl, _, rfl, rfl, Step.refl _ _⟩)
          refine Obls.cons ?_ ?_
          · intro wD E sD -- 9
            intro x_ hx_; have hx_ : x_ = _ := hx_; subst x_
            intro x_ hx_; have hx_ : x_ = _ := hx_; subst x_
            intro x_ hx_; have hx_ : x_ = _ := hx_; subst x_
            exact Rg.gno rfl rfl rfl rfl (Rg.nil ⟨rfl, rfl, _, rfl, rfl, Step.refl _ _⟩)
          refine Obls.cons ?_ ?_
          · intro wD E sD -- 10
            intro x_ hx_; have hx_ : x_ = _ := hx_; subst x_
            intro x_ hx_; have hx_ : x_ = _ := hx_; subst x_
            exact Rg.gno rfl rfl rfl rfl (Rg.nil ⟨rfl, rfl, _, rfl, rfl, Step.refl _ _⟩)
          refine Obls.cons ?_ ?_
          · intro wD E sD -- 11
            intro x_ hx_; have hx_ : x_ = _ := hx_; subst x_
            intro x_ hx_; have hx_ : x_ = _ := hx_; subst x_
            exact Rg.gno rfl rfl rfl rfl (Rg.nil ⟨rfl, rfl, _, rfl, rfl, Step.refl _ _⟩)
          refine Obls.cons ?_ ?_
          · intro wD E sD -- 12
            intro x_ hx_; have hx_ : x_ = _ := hx_; subst x_
            intro x_ hx_; have hx_ : x_ = _ := hx_; subst x_
            exact Rg.gno rfl rfl rfl rfl (Rg.nil ⟨rfl, rfl, _, rfl, rfl, Step.refl _ _⟩)
          refine Obls.cons ?_ ?_
          · intro wD E sD -- 13
            intro x_ hx_; have hx_ : x_ = _ := hx_; subst x_
            intro x_ hx_; have hx_ : x_ = _ := hx_; subst x_
            refine Rg.pickt rfl rfl rfl ?_
            exact Rg.nil ⟨rfl, rfl, _, rfl, rfl, Step.refl _ _⟩
          refine Obls.cons ?_ ?_
          · intro wD E sD -- 14
            intro x_ hx_; have hx_ : x_ = _ := hx_; subst x_
            intro x_ hx_; have hx_ : x_ = _ := hx_; subst x_
            refine Rg.move rfl rfl ?_
            exact Rg.nil ⟨rfl, rfl, _, rfl, rfl, Step.refl _ _⟩
          refine Obls.cons ?_ ?_
          · intro wD E sD -- 15
            intro x_ hx_; have hx_ : x_ = _ := hx_; subst x_
            exact Rg.gno rfl rfl rfl rfl (Rg.nil ⟨rfl, rfl, _, rfl, rfl, Step.refl _ _⟩)
          refine Obls.cons ?_ ?_
          · intro wD E sD -- 16
            intro x_ hx_; have hx_ : x_ = _ := hx_; subst x_
            intro x_ hx_; have hx_ : x_ = _ := hx_; subst x_
            exact Rg.gno rfl rfl rfl rfl (Rg.nil ⟨rfl, rfl, _, rfl, rfl, Step.refl _ _⟩)
          refine Obls.cons ?_ ?_
          · intro wD E sD -- 17
            intro x_ hx_; have hx_ : x_ = _ := hx_; subst x_
            intro x_ hx_; have hx_ : x_ = _ := hx_; subst x_
            intro x_ hx_; have hx_ : x_ = _ := hx_; subst x_
            exact Rg.gno rfl rfl rfl rfl (Rg.nil ⟨rfl, rfl, _, rfl, rfl, Step.refl _ _⟩)
          refine Obls.cons ?_ ?_
          · intro wD E sD -- 18
            intro x_ hx_; have hx_ : x_ = _ := hx_; subst x_
            exact Rg.gnox rfl rfl rfl (Rg.nil ⟨rfl, rfl, _, rfl, rfl, Step.refl _ _⟩)
          refine Obls.cons ?_ ?_
          · intro wD E sD -- 19
            intro x_ hx_; have hx_ : x_ = _ := hx_; subst x_
            exact Rg.gnox rfl rfl rfl (Rg.nil ⟨rfl, rfl, _, rfl, rfl, Step.refl _ _⟩)
          refine Obls.cons ?_ ?_
          · intro wD E sD -- 20
            intro x_ hx_; have hx_ : x_ = _ := hx_; subst x_
            intro x_ hx_; have hx_ : x_ = _ := hx_; subst x_
            intro x_ hx_; have hx_ : x_ = _ := hx_; subst x_
            exact Rg.gnox rfl rfl rfl (Rg.nil ⟨rfl, rfl, _, rfl, rfl, Step.refl _ _⟩)
          refine Obls.cons ?_ ?_
          · intro wD E sD -- 21
            intro x_ hx_; have hx_ : x_ = _ := hx_; subst x_
            intro x_ hx_; have hx_ : x_ = _ := hx_; subst x_
            exact Rg.gnox rfl rfl rfl (Rg.nil ⟨rfl, rfl, _, rfl, rfl, Step.refl _ _⟩)
          refine Obls.cons ?_ ?_
          · intro wD E sD -- 22
            intro x_ hx_; have hx_ : x_ = _ := hx_; subst x_
            intro x_ hx_; have hx_ : x_ = _ := hx_; subst x_
            exact Rg.gnox rfl rfl rfl (Rg.nil ⟨rfl, rfl, _, rfl, rfl, Step.refl _ _⟩)
          refine Obls.cons ?_ ?_
          · intro wD E sD -- 23
            intro x_ hx_; have hx_ : x_ = _ := hx_; subst x_
            exact Rg.gnox rfl rfl rfl (Rg.nil ⟨rfl, rfl, _, rfl, rfl, Step.refl _ _⟩)
          refine Obls.cons ?_ ?_
          · intro wD E sD -- 24
            intro x_ hx_; have hx_ : x_ = _ := hx_; subst x_
            exact Rg.gnox rfl rfl rfl (Rg.nil ⟨rfl, rfl, _, rfl, rfl, Step.refl _ _⟩)
          refine Obls.cons ?_ ?_
          · intro wD E sD -- 25
            intro x_ hx_; have hx_ : x_ = _ := hx_; subst x_
            intro x_ hx_; have hx_ : x_ = _ := hx_; subst x_
            exact Rg.gnox rfl rfl rfl (Rg.nil ⟨rfl, rfl, _, rfl, rfl, Step.refl _ _⟩)
          refine Obls.cons ?_ ?_
          · intro wD E sD -- 26
            intro x_ hx_; have hx_ : x_ = _ := hx_; subst x_
            intro x_ hx_; have hx_ : x_ = _ := hx_; subst x_
            intro x_ hx_; have hx_ : x_ = _ := hx_; subst x_
            exact Rg.gnox rfl rfl rfl (Rg.nil ⟨rfl, rfl, _, rfl, rfl, Step.refl _ _⟩)
          refine Obls.cons ?_ ?_
          · intro wD E sD -- 27
            intro x_ hx_; have hx_ : x_ = _ := hx_; subst x_
            intro x_ hx_; have hx_ : x_ = _ := hx_; subst x_
            exact Rg.gnox rfl rfl rfl (Rg.nil ⟨rfl, rfl, _, rfl, rfl, Step.refl _ _⟩)
          refine Obls.cons ?_ ?_
          · intro wD E sD -- 28
            intro x_ hx_; have hx_ : x_ = _ := hx_; subst x_
            intro x_ hx_; have hx_ : x_ = _ := hx_; subst x_
            exact Rg.gnox rfl rfl rfl (Rg.nil ⟨rfl, rfl, _, rfl, rfl, Step.refl _ _⟩)
          refine Obls.cons ?_ ?_
          · intro wD E sD -- 29
            intro x_ hx_; have hx_ : x_ = _ := hx_; subst x_
            intro x_ hx_; have hx_ : x_ = _ := hx_; subst x_
            intro x_ hx_; have hx_ : x_ = _ := hx_; subst x_
            exact Rg.gnox rfl rfl rfl (Rg.nil ⟨rfl, rfl, _, rfl, rfl, Step.refl _ _⟩)
          refine Obls.cons ?_ ?_
          · intro wD E sD -- 30
            intro x_ hx_; have hx_ : x_ = _ := hx_; subst x_
            intro x_ hx_; have hx_ : x_ = _ := hx_; subst x_
            intro x_ hx_; have hx_ : x_ = _ := hx_; subst x_
            exact Rg.gno rfl rfl rfl rfl (Rg.nil ⟨rfl, rfl, _, rfl, rfl, Step.refl _ _⟩)
          refine Obls.cons ?_ ?_
          · intro wD E sD -- 31
            intro x_ hx_; have hx_ : x_ = _ := hx_; subst x_
            intro x_ hx_; have hx_ : x_ = _ := hx_; subst x_
            refine Rg.pickt rfl rfl rfl ?_
            exact Rg.nil ⟨rfl, rfl, _, rfl, rfl, Step.refl _ _⟩
          refine Obls.cons ?_ ?_
          · intro wD E sD -- 32
            intro x_ hx_; have hx_ : x_ = _ := hx_; subst x_
            intro x_ hx_; have hx_ : x_ = _ := hx_; subst x_
            refine Rg.move rfl rfl ?_
            exact Rg.nil ⟨rfl, rfl, _, rfl, rfl, Step.refl _ _⟩
          refine Obls.cons ?_ ?_
          · intro wD E sD -- 33
            intro x_ hx_; have hx_ : x_ = _ := hx_; subst x_
            exact Rg.gno rfl rfl rfl rfl (Rg.nil ⟨rfl, rfl, _, rfl, rfl, Step.refl _ _⟩)
          refine Obls.cons ?_ ?_
          · intro wD E sD -- 34
            intro x_ hx_; have hx_ : x_ = _ := hx_; subst x_
            exact Rg.gno rfl rfl rfl rfl (Rg.nil ⟨rfl, rfl, _, rfl, rfl, Step.refl _ _⟩)
          refine Obls.cons ?_ ?_
          · intro wD E sD -- 35
            intro x_ hx_; have hx_ : x_ = _ := hx_; subst x_
            intro x_ hx_; have hx_ : x_ = _ := hx_; subst x_
            intro x_ hx_; have hx_ : x_ = _ := hx_; subst x_
            exact Rg.gno rfl rfl rfl rfl (Rg.nil ⟨rfl, rfl, _, rfl, rfl, Step.refl _ _⟩)
          refine Obls.cons ?_ ?_
          · intro wD E sD -- 36
            intro x_ hx_; have hx_ : x_ = _ := hx_; subst x_
            intro x_ hx_; have hx_ : x_ = _ := hx_; subst x_
            exact Rg.gno rfl rfl rfl rfl (Rg.nil ⟨rfl, rfl, _, rfl, rfl, Step.refl _ _⟩)
          refine Obls.cons ?_ ?_
          · intro wD E sD -- 37
            intro x_ hx_; have hx_ : x_ = _ := hx_; subst x_
            intro x_ hx_; have hx_ : x_ = _ := hx_; subst x_
            exact Rg.gno rfl rfl rfl rfl (Rg.nil ⟨rfl, rfl, _, rfl, rfl, Step.refl _ _⟩)
          refine Obls.cons ?_ ?_
          · intro wD E sD -- 38
            intro x_ hx_; have hx_ : x_ = _ := hx_; subst x_
            intro x_ hx_; have hx_ : x_ = _ := hx_; subst x_
            exact Rg.gno rfl rfl rfl rfl (Rg.nil ⟨rfl, rfl, _, rfl, rfl, Step.refl _ _⟩)
          refine Obls.cons ?_ ?_
          · intro wD E sD -- 39
            intro x_ hx_; have hx_ : x_ = _ := hx_; subst x_
            intro x_ hx_; have hx_ : x_ = _ := hx_; subst x_
            exact Rg.gno rfl rfl rfl rfl (Rg.nil ⟨rfl, rfl, _, rfl, rfl, Step.refl _ _⟩)
          refine Obls.cons ?_ ?_
          · intro wD E sD -- 40
            intro x_ hx_; have hx_ : x_ = _ := hx_; subst x_
            intro x_ hx_; have hx_ : x_ = _ := hx_; subst x_
            refine Rg.pickt rfl rfl rfl ?_
            exact Rg.nil ⟨rfl, rfl, _, rfl, rfl, Step.refl _ _⟩
          refine Obls.cons ?_ ?_
          · intro wD E sD -- 41
            intro x_ hx_; have hx_ : x_ = _ := hx_; subst x_
            intro x_ hx_; have hx_ : x_ = _ := hx_; subst x_
            refine Rg.move rfl rfl ?_
            exact Rg.nil ⟨rfl, rfl, _, rfl, rfl, Step.refl _ _⟩
          refine Obls.cons ?_ ?_
          · intro wD E sD -- 42
            intro x_ hx_; have hx_ : x_ = _ := hx_; subst x_
            exact Rg.gno rfl rfl rfl rfl (Rg.nil ⟨rfl, rfl, _, rfl, rfl, Step.refl _ _⟩)
          refine Obls.cons ?_ ?_
          · intro wD E sD -- 43
            intro x_ hx_; have hx_ : x_ = _ := hx_; subst x_
            intro x_ hx_; have hx_ : x_ = _ := hx_; subst x_
            exact Rg.gno rfl rfl rfl rfl (Rg.nil ⟨rfl, rfl, _, rfl, rfl, Step.refl _ _⟩)
          refine Obls.cons ?_ ?_
          · intro wD E sD -- 44
            intro x_ hx_; have hx_ : x_ = _ := hx_; subst x_
            intro x_ hx_; have hx_ : x_ = _ := hx_; subst x_
            refine Rg.pickt rfl rfl rfl ?_
            exact Rg.nil ⟨rfl, rfl, _, rfl, rfl, Step.refl _ _⟩
          refine Obls.cons ?_ ?_
          · intro wD E sD -- 45
            intro x_ hx_; have hx_ : x_ = _ := hx_; subst x_
            intro x_ hx_; have hx_ : x_ = _ := hx_; subst x_
            refine Rg.move rfl rfl ?_
            exact Rg.nil ⟨rfl, rfl, _, rfl, rfl, Step.refl _ _⟩
          refine Obls.cons ?_ ?_
          · intro wD E sD -- 46
            intro x_ hx_; have hx_ : x_ = _ := hx_; subst x_
            exact Rg.gno rfl rfl rfl rfl (Rg.nil ⟨rfl, rfl, _, rfl, rfl, Step.refl _ _⟩)
          refine Obls.cons ?_ ?_
          · intro wD E sD -- 47
            intro x_ hx_; have hx_ : x_ = _ := hx_; subst x_
            exact Rg.gno rfl rfl rfl rfl (Rg.nil ⟨rfl, rfl, _, rfl, rfl, Step.refl _ _⟩)
          refine Obls.cons ?_ ?_
          · intro wD E sD -- 48
            intro x_ hx_; have hx_ : x_ = _ := hx_; subst x_
            intro x_ hx_; have hx_ : x_ = _ := hx_; subst x_
            intro x_ hx_; have hx_ : x_ = _ := hx_; subst x_
            exact Rg.gno rfl rfl rfl rfl (Rg.nil ⟨rfl, rfl, _, rfl, rfl, Step.refl _ _⟩)
          refine Obls.cons ?_ ?_
          · intro wD E sD -- 49
            intro x_ hx_; have hx_ : x_ = _ := hx_; subst x_
            intro x_ hx_; have hx_ : x_ = _ := hx_; subst x_
            exact Rg.gno rfl rfl rfl rfl (Rg.nil ⟨rfl, rfl, _, rfl, rfl, Step.refl _ _⟩)
          refine Obls.cons ?_ ?_
          · intro wD E sD -- 50
            intro x_ hx_; have hx_ : x_ = _ := hx_; subst x_
            intro x_ hx_; have hx_ : x_ = _ := hx_; subst x_
            exact Rg.gno rfl rfl rfl rfl (Rg.nil ⟨rfl, rfl, _, rfl, rfl, Step.refl _ _⟩)
          refine Obls.cons ?_ ?_
          · intro wD E sD -- 51
            intro x_ hx_; have hx_ : x_ = _ := hx_; subst x_
            exact Rg.gno rfl rfl rfl rfl (Rg.nil ⟨rfl, rfl, _, rfl, rfl, Step.refl _ _⟩)
          refine Obls.cons ?_ ?_
          · intro wD E sD -- 52
            intro x_ hx_; have hx_ : x_ = _ := hx_; subst x_
            exact Rg.gno rfl rfl rfl rfl (Rg.nil ⟨rfl, rfl, _, rfl, rfl, Step.refl _ _⟩)
          refine Obls.cons ?_ ?_
          · intro wD E sD -- 53
            intro x_ hx_; have hx_ : x_ = _ := hx_; subst x_
            intro x_ hx_; have hx_ : x_ = _ := hx_; subst x_
            intro x_ hx_; have hx_ : x_ = _ := hx_; subst x_
            exact Rg.gno rfl rfl rfl rfl (Rg.nil ⟨rfl, rfl, _, rfl, rfl, Step.refl _ _⟩)
          refine Obls.cons ?_ ?_
          · intro wD E sD -- 54
            intro x_ hx_; have hx_ : x_ = _ := hx_; subst x_
            intro x_ hx_; have hx_ : x_ = _ := hx_; subst x_
            exact Rg.gno rfl rfl rfl rfl (Rg.nil ⟨rfl, rfl, _, rfl, rfl, Step.refl _ _⟩)
          refine Obls.cons ?_ ?_
          · intro wD E sD -- 55
            intro x_ hx_; have hx_ : x_ = _ := hx_; subst x_
            intro x_ hx_; have hx_ : x_ = _ := hx_; subst x_
            exact Rg.gno rfl rfl rfl rfl (Rg.nil ⟨rfl, rfl, _, rfl, rfl, Step.refl _ _⟩)
          refine Obls.cons ?_ ?_
          · intro wD E sD -- 56
            intro x_ hx_; have hx_ : x_ = _ := hx_; subst x_
            intro x_ hx_; have hx_ : x_ = _ := hx_; subst x_
            exact Rg.gno rfl rfl rfl rfl (Rg.nil ⟨rfl, rfl, _, rfl, rfl, Step.refl _ _⟩)
          refine Obls.cons ?_ ?_
          · intro wD E sD -- 57
            intro x_ hx_; have hx_ : x_ = _ := hx_; subst x_
            intro x_ hx_; have hx_ : x_ = _ := hx_; subst x_
            exact Rg.gno rfl rfl rfl rfl (Rg.nil ⟨rfl, rfl, _, rfl, rfl, Step.refl _ _⟩)
          refine Obls.cons ?_ ?_
          · intro wD E sD -- 58
            intro x_ hx_; have hx_ : x_ = _ := hx_; subst x_
            intro x_ hx_; have hx_ : x_ = _ := hx_; subst x_
            intro x_ hx_; have hx_ : x_ = _ := hx_; subst x_
            exact Rg.gno rfl rfl rfl rfl (Rg.nil ⟨rfl, rfl, _, rfl, rfl, Step.refl _ _⟩)
          refine Obls.cons ?_ ?_
          · intro wD E sD -- 59
            intro x_ hx_; have hx_ : x_ = _ := hx_; subst x_
            intro x_ hx_; have hx_ : x_ = _ := hx_; subst x_
            exact Rg.gno rfl rfl rfl rfl (Rg.nil ⟨rfl, rfl, _, rfl, rfl, Step.refl _ _⟩)
          refine Obls.cons ?_ ?_
          · intro wD E sD -- 60
            intro x_ hx_; have hx_ : x_ = _ := hx_; subst x_
            intro x_ hx_; have hx_ : x_ = _ := hx_; subst x_
            exact Rg.gno rfl rfl rfl rfl (Rg.nil ⟨rfl, rfl, _, rfl, rfl, Step.refl _ _⟩)
          refine Obls.cons ?_ ?_
          · intro wD E sD -- 61
            intro x_ hx_; have hx_ : x_ = _ := hx_; subst x_
            intro x_ hx_; have hx_ : x_ = _ := hx_; subst x_
            refine Rg.pickt rfl rfl rfl ?_
            exact Rg.nil ⟨rfl, rfl, _, rfl, rfl, Step.refl _ _⟩
          exact Obls.nil
        · -- behind it
          intro wD5 sD5
          intro x_ hx_; have hx_ : x_ = _ := hx_; subst x_
          intro x_ hx_; have hx_ : x_ = _ := hx_; subst x_
          intro v5_2 hv5_2
          intro v5_3 hv5_3
          intro x_ hx_; have hx_ : x_ = _ := hx_; subst x_
          intro x_ hx_; have hx_ : x_ = _ := hx_; subst x_
          intro x_ hx_; have hx_ : x_ = _ := hx_; subst x_
          intro x_ hx_; have hx_ : x_ = _ := hx_; subst x_
          intro x_ hx_; have hx_ : x_ = _ := hx_; subst x_
          intro x_ hx_; have hx_ : x_ = _ := hx_; subst x_
          intro x_ hx_; have hx_ : x_ = _ := hx_; subst x_
          intro x_ hx_; have hx_ : x_ = _ := hx_; subst x_
          intro x_ hx_; have hx_ : x_ = _ := hx_; subst x_
          intro x_ hx_; have hx_ : x_ = _ := hx_; subst x_
          intro x_ hx_; have hx_ : x_ = _ := hx_; subst x_
          intro x_ hx_; have hx_ : x_ = _ := hx_; subst x_
          intro x_ hx_; have hx_ : x_ = _ := hx_; subst x_
          intro x_ hx_; have hx_ : x_ = _ := hx_; subst x_
          intro x_ hx_; have hx_ : x_ = _ := hx_; subst x_
          intro x_ hx_; have hx_ : x_ = _ := hx_; subst x_
          intro x_ hx_; have hx_ : x_ = _ := hx_; subst x_
          intro x_ hx_; have hx_ : x_ = _ := hx_; subst x_
          intro x_ hx_; have hx_ : x_ = _ := hx_; subst x_
          intro x_ hx_; have hx_ : x_ = _ := hx_; subst x_
          intro x_ hx_; have hx_ : x_ = _ := hx_; subst x_
          intro x_ hx_; have hx_ : x_ = _ := hx_; subst x_
          intro x_ hx_; have hx_ : x_ = _ := hx_; subst x_
          intro x_ hx_; have hx_ : x_ = _ := hx_; subst x_
          intro x_ hx_; have hx_ : x_ = _ := hx_; subst x_
          intro x_ hx_; have hx_ : x_ = _ := hx_; subst x_
          intro x_ hx_; have hx_ : x_ = _ := hx_; subst x_
          intro x_ hx_; have hx_ : x_ = _ := hx_; subst x_
          intro x_ hx_; have hx_ : x_ = _ := hx_; subst x_
          intro x_ hx_; have hx_ : x_ = _ := hx_; subst x_
          intro x_ hx_; have hx_ : x_ = _ := hx_; subst x_
          intro x_ hx_; have hx_ : x_ = _ := hx_; subst x_
          intro x_ hx_; have hx_ : x_ = _ := hx_; subst x_
          intro x_ hx_; have hx_ : x_ = _ := hx_; subst x_
          intro x_ hx_; have hx_ : x_ = _ := hx_; subst x_
          intro x_ hx_; have hx_ : x_ = _ := hx_; subst x_
          intro x_ hx_; have hx_ : x_ = _ := hx_; subst x_
          intro x_ hx_; have hx_ : x_ = _ := hx_; subst x_
          intro x_ hx_; have hx_ : x_ = _ := hx_; subst x_
          intro x_ hx_; have hx_ : x_ = _ := hx_; subst x_
          intro x_ hx_; have hx_ : x_ = _ := hx_; subst x_
          intro x_ hx_; have hx_ : x_ = _ := hx_; subst x_
          intro x_ hx_; have hx_ : x_ = _ := hx_; subst x_
          intro x_ hx_; have hx_ : x_ = _ := hx_; subst x_
          intro x_ hx_; have hx_ : x_ = _ := hx_; subst x_
          intro x_ hx_; have hx_ : x_ = _ := hx_; subst x_
          intro x_ hx_; have hx_ : x_ = _ := hx_; subst x_
          intro x_ hx_; have hx_ : x_ = _ := hx_; subst x_
          intro x_ hx_; have hx_ : x_ = _ := hx_; subst x_
          intro x_ hx_; have hx_ : x_ = _ := hx_; subst x_
          intro x_ hx_; have hx_ : x_ = _ := hx_; subst x_
          intro x_ hx_; have hx_ : x_ = _ := hx_; subst x_
          intro x_ hx_; have hx_ : x_ = _ := hx_; subst x_
          intro x_ hx_; have hx_ : x_ = _ := hx_; subst x_
          intro x_ hx_; have hx_ : x_ = _ := hx_; subst x_
          intro x_ hx_; have hx_ : x_ = _ := hx_; subst x_
          intro x_ hx_; have hx_ : x_ = _ := hx_; subst x_
          intro x_ hx_; have hx_ : x_ = _ := hx_; subst x_
          refine T.ift rfl ?_
          refine T.seq ?_
          refine T.region ?_ -- region 6
          refine Rg.assign rfl rfl ?_
          refine Rg.nil ?_
          refine T.ret ?_
          refine Kret1 rfl rfl ⟨congrArg Value.bool (Eq.symm ?_), S4.trans0 sD5⟩
          rw [hr, mayPo_drop hx]
          first
          | (rw [decide_eq_false (show ¬ last < d by omega)]; simp; done)
          | (rw [decide_eq_false (show ¬ d < 2147483648 by omega)]; simp; done)
          | (rw [show ps = [] from List.length_eq_zero_iff.1 (by omega)]; simp; done)
          | (rw [show risesB ps = false from by unfold risesB; simp only [g5_45, Bool.false_and]]; simp; done)
          | (rw [show risesB ps = false from by unfold risesB; rw [Bool.not_eq_true] at g5_45; rw [g5_45]; rfl]; simp; done)
          | (rw [hrl, decide_eq_false (show ¬ y < 2147483648 by omega)]; simp; done)
      · -- g5_6 False
        by_cases g5_14 : d ≥ 2147483648
        · -- g5_14 True
          apply T.draw (M := M) mixed [Asr.eq _, Asr.eq _, Asr.ptr (RT.po) (d, ps), Asr.ptr (RT.int .i64) d, Asr.eq (.int .i64 d), Asr.eq _, Asr.eq (.bool false), Asr.eq _, Asr.eq _, Asr.ptr (RT.po) (d, ps), Asr.ptr (RT.int .i64) d, Asr.eq (.int .i64 d), Asr.eq _, Asr.eq _, Asr.eq (.bool true), Asr.eq undef, Asr.eq undef, Asr.eq undef, Asr.eq undef, Asr.eq undef, Asr.eq undef, Asr.eq undef, Asr.eq undef, Asr.eq undef, Asr.eq undef, Asr.eq undef, Asr.eq undef, Asr.eq undef, Asr.eq undef, Asr.eq undef, Asr.eq undef, Asr.eq _, Asr.eq _, Asr.eq undef, Asr.eq undef, Asr.eq undef, Asr.eq undef, Asr.eq undef, Asr.eq undef, Asr.eq undef, Asr.eq _, Asr.eq _, Asr.eq undef, Asr.eq undef, Asr.eq _, Asr.eq _, Asr.eq undef, Asr.eq undef, Asr.eq undef, Asr.eq undef, Asr.eq undef, Asr.eq undef, Asr.eq undef, Asr.eq undef, Asr.eq undef, Asr.eq undef, Asr.eq undef, Asr.eq undef, Asr.eq undef, Asr.eq undef, Asr.eq undef, Asr.eq _] -- region 5
          · rfl
          · -- its operations
            refine Obls.cons ?_ ?_
            · intro wD E sD -- 0
              refine Rg.move rfl rfl ?_
              exact Rg.nil ⟨rfl, rfl, _, rfl, rfl, Step.refl _ _⟩
            refine Obls.cons ?_ ?_
            · intro wD E sD -- 1
              refine Rg.move rfl rfl ?_
              exact Rg.nil ⟨rfl, rfl, _, rfl, rfl, Step.refl _ _⟩
            refine Obls.cons ?_ ?_
            · intro wD E sD -- 2
              intro x_ hx_; have hx_ : x_ = _ := hx_; subst x_
              intro x_ hx_; have hx_ : x_ = _ := hx_; subst x_
              refine Rg.idx (M := M) Try.underlying28 I37 rfl rfl rfl (hvM.le sD.le) (Le.refl _ _) (by omega) (fun ui ai hgi hui => ?_)
              obtain rfl : (d, ps) = ai := Eq.symm (Option.some.inj (hgi.symm.trans (by simpa using hx)))
              exact Rg.nil ⟨rfl, rfl, _, rfl, hui, Step.refl _ _⟩
            refine Obls.cons ?_ ?_
            · intro wD E sD -- 3
              intro v2 hv2
              refine Rg.fieldAddr (M := M) (A := RT.po) (B := RT.int .i64) Try.underlying37 rfl rfl I3 (by decide) (po0) rfl rfl (by decide) (show PtrTo (RT.po) M wD v2 (d, ps) from hv2) (Le.refl _ _) (fun uf huf => ?_)
              exact Rg.nil ⟨rfl, rfl, _, rfl, huf, Step.refl _ _⟩
            refine Obls.cons ?_ ?_
            · intro wD E sD -- 4
              intro v3 hv3
              refine Rg.loadi64 (M := M) Try.underlying3 rfl rfl (show PtrTo (RT.int .i64) M wD v3 d from hv3) (Le.refl _ _) (fun hin => ?_)
              exact Rg.nil ⟨rfl, rfl, _, rfl, rfl, Step.refl _ _⟩
            refine Obls.cons ?_ ?_
            · intro wD E sD -- 5
              intro x_ hx_; have hx_ : x_ = _ := hx_; subst x_
              refine Rg.ilt rfl rfl rfl ?_
              exact Rg.nil ⟨rfl, rfl, _, rfl, rfl, Step.refl _ _⟩
            refine Obls.cons ?_ ?_
            · intro wD E sD -- 6
              intro x_ hx_; have hx_ : x_ = _ := hx_; subst x_
              refine Rg.move rfl rfl ?_
              refine Rg.nil ⟨rfl, rfl, _, rfl, ?_, Step.refl _ _⟩
              exact congrArg Value.bool (decide_eq_false g5_6)
            refine Obls.cons ?_ ?_
            · intro wD E sD -- 7
              intro x_ hx_; have hx_ : x_ = _ := hx_; subst x_
              refine Rg.gyes rfl rfl ?_
              refine Rg.move rfl rfl ?_
              exact Rg.nil ⟨rfl, rfl, _, rfl, rfl, Step.refl _ _⟩
            refine Obls.cons ?_ ?_
            · intro wD E sD -- 8
              intro x_ hx_; have hx_ : x_ = _ := hx_; subst x_
              refine Rg.gyes rfl rfl ?_
              refine Rg.move rfl rfl ?_
              exact Rg.nil ⟨rfl, rfl, _, rfl, rfl, Step.refl _ _⟩
            refine Obls.cons ?_ ?_
            · intro wD E sD -- 9
              intro x_ hx_; have hx_ : x_ = _ := hx_; subst x_
              intro x_ hx_; have hx_ : x_ = _ := hx_; subst x_
              intro x_ hx_; have hx_ : x_ = _ := hx_; subst x_
              refine Rg.gyes rfl rfl ?_
              refine Rg.idx (M := M) Try.underlying28 I37 rfl rfl rfl (hvM.le sD.le) (Le.refl _ _) (by omega) (fun ui ai hgi hui => ?_)
              obtain rfl : (d, ps) = ai := Eq.symm (Option.some.inj (hgi.symm.trans (by simpa using hx)))
              exact Rg.nil ⟨rfl, rfl, _, rfl, hui, Step.refl _ _⟩
            refine Obls.cons ?_ ?_
            · intro wD E sD -- 10
              intro v9 hv9
              intro x_ hx_; have hx_ : x_ = _ := hx_; subst x_
              refine Rg.gyes rfl rfl ?_
              refine Rg.fieldAddr (M := M) (A := RT.po) (B := RT.int .i64) Try.underlying37 rfl rfl I3 (by decide) (po0) rfl rfl (by decide) (show PtrTo (RT.po) M wD v9 (d, ps) from hv9) (Le.refl _ _) (fun uf huf => ?_)
              exact Rg.nil ⟨rfl, rfl, _, rfl, huf, Step.refl _ _⟩
            refine Obls.cons ?_ ?_
            · intro wD E sD -- 11
              intro v10 hv10
              intro x_ hx_; have hx_ : x_ = _ := hx_; subst x_
              refine Rg.gyes rfl rfl ?_
              refine Rg.loadi64 (M := M) Try.underlying3 rfl rfl (show PtrTo (RT.int .i64) M wD v10 d from hv10) (Le.refl _ _) (fun hin => ?_)
              exact Rg.nil ⟨rfl, rfl, _, rfl, rfl, Step.refl _ _⟩
            refine Obls.cons ?_ ?_
            · intro wD E sD -- 12
              intro x_ hx_; have hx_ : x_ = _ := hx_; subst x_
              intro x_ hx_; have hx_ : x_ = _ := hx_; subst x_
              refine Rg.gyes rfl rfl ?_
              refine Rg.ige rfl rfl rfl ?_
              exact Rg.nil ⟨rfl, rfl, _, rfl, rfl, Step.refl _ _⟩
            refine Obls.cons ?_ ?_
            · intro wD E sD -- 13
              intro x_ hx_; have hx_ : x_ = _ := hx_; subst x_
              intro x_ hx_; have hx_ : x_ = _ := hx_; subst x_
              refine Rg.pickf rfl rfl rfl ?_
              exact Rg.nil ⟨rfl, rfl, _, rfl, rfl, Step.refl _ _⟩
            refine Obls.cons ?_ ?_
            · intro wD E sD -- 14
              intro x_ hx_; have hx_ : x_ = _ := hx_; subst x_
              intro x_ hx_; have hx_ : x_ = _ := hx_; subst x_
              refine Rg.move rfl rfl ?_
              refine Rg.nil ⟨rfl, rfl, _, rfl, ?_, Step.refl _ _⟩
              exact congrArg Value.bool (decide_eq_true g5_14)
            refine Obls.cons ?_ ?_
            · intro wD E sD -- 15
              intro x_ hx_; have hx_ : x_ = _ := hx_; subst x_
              exact Rg.gno rfl rfl rfl rfl (Rg.nil ⟨rfl, rfl, _, rfl, rfl, Step.refl _ _⟩)
            refine Obls.cons ?_ ?_
            · intro wD E sD -- 16
              intro x_ hx_; have hx_ : x_ = _ := hx_; subst x_
              intro x_ hx_; have hx_ : x_ = _ := hx_; subst x_
              exact Rg.gno rfl rfl rfl rfl (Rg.nil ⟨rfl, rfl, _, rfl, rfl, Step.refl _ _⟩)
            refine Obls.cons ?_ ?_
            · intro wD E sD -- 17
              intro x_ hx_; have hx_ : x_ = _ := hx_; subst x_
              intro x_ hx_; have hx_ : x_ = _ := hx_; subst x_
              intro x_ hx_; have hx_ : x_ = _ := hx_; subst x_
              exact Rg.gno rfl rfl rfl rfl (Rg.nil ⟨rfl, rfl, _, rfl, rfl, Step.refl _ _⟩)
            refine Obls.cons ?_ ?_
            · intro wD E sD -- 18
              intro x_ hx_; have hx_ : x_ = _ := hx_; subst x_
              exact Rg.gnox rfl rfl rfl (Rg.nil ⟨rfl, rfl, _, rfl, rfl, Step.refl _ _⟩)
            refine Obls.cons ?_ ?_
            · intro wD E sD -- 19
              intro x_ hx_; have hx_ : x_ = _ := hx_; subst x_
              exact Rg.gnox rfl rfl rfl (Rg.nil ⟨rfl, rfl, _, rfl, rfl, Step.refl _ _⟩)
            refine Obls.cons ?_ ?_
            · intro wD E sD -- 20
              intro x_ hx_; have hx_ : x_ = _ := hx_; subst x_
              intro x_ hx_; have hx_ : x_ = _ := hx_; subst x_
              intro x_ hx_; have hx_ : x_ = _ := hx_; subst x_
              exact Rg.gnox rfl rfl rfl (Rg.nil ⟨rfl, rfl, _, rfl, rfl, Step.refl _ _⟩)
            refine Obls.cons ?_ ?_
            · intro wD E sD -- 21
              intro x_ hx_; have hx_ : x_ = _ := hx_; subst x_
              intro x_ hx_; have hx_ : x_ = _ := hx_; subst x_
              exact Rg.gnox rfl rfl rfl (Rg.nil ⟨rfl, rfl, _, rfl, rfl, Step.refl _ _⟩)
            refine Obls.cons ?_ ?_
            · intro wD E sD -- 22
              intro x_ hx_; have hx_ : x_ = _ := hx_; subst x_
              intro x_ hx_; have hx_ : x_ = _ := hx_; subst x_
              exact Rg.gnox rfl rfl rfl (Rg.nil ⟨rfl, rfl, _, rfl, rfl, Step.refl _ _⟩)
            refine Obls.cons ?_ ?_
            · intro wD E sD -- 23
              intro x_ hx_; have hx_ : x_ = _ := hx_; subst x_
              exact Rg.gnox rfl rfl rfl (Rg.nil ⟨rfl, rfl, _, rfl, rfl, Step.refl _ _⟩)
            refine Obls.cons ?_ ?_
            · intro wD E sD -- 24
              intro x_ hx_; have hx_ : x_ = _ := hx_; subst x_
              exact Rg.gnox rfl rfl rfl (Rg.nil ⟨rfl, rfl, _, rfl, rfl, Step.refl _ _⟩)
            refine Obls.cons ?_ ?_
            · intro wD E sD -- 25
              intro x_ hx_; have hx_ : x_ = _ := hx_; subst x_
              intro x_ hx_; have hx_ : x_ = _ := hx_; subst x_
              exact Rg.gnox rfl rfl rfl (Rg.nil ⟨rfl, rfl, _, rfl, rfl, Step.refl _ _⟩)
            refine Obls.cons ?_ ?_
            · intro wD E sD -- 26
              intro x_ hx_; have hx_ : x_ = _ := hx_; subst x_
              intro x_ hx_; have hx_ : x_ = _ := hx_; subst x_
              intro x_ hx_; have hx_ : x_ = _ := hx_; subst x_
              exact Rg.gnox rfl rfl rfl (Rg.nil ⟨rfl, rfl, _, rfl, rfl, Step.refl _ _⟩)
            refine Obls.cons ?_ ?_
            · intro wD E sD -- 27
              intro x_ hx_; have hx_ : x_ = _ := hx_; subst x_
              intro x_ hx_; have hx_ : x_ = _ := hx_; subst x_
              exact Rg.gnox rfl rfl rfl (Rg.nil ⟨rfl, rfl, _, rfl, rfl, Step.refl _ _⟩)
            refine Obls.cons ?_ ?_
            · intro wD E sD -- 28
              intro x_ hx_; have hx_ : x_ = _ := hx_; subst x_
              intro x_ hx_; have hx_ : x_ = _ := hx_; subst x_
              exact Rg.gnox rfl rfl rfl (Rg.nil ⟨rfl, rfl, _, rfl, rfl, Step.refl _ _⟩)
            refine Obls.cons ?_ ?_
            · intro wD E sD -- 29
              intro x_ hx_; have hx_ : x_ = _ := hx_; subst x_
              intro x_ hx_; have hx_ : x_ = _ := hx_; subst x_
              intro x_ hx_; have hx_ : x_ = _ := hx_; subst x_
              exact Rg.gnox rfl rfl rfl (Rg.nil ⟨rfl, rfl, _, rfl, rfl, Step.refl _ _⟩)
            refine Obls.cons ?_ ?_
            · intro wD E sD -- 30
              intro x_ hx_; have hx_ : x_ = _ := hx_; subst x_
              intro x_ hx_; have hx_ : x_ = _ := hx_; subst x_
              intro x_ hx_; have hx_ : x_ = _ := hx_; subst x_
              exact Rg.gno rfl rfl rfl rfl (Rg.nil ⟨rfl, rfl, _, rfl, rfl, Step.refl _ _⟩)
            refine Obls.cons ?_ ?_
            · intro wD E sD -- 31
              intro x_ hx_; have hx_ : x_ = _ := hx_; subst x_
              intro x_ hx_; have hx_ : x_ = _ := hx_; subst x_
              refine Rg.pickt rfl rfl rfl ?_
              exact Rg.nil ⟨rfl, rfl, _, rfl, rfl, Step.refl _ _⟩
            refine Obls.cons ?_ ?_
            · intro wD E sD -- 32
              intro x_ hx_; have hx_ : x_ = _ := hx_; subst x_
              intro x_ hx_; have hx_ : x_ = _ := hx_; subst x_
              refine Rg.move rfl rfl ?_
              exact Rg.nil ⟨rfl, rfl, _, rfl, rfl, Step.refl _ _⟩
            refine Obls.cons ?_ ?_
            · intro wD E sD -- 33
              intro x_ hx_; have hx_ : x_ = _ := hx_; subst x_
              exact Rg.gno rfl rfl rfl rfl (Rg.nil ⟨rfl, rfl, _, rfl, rfl, Step.refl _ _⟩)
            refine Obls.cons ?_ ?_
            · intro wD E sD -- 34
              intro x_ hx_; have hx_ : x_ = _ := hx_; subst x_
              exact Rg.gno rfl rfl rfl rfl (Rg.nil ⟨rfl, rfl, _, rfl, rfl, Step.refl _ _⟩)
            refine Obls.cons ?_ ?_
            · intro wD E sD -- 35
              intro x_ hx_; have hx_ : x_ = _ := hx_; subst x_
              intro x_ hx_; have hx_ : x_ = _ := hx_; subst x_
              intro x_ hx_; have hx_ : x_ = _ := hx_; subst x_
              exact Rg.gno rfl rfl rfl rfl (Rg.nil ⟨rfl, rfl, _, rfl, rfl, Step.refl _ _⟩)
            refine Obls.cons ?_ ?_
            · intro wD E sD -- 36
              intro x_ hx_; have hx_ : x_ = _ := hx_; subst x_
              intro x_ hx_; have hx_ : x_ = _ := hx_; subst x_
              exact Rg.gno rfl rfl rfl rfl (Rg.nil ⟨rfl, rfl, _, rfl, rfl, Step.refl _ _⟩)
            refine Obls.cons ?_ ?_
            · intro wD E sD -- 37
              intro x_ hx_; have hx_ : x_ = _ := hx_; subst x_
              intro x_ hx_; have hx_ : x_ = _ := hx_; subst x_
              exact Rg.gno rfl rfl rfl rfl (Rg.nil ⟨rfl, rfl, _, rfl, rfl, Step.refl _ _⟩)
            refine Obls.cons ?_ ?_
            · intro wD E sD -- 38
              intro x_ hx_; have hx_ : x_ = _ := hx_; subst x_
              intro x_ hx_; have hx_ : x_ = _ := hx_; subst x_
              exact Rg.gno rfl rfl rfl rfl (Rg.nil ⟨rfl, rfl, _, rfl, rfl, Step.refl _ _⟩)
            refine Obls.cons ?_ ?_
            · intro wD E sD -- 39
              intro x_ hx_; have hx_ : x_ = _ := hx_; subst x_
              intro x_ hx_; have hx_ : x_ = _ := hx_; subst x_
              exact Rg.gno rfl rfl rfl rfl (Rg.nil ⟨rfl, rfl, _, rfl, rfl, Step.refl _ _⟩)
            refine Obls.cons ?_ ?_
            · intro wD E sD -- 40
              intro x_ hx_; have hx_ : x_ = _ := hx_; subst x_
              intro x_ hx_; have hx_ : x_ = _ := hx_; subst x_
              refine Rg.pickt rfl rfl rfl ?_
              exact Rg.nil ⟨rfl, rfl, _, rfl, rfl, Step.refl _ _⟩
            refine Obls.cons ?_ ?_
            · intro wD E sD -- 41
              intro x_ hx_; have hx_ : x_ = _ := hx_; subst x_
              intro x_ hx_; have hx_ : x_ = _ := hx_; subst x_
              refine Rg.move rfl rfl ?_
              exact Rg.nil ⟨rfl, rfl, _, rfl, rfl, Step.refl _ _⟩
            refine Obls.cons ?_ ?_
            · intro wD E sD -- 42
              intro x_ hx_; have hx_ : x_ = _ := hx_; subst x_
              exact Rg.gno rfl rfl rfl rfl (Rg.nil ⟨rfl, rfl, _, rfl, rfl, Step.refl _ _⟩)
            refine Obls.cons ?_ ?_
            · intro wD E sD -- 43
              intro x_ hx_; have hx_ : x_ = _ := hx_; subst x_
              intro x_ hx_; have hx_ : x_ = _ := hx_; subst x_
              exact Rg.gno rfl rfl rfl rfl (Rg.nil ⟨rfl, rfl, _, rfl, rfl, Step.refl _ _⟩)
            refine Obls.cons ?_ ?_
            · intro wD E sD -- 44
              intro x_ hx_; have hx_ : x_ = _ := hx_; subst x_
              intro x_ hx_; have hx_ : x_ = _ := hx_; subst x_
              refine Rg.pickt rfl rfl rfl ?_
              exact Rg.nil ⟨rfl, rfl, _, rfl, rfl, Step.refl _ _⟩
            refine Obls.cons ?_ ?_
            · intro wD E sD -- 45
              intro x_ hx_; have hx_ : x_ = _ := hx_; subst x_
              intro x_ hx_; have hx_ : x_ = _ := hx_; subst x_
              refine Rg.move rfl rfl ?_
              exact Rg.nil ⟨rfl, rfl, _, rfl, rfl, Step.refl _ _⟩
            refine Obls.cons ?_ ?_
            · intro wD E sD -- 46
              intro x_ hx_; have hx_ : x_ = _ := hx_; subst x_
              exact Rg.gno rfl rfl rfl rfl (Rg.nil ⟨rfl, rfl, _, rfl, rfl, Step.refl _ _⟩)
            refine Obls.cons ?_ ?_
            · intro wD E sD -- 47
              intro x_ hx_; have hx_ : x_ = _ := hx_; subst x_
              exact Rg.gno rfl rfl rfl rfl (Rg.nil ⟨rfl, rfl, _, rfl, rfl, Step.refl _ _⟩)
            refine Obls.cons ?_ ?_
            · intro wD E sD -- 48
              intro x_ hx_; have hx_ : x_ = _ := hx_; subst x_
              intro x_ hx_; have hx_ : x_ = _ := hx_; subst x_
              intro x_ hx_; have hx_ : x_ = _ := hx_; subst x_
              exact Rg.gno rfl rfl rfl rfl (Rg.nil ⟨rfl, rfl, _, rfl, rfl, Step.refl _ _⟩)
            refine Obls.cons ?_ ?_
            · intro wD E sD -- 49
              intro x_ hx_; have hx_ : x_ = _ := hx_; subst x_
              intro x_ hx_; have hx_ : x_ = _ := hx_; subst x_
              exact Rg.gno rfl rfl rfl rfl (Rg.nil ⟨rfl, rfl, _, rfl, rfl, Step.refl _ _⟩)
            refine Obls.cons ?_ ?_
            · intro wD E sD -- 50
              intro x_ hx_; have hx_ : x_ = _ := hx_; subst x_
              intro x_ hx_; have hx_ : x_ = _ := hx_; subst x_
              exact Rg.gno rfl rfl rfl rfl (Rg.nil ⟨rfl, rfl, _, rfl, rfl, Step.refl _ _⟩)
            refine Obls.cons ?_ ?_
            · intro wD E sD -- 51
              intro x_ hx_; have hx_ : x_ = _ := hx_; subst x_
              exact Rg.gno rfl rfl rfl rfl (Rg.nil ⟨rfl, rfl, _, rfl, rfl, Step.refl _ _⟩)
            refine Obls.cons ?_ ?_
            · intro wD E sD -- 52
              intro x_ hx_; have hx_ : x_ = _ := hx_; subst x_
              exact Rg.gno rfl rfl rfl rfl (Rg.nil ⟨rfl, rfl, _, rfl, rfl, Step.refl _ _⟩)
            refine Obls.cons ?_ ?_
            · intro wD E sD -- 53
              intro x_ hx_; have hx_ : x_ = _ := hx_; subst x_
              intro x_ hx_; have hx_ : x_ = _ := hx_; subst x_
              intro x_ hx_; have hx_ : x_ = _ := hx_; subst x_
              exact Rg.gno rfl rfl rfl rfl (Rg.nil ⟨rfl, rfl, _, rfl, rfl, Step.refl _ _⟩)
            refine Obls.cons ?_ ?_
            · intro wD E sD -- 54
              intro x_ hx_; have hx_ : x_ = _ := hx_; subst x_
              intro x_ hx_; have hx_ : x_ = _ := hx_; subst x_
              exact Rg.gno rfl rfl rfl rfl (Rg.nil ⟨rfl, rfl, _, rfl, rfl, Step.refl _ _⟩)
            refine Obls.cons ?_ ?_
            · intro wD E sD -- 55
              intro x_ hx_; have hx_ : x_ = _ := hx_; subst x_
              intro x_ hx_; have hx_ : x_ = _ := hx_; subst x_
              exact Rg.gno rfl rfl rfl rfl (Rg.nil ⟨rfl, rfl, _, rfl, rfl, Step.refl _ _⟩)
            refine Obls.cons ?_ ?_
            · intro wD E sD -- 56
              intro x_ hx_; have hx_ : x_ = _ := hx_; subst x_
              intro x_ hx_; have hx_ : x_ = _ := hx_; subst x_
              exact Rg.gno rfl rfl rfl rfl (Rg.nil ⟨rfl, rfl, _, rfl, rfl, Step.refl _ _⟩)
            refine Obls.cons ?_ ?_
            · intro wD E sD -- 57
              intro x_ hx_; have hx_ : x_ = _ := hx_; subst x_
              intro x_ hx_; have hx_ : x_ = _ := hx_; subst x_
              exact Rg.gno rfl rfl rfl rfl (Rg.nil ⟨rfl, rfl, _, rfl, rfl, Step.refl _ _⟩)
            refine Obls.cons ?_ ?_
            · intro wD E sD -- 58
              intro x_ hx_; have hx_ : x_ = _ := hx_; subst x_
              intro x_ hx_; have hx_ : x_ = _ := hx_; subst x_
              intro x_ hx_; have hx_ : x_ = _ := hx_; subst x_
              exact Rg.gno rfl rfl rfl rfl (Rg.nil ⟨rfl, rfl, _, rfl, rfl, Step.refl _ _⟩)
            refine Obls.cons ?_ ?_
            · intro wD E sD -- 59
              intro x_ hx_; have hx_ : x_ = _ := hx_; subst x_
              intro x_ hx_; have hx_ : x_ = _ := hx_; subst x_
              exact Rg.gno rfl rfl rfl rfl (Rg.nil ⟨rfl, rfl, _, rfl, rfl, Step.refl _ _⟩)
            refine Obls.cons ?_ ?_
            · intro wD E sD -- 60
              intro x_ hx_; have hx_ : x_ = _ := hx_; subst x_
              intro x_ hx_; have hx_ : x_ = _ := hx_; subst x_
              exact Rg.gno rfl rfl rfl rfl (Rg.nil ⟨rfl, rfl, _, rfl, rfl, Step.refl _ _⟩)
            refine Obls.cons ?_ ?_
            · intro wD E sD -- 61
              intro x_ hx_; have hx_ : x_ = _ := hx_; subst x_
              intro x_ hx_; have hx_ : x_ = _ := hx_; subst x_
              refine Rg.pickt rfl rfl rfl ?_
              exact Rg.nil ⟨rfl, rfl, _, rfl, rfl, Step.refl _ _⟩
            exact Obls.nil
          · -- behind it
            intro wD5 sD5
            intro x_ hx_; have hx_ : x_ = _ := hx_; subst x_
            intro x_ hx_; have hx_ : x_ = _ := hx_; subst x_
            intro v5_2 hv5_2
            intro v5_3 hv5_3
            intro x_ hx_; have hx_ : x_ = _ := hx_; subst x_
            intro x_ hx_; have hx_ : x_ = _ := hx_; subst x_
            intro x_ hx_; have hx_ : x_ = _ := hx_; subst x_
            intro x_ hx_; have hx_ : x_ = _ := hx_; subst x_
            intro x_ hx_; have hx_ : x_ = _ := hx_; subst x_
            intro v5_9 hv5_9
            intro v5_10 hv5_10
            intro x_ hx_; have hx_ : x_ = _ := hx_; subst x_
            intro x_ hx_; have hx_ : x_ = _ := hx_; subst x_
            intro x_ hx_; have hx_ : x_ = _ := hx_; subst x_
            intro x_ hx_; have hx_ : x_ = _ := hx_; subst x_
            intro x_ hx_; have hx_ : x_ = _ := hx_; subst x_
            intro x_ hx_; have hx_ : x_ = _ := hx_; subst x_
            intro x_ hx_; have hx_ : x_ = _ := hx_; subst x_
            intro x_ hx_; have hx_ : x_ = _ := hx_; subst x_
            intro x_ hx_; have hx_ : x_ = _ := hx_; subst x_
            intro x_ hx_; have hx_ : x_ = _ := hx_; subst x_
            intro x_ hx_; have hx_ : x_ = _ := hx_; subst x_
            intro x_ hx_; have hx_ : x_ = _ := hx_; subst x_
            intro x_ hx_; have hx_ : x_ = _ := hx_; subst x_
            intro x_ hx_; have hx_ : x_ = _ := hx_; subst x_
            intro x_ hx_; have hx_ : x_ = _ := hx_; subst x_
            intro x_ hx_; have hx_ : x_ = _ := hx_; subst x_
            intro x_ hx_; have hx_ : x_ = _ := hx_; subst x_
            intro x_ hx_; have hx_ : x_ = _ := hx_; subst x_
            intro x_ hx_; have hx_ : x_ = _ := hx_; subst x_
            intro x_ hx_; have hx_ : x_ = _ := hx_; subst x_
            intro x_ hx_; have hx_ : x_ = _ := hx_; subst x_
            intro x_ hx_; have hx_ : x_ = _ := hx_; subst x_
            intro x_ hx_; have hx_ : x_ = _ := hx_; subst x_
            intro x_ hx_; have hx_ : x_ = _ := hx_; subst x_
            intro x_ hx_; have hx_ : x_ = _ := hx_; subst x_
            intro x_ hx_; have hx_ : x_ = _ := hx_; subst x_
            intro x_ hx_; have hx_ : x_ = _ := hx_; subst x_
            intro x_ hx_; have hx_ : x_ = _ := hx_; subst x_
            intro x_ hx_; have hx_ : x_ = _ := hx_; subst x_
            intro x_ hx_; have hx_ : x_ = _ := hx_; subst x_
            intro x_ hx_; have hx_ : x_ = _ := hx_; subst x_
            intro x_ hx_; have hx_ : x_ = _ := hx_; subst x_
            intro x_ hx_; have hx_ : x_ = _ := hx_; subst x_
            intro x_ hx_; have hx_ : x_ = _ := hx_; subst x_
            intro x_ hx_; have hx_ : x_ = _ := hx_; subst x_
            intro x_ hx_; have hx_ : x_ = _ := hx_; subst x_
            intro x_ hx_; have hx_ : x_ = _ := hx_; subst x_
            intro x_ hx_; have hx_ : x_ = _ := hx_; subst x_
            intro x_ hx_; have hx_ : x_ = _ := hx_; subst x_
            intro x_ hx_; have hx_ : x_ = _ := hx_; subst x_
            intro x_ hx_; have hx_ : x_ = _ := hx_; subst x_
            intro x_ hx_; have hx_ : x_ = _ := hx_; subst x_
            intro x_ hx_; have hx_ : x_ = _ := hx_; subst x_
            intro x_ hx_; have hx_ : x_ = _ := hx_; subst x_
            intro x_ hx_; have hx_ : x_ = _ := hx_; subst x_
            intro x_ hx_; have hx_ : x_ = _ := hx_; subst x_
            intro x_ hx_; have hx_ : x_ = _ := hx_; subst x_
            intro x_ hx_; have hx_ : x_ = _ := hx_; subst x_
            intro x_ hx_; have hx_ : x_ = _ := hx_; subst x_
            intro x_ hx_; have hx_ : x_ = _ := hx_; subst x_
            intro x_ hx_; have hx_ : x_ = _ := hx_; subst x_
            refine T.ift rfl ?_
            refine T.seq ?_
            refine T.region ?_ -- region 6
            refine Rg.assign rfl rfl ?_
            refine Rg.nil ?_
            refine T.ret ?_
            refine Kret1 rfl rfl ⟨congrArg Value.bool (Eq.symm ?_), S4.trans0 sD5⟩
            rw [hr, mayPo_drop hx]
            first
            | (rw [decide_eq_false (show ¬ last < d by omega)]; simp; done)
            | (rw [decide_eq_false (show ¬ d < 2147483648 by omega)]; simp; done)
            | (rw [show ps = [] from List.length_eq_zero_iff.1 (by omega)]; simp; done)
            | (rw [show risesB ps = false from by unfold risesB; simp only [g5_45, Bool.false_and]]; simp; done)
            | (rw [show risesB ps = false from by unfold risesB; rw [Bool.not_eq_true] at g5_45; rw [g5_45]; rfl]; simp; done)
            | (rw [hrl, decide_eq_false (show ¬ y < 2147483648 by omega)]; simp; done)
        · -- g5_14 False
          by_cases g5_17 : (k : Int) > 0
          · -- g5_17 True
            by_cases g5_32 : d ≤ last
            · -- g5_32 True
              apply T.draw (M := M) mixed [Asr.eq _, Asr.eq _, Asr.ptr (RT.po) (d, ps), Asr.ptr (RT.int .i64) d, Asr.eq (.int .i64 d), Asr.eq _, Asr.eq (.bool false), Asr.eq _, Asr.eq _, Asr.ptr (RT.po) (d, ps), Asr.ptr (RT.int .i64) d, Asr.eq (.int .i64 d), Asr.eq _, Asr.eq _, Asr.eq (.bool false), Asr.eq _, Asr.eq _, Asr.eq (.bool true), Asr.eq _, Asr.eq _, Asr.ptr (RT.po) (d, ps), Asr.ptr (RT.int .i64) d, Asr.eq (.int .i64 d), Asr.eq _, Asr.eq _, Asr.eq _, Asr.ptr (RT.po) (last, pl), Asr.ptr (RT.int .i64) last, Asr.eq (.int .i64 last), Asr.eq _, Asr.eq _, Asr.eq _, Asr.eq (.bool true), Asr.eq undef, Asr.eq undef, Asr.eq undef, Asr.eq undef, Asr.eq undef, Asr.eq undef, Asr.eq undef, Asr.eq _, Asr.eq _, Asr.eq undef, Asr.eq undef, Asr.eq _, Asr.eq _, Asr.eq undef, Asr.eq undef, Asr.eq undef, Asr.eq undef, Asr.eq undef, Asr.eq undef, Asr.eq undef, Asr.eq undef, Asr.eq undef, Asr.eq undef, Asr.eq undef, Asr.eq undef, Asr.eq undef, Asr.eq undef, Asr.eq undef, Asr.eq _] -- region 5
              · rfl
              · -- its operations
                refine Obls.cons ?_ ?_
                · intro wD E sD -- 0
                  refine Rg.move rfl rfl ?_
                  exact Rg.nil ⟨rfl, rfl, _, rfl, rfl, Step.refl _ _⟩
                refine Obls.cons ?_ ?_
                · intro wD E sD -- 1
                  refine Rg.move rfl rfl ?_
                  exact Rg.nil ⟨rfl, rfl, _, rfl, rfl, Step.refl _ _⟩
                refine Obls.cons ?_ ?_
                · intro wD E sD -- 2
                  intro x_ hx_; have hx_ : x_ = _ := hx_; subst x_
                  intro x_ hx_; have hx_ : x_ = _ := hx_; subst x_
                  refine Rg.idx (M := M) Try.underlying28 I37 rfl rfl rfl (hvM.le sD.le) (Le.refl _ _) (by omega) (fun ui ai hgi hui => ?_)
                  obtain rfl : (d, ps) = ai := Eq.symm (Option.some.inj (hgi.symm.trans (by simpa using hx)))
                  exact Rg.nil ⟨rfl, rfl, _, rfl, hui, Step.refl _ _⟩
                refine Obls.cons ?_ ?_
                · intro wD E sD -- 3
                  intro v2 hv2
                  refine Rg.fieldAddr (M := M) (A := RT.po) (B := RT.int .i64) Try.underlying37 rfl rfl I3 (by decide) (po0) rfl rfl (by decide) (show PtrTo (RT.po) M wD v2 (d, ps) from hv2) (Le.refl _ _) (fun uf huf => ?_)
                  exact Rg.nil ⟨rfl, rfl, _, rfl, huf, Step.refl _ _⟩
                refine Obls.cons ?_ ?_
                · intro wD E sD -- 4
                  intro v3 hv3
                  refine Rg.loadi64 (M := M) Try.underlying3 rfl rfl (show PtrTo (RT.int .i64) M wD v3 d from hv3) (Le.refl _ _) (fun hin => ?_)
                  exact Rg.nil ⟨rfl, rfl, _, rfl, rfl, Step.refl _ _⟩
                refine Obls.cons ?_ ?_
                · intro wD E sD -- 5
                  intro x_ hx_; have hx_ : x_ = _ := hx_; subst x_
                  refine Rg.ilt rfl rfl rfl ?_
                  exact Rg.nil ⟨rfl, rfl, _, rfl, rfl, Step.refl _ _⟩
                refine Obls.cons ?_ ?_
                · intro wD E sD -- 6
                  intro x_ hx_; have hx_ : x_ = _ := hx_; subst x_
                  refine Rg.move rfl rfl ?_
                  refine Rg.nil ⟨rfl, rfl, _, rfl, ?_, Step.refl _ _⟩
                  exact congrArg Value.bool (decide_eq_false g5_6)
                refine Obls.cons ?_ ?_
                · intro wD E sD -- 7
                  intro x_ hx_; have hx_ : x_ = _ := hx_; subst x_
                  refine Rg.gyes rfl rfl ?_
                  refine Rg.move rfl rfl ?_
                  exact Rg.nil ⟨rfl, rfl, _, rfl, rfl, Step.refl _ _⟩
                refine Obls.cons ?_ ?_
                · intro wD E sD -- 8
                  intro x_ hx_; have hx_ : x_ = _ := hx_; subst x_
                  refine Rg.gyes rfl rfl ?_
                  refine Rg.move rfl rfl ?_
                  exact Rg.nil ⟨rfl, rfl, _, rfl, rfl, Step.refl _ _⟩
                refine Obls.cons ?_ ?_
                · intro wD E sD -- 9
                  intro x_ hx_; have hx_ : x_ = _ := hx_; subst x_
                  intro x_ hx_; have hx_ : x_ = _ := hx_; subst x_
                  intro x_ hx_; have hx_ : x_ = _ := hx_; subst x_
                  refine Rg.gyes rfl rfl ?_
                  refine Rg.idx (M := M) Try.underlying28 I37 rfl rfl rfl (hvM.le sD.le) (Le.refl _ _) (by omega) (fun ui ai hgi hui => ?_)
                  obtain rfl : (d, ps) = ai := Eq.symm (Option.some.inj (hgi.symm.trans (by simpa using hx)))
                  exact Rg.nil ⟨rfl, rfl, _, rfl, hui, Step.refl _ _⟩
                refine Obls.cons ?_ ?_
                · intro wD E sD -- 10
                  intro v9 hv9
                  intro x_ hx_; have hx_ : x_ = _ := hx_; subst x_
                  refine Rg.gyes rfl rfl ?_
                  refine Rg.fieldAddr (M := M) (A := RT.po) (B := RT.int .i64) Try.underlying37 rfl rfl I3 (by decide) (po0) rfl rfl (by decide) (show PtrTo (RT.po) M wD v9 (d, ps) from hv9) (Le.refl _ _) (fun uf huf => ?_)
                  exact Rg.nil ⟨rfl, rfl, _, rfl, huf, Step.refl _ _⟩
                refine Obls.cons ?_ ?_
                · intro wD E sD -- 11
                  intro v10 hv10
                  intro x_ hx_; have hx_ : x_ = _ := hx_; subst x_
                  refine Rg.gyes rfl rfl ?_
                  refine Rg.loadi64 (M := M) Try.underlying3 rfl rfl (show PtrTo (RT.int .i64) M wD v10 d from hv10) (Le.refl _ _) (fun hin => ?_)
                  exact Rg.nil ⟨rfl, rfl, _, rfl, rfl, Step.refl _ _⟩
                refine Obls.cons ?_ ?_
                · intro wD E sD -- 12
                  intro x_ hx_; have hx_ : x_ = _ := hx_; subst x_
                  intro x_ hx_; have hx_ : x_ = _ := hx_; subst x_
                  refine Rg.gyes rfl rfl ?_
                  refine Rg.ige rfl rfl rfl ?_
                  exact Rg.nil ⟨rfl, rfl, _, rfl, rfl, Step.refl _ _⟩
                refine Obls.cons ?_ ?_
                · intro wD E sD -- 13
                  intro x_ hx_; have hx_ : x_ = _ := hx_; subst x_
                  intro x_ hx_; have hx_ : x_ = _ := hx_; subst x_
                  refine Rg.pickf rfl rfl rfl ?_
                  exact Rg.nil ⟨rfl, rfl, _, rfl, rfl, Step.refl _ _⟩
                refine Obls.cons ?_ ?_
                · intro wD E sD -- 14
                  intro x_ hx_; have hx_ : x_ = _ := hx_; subst x_
                  intro x_ hx_; have hx_ : x_ = _ := hx_; subst x_
                  refine Rg.move rfl rfl ?_
                  refine Rg.nil ⟨rfl, rfl, _, rfl, ?_, Step.refl _ _⟩
                  exact congrArg Value.bool (decide_eq_false g5_14)
                refine Obls.cons ?_ ?_
                · intro wD E sD -- 15
                  intro x_ hx_; have hx_ : x_ = _ := hx_; subst x_
                  refine Rg.gyes rfl rfl ?_
                  refine Rg.move rfl rfl ?_
                  exact Rg.nil ⟨rfl, rfl, _, rfl, rfl, Step.refl _ _⟩
                refine Obls.cons ?_ ?_
                · intro wD E sD -- 16
                  intro x_ hx_; have hx_ : x_ = _ := hx_; subst x_
                  intro x_ hx_; have hx_ : x_ = _ := hx_; subst x_
                  refine Rg.gyes rfl rfl ?_
                  refine Rg.igt rfl rfl rfl ?_
                  exact Rg.nil ⟨rfl, rfl, _, rfl, rfl, Step.refl _ _⟩
                refine Obls.cons ?_ ?_
                · intro wD E sD -- 17
                  intro x_ hx_; have hx_ : x_ = _ := hx_; subst x_
                  intro x_ hx_; have hx_ : x_ = _ := hx_; subst x_
                  intro x_ hx_; have hx_ : x_ = _ := hx_; subst x_
                  refine Rg.gyes rfl rfl ?_
                  refine Rg.move rfl rfl ?_
                  refine Rg.nil ⟨rfl, rfl, _, rfl, ?_, Step.refl _ _⟩
                  exact congrArg Value.bool (decide_eq_true g5_17)
                refine Obls.cons ?_ ?_
                · intro wD E sD -- 18
                  intro x_ hx_; have hx_ : x_ = _ := hx_; subst x_
                  refine Rg.gyes rfl rfl ?_
                  refine Rg.move rfl rfl ?_
                  exact Rg.nil ⟨rfl, rfl, _, rfl, rfl, Step.refl _ _⟩
                refine Obls.cons ?_ ?_
                · intro wD E sD -- 19
                  intro x_ hx_; have hx_ : x_ = _ := hx_; subst x_
                  refine Rg.gyes rfl rfl ?_
                  refine Rg.move rfl rfl ?_
                  exact Rg.nil ⟨rfl, rfl, _, rfl, rfl, Step.refl _ _⟩
                refine Obls.cons ?_ ?_
                · intro wD E sD -- 20
                  intro x_ hx_; have hx_ : x_ = _ := hx_; subst x_
                  intro x_ hx_; have hx_ : x_ = _ := hx_; subst x_
                  intro x_ hx_; have hx_ : x_ = _ := hx_; subst x_
                  refine Rg.gyes rfl rfl ?_
                  refine Rg.idx (M := M) Try.underlying28 I37 rfl rfl rfl (hvM.le sD.le) (Le.refl _ _) (by omega) (fun ui ai hgi hui => ?_)
                  obtain rfl : (d, ps) = ai := Eq.symm (Option.some.inj (hgi.symm.trans (by simpa using hx)))
                  exact Rg.nil ⟨rfl, rfl, _, rfl, hui, Step.refl _ _⟩
                refine Obls.cons ?_ ?_
                · intro wD E sD -- 21
                  intro v20 hv20
                  intro x_ hx_; have hx_ : x_ = _ := hx_; subst x_
                  refine Rg.gyes rfl rfl ?_
                  refine Rg.fieldAddr (M := M) (A := RT.po) (B := RT.int .i64) Try.underlying37 rfl rfl I3 (by decide) (po0) rfl rfl (by decide) (show PtrTo (RT.po) M wD v20 (d, ps) from hv20) (Le.refl _ _) (fun uf huf => ?_)
                  exact Rg.nil ⟨rfl, rfl, _, rfl, huf, Step.refl _ _⟩
                refine Obls.cons ?_ ?_
                · intro wD E sD -- 22
                  intro v21 hv21
                  intro x_ hx_; have hx_ : x_ = _ := hx_; subst x_
                  refine Rg.gyes rfl rfl ?_
                  refine Rg.loadi64 (M := M) Try.underlying3 rfl rfl (show PtrTo (RT.int .i64) M wD v21 d from hv21) (Le.refl _ _) (fun hin => ?_)
                  exact Rg.nil ⟨rfl, rfl, _, rfl, rfl, Step.refl _ _⟩
                refine Obls.cons ?_ ?_
                · intro wD E sD -- 23
                  intro x_ hx_; have hx_ : x_ = _ := hx_; subst x_
                  refine Rg.gyes rfl rfl ?_
                  refine Rg.move rfl rfl ?_
                  exact Rg.nil ⟨rfl, rfl, _, rfl, rfl, Step.refl _ _⟩
                refine Obls.cons ?_ ?_
                · intro wD E sD -- 24
                  intro x_ hx_; have hx_ : x_ = _ := hx_; subst x_
                  refine Rg.gyes rfl rfl ?_
                  refine Rg.move rfl rfl ?_
                  exact Rg.nil ⟨rfl, rfl, _, rfl, rfl, Step.refl _ _⟩
                refine Obls.cons ?_ ?_
                · intro wD E sD -- 25
                  intro x_ hx_; have hx_ : x_ = _ := hx_; subst x_
                  intro x_ hx_; have hx_ : x_ = _ := hx_; subst x_
                  refine Rg.gyes rfl rfl ?_
                  refine Rg.isub rfl rfl rfl (by omega) ?_
                  exact Rg.nil ⟨rfl, rfl, _, rfl, rfl, Step.refl _ _⟩
                refine Obls.cons ?_ ?_
                · intro wD E sD -- 26
                  intro x_ hx_; have hx_ : x_ = _ := hx_; subst x_
                  intro x_ hx_; have hx_ : x_ = _ := hx_; subst x_
                  intro x_ hx_; have hx_ : x_ = _ := hx_; subst x_
                  refine Rg.gyes rfl rfl ?_
                  refine Rg.idx (M := M) Try.underlying28 I37 rfl rfl rfl (hvM.le sD.le) (Le.refl _ _) (by omega) (fun ui ai hgi hui => ?_)
                  obtain rfl : (last, pl) = ai := Eq.symm (Option.some.inj (hgi.symm.trans (by rw [show ((k : Int) - 1).toNat = k - 1 from by omega]; exact h1 (by omega))))
                  exact Rg.nil ⟨rfl, rfl, _, rfl, hui, Step.refl _ _⟩
                refine Obls.cons ?_ ?_
                · intro wD E sD -- 27
                  intro v26 hv26
                  intro x_ hx_; have hx_ : x_ = _ := hx_; subst x_
                  refine Rg.gyes rfl rfl ?_
                  refine Rg.fieldAddr (M := M) (A := RT.po) (B := RT.int .i64) Try.underlying37 rfl rfl I3 (by decide) (po0) rfl rfl (by decide) (show PtrTo (RT.po) M wD v26 (last, pl) from hv26) (Le.refl _ _) (fun uf huf => ?_)
                  exact Rg.nil ⟨rfl, rfl, _, rfl, huf, Step.refl _ _⟩
                refine Obls.cons ?_ ?_
                · intro wD E sD -- 28
                  intro v27 hv27
                  intro x_ hx_; have hx_ : x_ = _ := hx_; subst x_
                  refine Rg.gyes rfl rfl ?_
                  refine Rg.loadi64 (M := M) Try.underlying3 rfl rfl (show PtrTo (RT.int .i64) M wD v27 last from hv27) (Le.refl _ _) (fun hin => ?_)
                  exact Rg.nil ⟨rfl, rfl, _, rfl, rfl, Step.refl _ _⟩
                refine Obls.cons ?_ ?_
                · intro wD E sD -- 29
                  intro x_ hx_; have hx_ : x_ = _ := hx_; subst x_
                  intro x_ hx_; have hx_ : x_ = _ := hx_; subst x_
                  intro x_ hx_; have hx_ : x_ = _ := hx_; subst x_
                  refine Rg.gyes rfl rfl ?_
                  refine Rg.ile rfl rfl rfl ?_
                  exact Rg.nil ⟨rfl, rfl, _, rfl, rfl, Step.refl _ _⟩
                refine Obls.cons ?_ ?_
                · intro wD E sD -- 30
                  intro x_ hx_; have hx_ : x_ = _ := hx_; subst x_
                  intro x_ hx_; have hx_ : x_ = _ := hx_; subst x_
                  intro x_ hx_; have hx_ : x_ = _ := hx_; subst x_
                  refine Rg.gyes rfl rfl ?_
                  refine Rg.pickt rfl rfl rfl ?_
                  exact Rg.nil ⟨rfl, rfl, _, rfl, rfl, Step.refl _ _⟩
                refine Obls.cons ?_ ?_
                · intro wD E sD -- 31
                  intro x_ hx_; have hx_ : x_ = _ := hx_; subst x_
                  intro x_ hx_; have hx_ : x_ = _ := hx_; subst x_
                  refine Rg.pickf rfl rfl rfl ?_
                  exact Rg.nil ⟨rfl, rfl, _, rfl, rfl, Step.refl _ _⟩
                refine Obls.cons ?_ ?_
                · intro wD E sD -- 32
                  intro x_ hx_; have hx_ : x_ = _ := hx_; subst x_
                  intro x_ hx_; have hx_ : x_ = _ := hx_; subst x_
                  refine Rg.move rfl rfl ?_
                  refine Rg.nil ⟨rfl, rfl, _, rfl, ?_, Step.refl _ _⟩
                  exact congrArg Value.bool (decide_eq_true g5_32)
                refine Obls.cons ?_ ?_
                · intro wD E sD -- 33
                  intro x_ hx_; have hx_ : x_ = _ := hx_; subst x_
                  exact Rg.gno rfl rfl rfl rfl (Rg.nil ⟨rfl, rfl, _, rfl, rfl, Step.refl _ _⟩)
                refine Obls.cons ?_ ?_
                · intro wD E sD -- 34
                  intro x_ hx_; have hx_ : x_ = _ := hx_; subst x_
                  exact Rg.gno rfl rfl rfl rfl (Rg.nil ⟨rfl, rfl, _, rfl, rfl, Step.refl _ _⟩)
                refine Obls.cons ?_ ?_
                · intro wD E sD -- 35
                  intro x_ hx_; have hx_ : x_ = _ := hx_; subst x_
                  intro x_ hx_; have hx_ : x_ = _ := hx_; subst x_
                  intro x_ hx_; have hx_ : x_ = _ := hx_; subst x_
                  exact Rg.gno rfl rfl rfl rfl (Rg.nil ⟨rfl, rfl, _, rfl, rfl, Step.refl _ _⟩)
                refine Obls.cons ?_ ?_
                · intro wD E sD -- 36
                  intro x_ hx_; have hx_ : x_ = _ := hx_; subst x_
                  intro x_ hx_; have hx_ : x_ = _ := hx_; subst x_
                  exact Rg.gno rfl rfl rfl rfl (Rg.nil ⟨rfl, rfl, _, rfl, rfl, Step.refl _ _⟩)
                refine Obls.cons ?_ ?_
                · intro wD E sD -- 37
                  intro x_ hx_; have hx_ : x_ = _ := hx_; subst x_
                  intro x_ hx_; have hx_ : x_ = _ := hx_; subst x_
                  exact Rg.gno rfl rfl rfl rfl (Rg.nil ⟨rfl, rfl, _, rfl, rfl, Step.refl _ _⟩)
                refine Obls.cons ?_ ?_
                · intro wD E sD -- 38
                  intro x_ hx_; have hx_ : x_ = _ := hx_; subst x_
                  intro x_ hx_; have hx_ : x_ = _ := hx_; subst x_
                  exact Rg.gno rfl rfl rfl rfl (Rg.nil ⟨rfl, rfl, _, rfl, rfl, Step.refl _ _⟩)
                refine Obls.cons ?_ ?_
                · intro wD E sD -- 39
                  intro x_ hx_; have hx_ : x_ = _ := hx_; subst x_
                  intro x_ hx_; have hx_ : x_ = _ := hx_; subst x_
                  exact Rg.gno rfl rfl rfl rfl (Rg.nil ⟨rfl, rfl, _, rfl, rfl, Step.refl _ _⟩)
                refine Obls.cons ?_ ?_
                · intro wD E sD -- 40
                  intro x_ hx_; have hx_ : x_ = _ := hx_; subst x_
                  intro x_ hx_; have hx_ : x_ = _ := hx_; subst x_
                  refine Rg.pickt rfl rfl rfl ?_
                  exact Rg.nil ⟨rfl, rfl, _, rfl, rfl, Step.refl _ _⟩
                refine Obls.cons ?_ ?_
                · intro wD E sD -- 41
                  intro x_ hx_; have hx_ : x_ = _ := hx_; subst x_
                  intro x_ hx_; have hx_ : x_ = _ := hx_; subst x_
                  refine Rg.move rfl rfl ?_
                  exact Rg.nil ⟨rfl, rfl, _, rfl, rfl, Step.refl _ _⟩
                refine Obls.cons ?_ ?_
                · intro wD E sD -- 42
                  intro x_ hx_; have hx_ : x_ = _ := hx_; subst x_
                  exact Rg.gno rfl rfl rfl rfl (Rg.nil ⟨rfl, rfl, _, rfl, rfl, Step.refl _ _⟩)
                refine Obls.cons ?_ ?_
                · intro wD E sD -- 43
                  intro x_ hx_; have hx_ : x_ = _ := hx_; subst x_
                  intro x_ hx_; have hx_ : x_ = _ := hx_; subst x_
                  exact Rg.gno rfl rfl rfl rfl (Rg.nil ⟨rfl, rfl, _, rfl, rfl, Step.refl _ _⟩)
                refine Obls.cons ?_ ?_
                · intro wD E sD -- 44
                  intro x_ hx_; have hx_ : x_ = _ := hx_; subst x_
                  intro x_ hx_; have hx_ : x_ = _ := hx_; subst x_
                  refine Rg.pickt rfl rfl rfl ?_
                  exact Rg.nil ⟨rfl, rfl, _, rfl, rfl, Step.refl _ _⟩
                refine Obls.cons ?_ ?_
                · intro wD E sD -- 45
                  intro x_ hx_; have hx_ : x_ = _ := hx_; subst x_
                  intro x_ hx_; have hx_ : x_ = _ := hx_; subst x_
                  refine Rg.move rfl rfl ?_
                  exact Rg.nil ⟨rfl, rfl, _, rfl, rfl, Step.refl _ _⟩
                refine Obls.cons ?_ ?_
                · intro wD E sD -- 46
                  intro x_ hx_; have hx_ : x_ = _ := hx_; subst x_
                  exact Rg.gno rfl rfl rfl rfl (Rg.nil ⟨rfl, rfl, _, rfl, rfl, Step.refl _ _⟩)
                refine Obls.cons ?_ ?_
                · intro wD E sD -- 47
                  intro x_ hx_; have hx_ : x_ = _ := hx_; subst x_
                  exact Rg.gno rfl rfl rfl rfl (Rg.nil ⟨rfl, rfl, _, rfl, rfl, Step.refl _ _⟩)
                refine Obls.cons ?_ ?_
                · intro wD E sD -- 48
                  intro x_ hx_; have hx_ : x_ = _ := hx_; subst x_
                  intro x_ hx_; have hx_ : x_ = _ := hx_; subst x_
                  intro x_ hx_; have hx_ : x_ = _ := hx_; subst x_
                  exact Rg.gno rfl rfl rfl rfl (Rg.nil ⟨rfl, rfl, _, rfl, rfl, Step.refl _ _⟩)
                refine Obls.cons ?_ ?_
                · intro wD E sD -- 49
                  intro x_ hx_; have hx_ : x_ = _ := hx_; subst x_
                  intro x_ hx_; have hx_ : x_ = _ := hx_; subst x_
                  exact Rg.gno rfl rfl rfl rfl (Rg.nil ⟨rfl, rfl, _, rfl, rfl, Step.refl _ _⟩)
                refine Obls.cons ?_ ?_
                · intro wD E sD -- 50
                  intro x_ hx_; have hx_ : x_ = _ := hx_; subst x_
                  intro x_ hx_; have hx_ : x_ = _ := hx_; subst x_
                  exact Rg.gno rfl rfl rfl rfl (Rg.nil ⟨rfl, rfl, _, rfl, rfl, Step.refl _ _⟩)
                refine Obls.cons ?_ ?_
                · intro wD E sD -- 51
                  intro x_ hx_; have hx_ : x_ = _ := hx_; subst x_
                  exact Rg.gno rfl rfl rfl rfl (Rg.nil ⟨rfl, rfl, _, rfl, rfl, Step.refl _ _⟩)
                refine Obls.cons ?_ ?_
                · intro wD E sD -- 52
                  intro x_ hx_; have hx_ : x_ = _ := hx_; subst x_
                  exact Rg.gno rfl rfl rfl rfl (Rg.nil ⟨rfl, rfl, _, rfl, rfl, Step.refl _ _⟩)
                refine Obls.cons ?_ ?_
                · intro wD E sD -- 53
                  intro x_ hx_; have hx_ : x_ = _ := hx_; subst x_
                  intro x_ hx_; have hx_ : x_ = _ := hx_; subst x_
                  intro x_ hx_; have hx_ : x_ = _ := hx_; subst x_
                  exact Rg.gno rfl rfl rfl rfl (Rg.nil ⟨rfl, rfl, _, rfl, rfl, Step.refl _ _⟩)
                refine Obls.cons ?_ ?_
                · intro wD E sD -- 54
                  intro x_ hx_; have hx_ : x_ = _ := hx_; subst x_
                  intro x_ hx_; have hx_ : x_ = _ := hx_; subst x_
                  exact Rg.gno rfl rfl rfl rfl (Rg.nil ⟨rfl, rfl, _, rfl, rfl, Step.refl _ _⟩)
                refine Obls.cons ?_ ?_
                · intro wD E sD -- 55
                  intro x_ hx_; have hx_ : x_ = _ := hx_; subst x_
                  intro x_ hx_; have hx_ : x_ = _ := hx_; subst x_
                  exact Rg.gno rfl rfl rfl rfl (Rg.nil ⟨rfl, rfl, _, rfl, rfl, Step.refl _ _⟩)
                refine Obls.cons ?_ ?_
                · intro wD E sD -- 56
                  intro x_ hx_; have hx_ : x_ = _ := hx_; subst x_
                  intro x_ hx_; have hx_ : x_ = _ := hx_; subst x_
                  exact Rg.gno rfl rfl rfl rfl (Rg.nil ⟨rfl, rfl, _, rfl, rfl, Step.refl _ _⟩)
                refine Obls.cons ?_ ?_
                · intro wD E sD -- 57
                  intro x_ hx_; have hx_ : x_ = _ := hx_; subst x_
                  intro x_ hx_; have hx_ : x_ = _ := hx_; subst x_
                  exact Rg.gno rfl rfl rfl rfl (Rg.nil ⟨rfl, rfl, _, rfl, rfl, Step.refl _ _⟩)
                refine Obls.cons ?_ ?_
                · intro wD E sD -- 58
                  intro x_ hx_; have hx_ : x_ = _ := hx_; subst x_
                  intro x_ hx_; have hx_ : x_ = _ := hx_; subst x_
                  intro x_ hx_; have hx_ : x_ = _ := hx_; subst x_
                  exact Rg.gno rfl rfl rfl rfl (Rg.nil ⟨rfl, rfl, _, rfl, rfl, Step.refl _ _⟩)
                refine Obls.cons ?_ ?_
                · intro wD E sD -- 59
                  intro x_ hx_; have hx_ : x_ = _ := hx_; subst x_
                  intro x_ hx_; have hx_ : x_ = _ := hx_; subst x_
                  exact Rg.gno rfl rfl rfl rfl (Rg.nil ⟨rfl, rfl, _, rfl, rfl, Step.refl _ _⟩)
                refine Obls.cons ?_ ?_
                · intro wD E sD -- 60
                  intro x_ hx_; have hx_ : x_ = _ := hx_; subst x_
                  intro x_ hx_; have hx_ : x_ = _ := hx_; subst x_
                  exact Rg.gno rfl rfl rfl rfl (Rg.nil ⟨rfl, rfl, _, rfl, rfl, Step.refl _ _⟩)
                refine Obls.cons ?_ ?_
                · intro wD E sD -- 61
                  intro x_ hx_; have hx_ : x_ = _ := hx_; subst x_
                  intro x_ hx_; have hx_ : x_ = _ := hx_; subst x_
                  refine Rg.pickt rfl rfl rfl ?_
                  exact Rg.nil ⟨rfl, rfl, _, rfl, rfl, Step.refl _ _⟩
                exact Obls.nil
              · -- behind it
                intro wD5 sD5
                intro x_ hx_; have hx_ : x_ = _ := hx_; subst x_
                intro x_ hx_; have hx_ : x_ = _ := hx_; subst x_
                intro v5_2 hv5_2
                intro v5_3 hv5_3
                intro x_ hx_; have hx_ : x_ = _ := hx_; subst x_
                intro x_ hx_; have hx_ : x_ = _ := hx_; subst x_
                intro x_ hx_; have hx_ : x_ = _ := hx_; subst x_
                intro x_ hx_; have hx_ : x_ = _ := hx_; subst x_
                intro x_ hx_; have hx_ : x_ = _ := hx_; subst x_
                intro v5_9 hv5_9
                intro v5_10 hv5_10
                intro x_ hx_; have hx_ : x_ = _ := hx_; subst x_
                intro x_ hx_; have hx_ : x_ = _ := hx_; subst x_
                intro x_ hx_; have hx_ : x_ = _ := hx_; subst x_
                intro x_ hx_; have hx_ : x_ = _ := hx_; subst x_
                intro x_ hx_; have hx_ : x_ = _ := hx_; subst x_
                intro x_ hx_; have hx_ : x_ = _ := hx_; subst x_
                intro x_ hx_; have hx_ : x_ = _ := hx_; subst x_
                intro x_ hx_; have hx_ : x_ = _ := hx_; subst x_
                intro x_ hx_; have hx_ : x_ = _ := hx_; subst x_
                intro v5_20 hv5_20
                intro v5_21 hv5_21
                intro x_ hx_; have hx_ : x_ = _ := hx_; subst x_
                intro x_ hx_; have hx_ : x_ = _ := hx_; subst x_
                intro x_ hx_; have hx_ : x_ = _ := hx_; subst x_
                intro x_ hx_; have hx_ : x_ = _ := hx_; subst x_
                intro v5_26 hv5_26
                intro v5_27 hv5_27
                intro x_ hx_; have hx_ : x_ = _ := hx_; subst x_
                intro x_ hx_; have hx_ : x_ = _ := hx_; subst x_
                intro x_ hx_; have hx_ : x_ = _ := hx_; subst x_
                intro x_ hx_; have hx_ : x_ = _ := hx_; subst x_
                intro x_ hx_; have hx_ : x_ = _ := hx_; subst x_
                intro x_ hx_; have hx_ : x_ = _ := hx_; subst x_
                intro x_ hx_; have hx_ : x_ = _ := hx_; subst x_
                intro x_ hx_; have hx_ : x_ = _ := hx_; subst x_
                intro x_ hx_; have hx_ : x_ = _ := hx_; subst x_
                intro x_ hx_; have hx_ : x_ = _ := hx_; subst x_
                intro x_ hx_; have hx_ : x_ = _ := hx_; subst x_
                intro x_ hx_; have hx_ : x_ = _ := hx_; subst x_
                intro x_ hx_; have hx_ : x_ = _ := hx_; subst x_
                intro x_ hx_; have hx_ : x_ = _ := hx_; subst x_
                intro x_ hx_; have hx_ : x_ = _ := hx_; subst x_
                intro x_ hx_; have hx_ : x_ = _ := hx_; subst x_
                intro x_ hx_; have hx_ : x_ = _ := hx_; subst x_
                intro x_ hx_; have hx_ : x_ = _ := hx_; subst x_
                intro x_ hx_; have hx_ : x_ = _ := hx_; subst x_
                intro x_ hx_; have hx_ : x_ = _ := hx_; subst x_
                intro x_ hx_; have hx_ : x_ = _ := hx_; subst x_
                intro x_ hx_; have hx_ : x_ = _ := hx_; subst x_
                intro x_ hx_; have hx_ : x_ = _ := hx_; subst x_
                intro x_ hx_; have hx_ : x_ = _ := hx_; subst x_
                intro x_ hx_; have hx_ : x_ = _ := hx_; subst x_
                intro x_ hx_; have hx_ : x_ = _ := hx_; subst x_
                intro x_ hx_; have hx_ : x_ = _ := hx_; subst x_
                intro x_ hx_; have hx_ : x_ = _ := hx_; subst x_
                intro x_ hx_; have hx_ : x_ = _ := hx_; subst x_
                intro x_ hx_; have hx_ : x_ = _ := hx_; subst x_
                intro x_ hx_; have hx_ : x_ = _ := hx_; subst x_
                intro x_ hx_; have hx_ : x_ = _ := hx_; subst x_
                intro x_ hx_; have hx_ : x_ = _ := hx_; subst x_
                intro x_ hx_; have hx_ : x_ = _ := hx_; subst x_
                refine T.ift rfl ?_
                refine T.seq ?_
                refine T.region ?_ -- region 6
                refine Rg.assign rfl rfl ?_
                refine Rg.nil ?_
                refine T.ret ?_
                refine Kret1 rfl rfl ⟨congrArg Value.bool (Eq.symm ?_), S4.trans0 sD5⟩
                rw [hr, mayPo_drop hx]
                first
                | (rw [decide_eq_false (show ¬ last < d by omega)]; simp; done)
                | (rw [decide_eq_false (show ¬ d < 2147483648 by omega)]; simp; done)
                | (rw [show ps = [] from List.length_eq_zero_iff.1 (by omega)]; simp; done)
                | (rw [show risesB ps = false from by unfold risesB; simp only [g5_45, Bool.false_and]]; simp; done)
                | (rw [show risesB ps = false from by unfold risesB; rw [Bool.not_eq_true] at g5_45; rw [g5_45]; rfl]; simp; done)
                | (rw [hrl, decide_eq_false (show ¬ y < 2147483648 by omega)]; simp; done)
            · -- g5_32 False
              by_cases g5_41 : (ps.length : Int) = 0
              · -- g5_41 True
                apply T.draw (M := M) mixed [Asr.eq _, Asr.eq _, Asr.ptr (RT.po) (d, ps), Asr.ptr (RT.int .i64) d, Asr.eq (.int .i64 d), Asr.eq _, Asr.eq (.bool false), Asr.eq _, Asr.eq _, Asr.ptr (RT.po) (d, ps), Asr.ptr (RT.int .i64) d, Asr.eq (.int .i64 d), Asr.eq _, Asr.eq _, Asr.eq (.bool false), Asr.eq _, Asr.eq _, Asr.eq (.bool true), Asr.eq _, Asr.eq _, Asr.ptr (RT.po) (d, ps), Asr.ptr (RT.int .i64) d, Asr.eq (.int .i64 d), Asr.eq _, Asr.eq _, Asr.eq _, Asr.ptr (RT.po) (last, pl), Asr.ptr (RT.int .i64) last, Asr.eq (.int .i64 last), Asr.eq _, Asr.eq _, Asr.eq _, Asr.eq (.bool false), Asr.eq _, Asr.eq _, Asr.ptr (RT.po) (d, ps), Asr.ptr ((RT.int .i64).sl) ps, Asr.V ((RT.int .i64).sl) ps, Asr.eq _, Asr.eq _, Asr.eq _, Asr.eq (.bool true), Asr.eq undef, Asr.eq undef, Asr.eq _, Asr.eq _, Asr.eq undef, Asr.eq undef, Asr.eq undef, Asr.eq undef, Asr.eq undef, Asr.eq undef, Asr.eq undef, Asr.eq undef, Asr.eq undef, Asr.eq undef, Asr.eq undef, Asr.eq undef, Asr.eq undef, Asr.eq undef, Asr.eq undef, Asr.eq _] -- region 5
                · rfl
                · -- its operations
                  refine Obls.cons ?_ ?_
                  · intro wD E sD -- 0
                    refine Rg.move rfl rfl ?_
                    exact Rg.nil ⟨rfl, rfl, _, rfl, rfl, Step.refl _ _⟩
                  refine Obls.cons ?_ ?_
                  · intro wD E sD -- 1
                    refine Rg.move rfl rfl ?_
                    exact Rg.nil ⟨rfl, rfl, _, rfl, rfl, Step.refl _ _⟩
                  refine Obls.cons ?_ ?_
                  · intro wD E sD -- 2
                    intro x_ hx_; have hx_ : x_ = _ := hx_; subst x_
                    intro x_ hx_; have hx_ : x_ = _ := hx_; subst x_
                    refine Rg.idx (M := M) Try.underlying28 I37 rfl rfl rfl (hvM.le sD.le) (Le.refl _ _) (by omega) (fun ui ai hgi hui => ?_)
                    obtain rfl : (d, ps) = ai := Eq.symm (Option.some.inj (hgi.symm.trans (by simpa using hx)))
                    exact Rg.nil ⟨rfl, rfl, _, rfl, hui, Step.refl _ _⟩
                  refine Obls.cons ?_ ?_
                  · intro wD E sD -- 3
                    intro v2 hv2
                    refine Rg.fieldAddr (M := M) (A := RT.po) (B := RT.int .i64) Try.underlying37 rfl rfl I3 (by decide) (po0) rfl rfl (by decide) (show PtrTo (RT.po) M wD v2 (d, ps) from hv2) (Le.refl _ _) (fun uf huf => ?_)
                    exact Rg.nil ⟨rfl, rfl, _, rfl, huf, Step.refl _ _⟩
                  refine Obls.cons ?_ ?_
                  · intro wD E sD -- 4
                    intro v3 hv3
                    refine Rg.loadi64 (M := M) Try.underlying3 rfl rfl (show PtrTo (RT.int .i64) M wD v3 d from hv3) (Le.refl _ _) (fun hin => ?_)
                    exact Rg.nil ⟨rfl, rfl, _, rfl, rfl, Step.refl _ _⟩
                  refine Obls.cons ?_ ?_
                  · intro wD E sD -- 5
                    intro x_ hx_; have hx_ : x_ = _ := hx_; subst x_
                    refine Rg.ilt rfl rfl rfl ?_
                    exact Rg.nil ⟨rfl, rfl, _, rfl, rfl, Step.refl _ _⟩
                  refine Obls.cons ?_ ?_
                  · intro wD E sD -- 6
                    intro x_ hx_; have hx_ : x_ = _ := hx_; subst x_
                    refine Rg.move rfl rfl ?_
                    refine Rg.nil ⟨rfl, rfl, _, rfl, ?_, Step.refl _ _⟩
                    exact congrArg Value.bool (decide_eq_false g5_6)
                  refine Obls.cons ?_ ?_
                  · intro wD E sD -- 7
                    intro x_ hx_; have hx_ : x_ = _ := hx_; subst x_
                    refine Rg.gyes rfl rfl ?_
                    refine Rg.move rfl rfl ?_
                    exact Rg.nil ⟨rfl, rfl, _, rfl, rfl, Step.refl _ _⟩
                  refine Obls.cons ?_ ?_
                  · intro wD E sD -- 8
                    intro x_ hx_; have hx_ : x_ = _ := hx_; subst x_
                    refine Rg.gyes rfl rfl ?_
                    refine Rg.move rfl rfl ?_
                    exact Rg.nil ⟨rfl, rfl, _, rfl, rfl, Step.refl _ _⟩
                  refine Obls.cons ?_ ?_
                  · intro wD E sD -- 9
                    intro x_ hx_; have hx_ : x_ = _ := hx_; subst x_
                    intro x_ hx_; have hx_ : x_ = _ := hx_; subst x_
                    intro x_ hx_; have hx_ : x_ = _ := hx_; subst x_
                    refine Rg.gyes rfl rfl ?_
                    refine Rg.idx (M := M) Try.underlying28 I37 rfl rfl rfl (hvM.le sD.le) (Le.refl _ _) (by omega) (fun ui ai hgi hui => ?_)
                    obtain rfl : (d, ps) = ai := Eq.symm (Option.some.inj (hgi.symm.trans (by simpa using hx)))
                    exact Rg.nil ⟨rfl, rfl, _, rfl, hui, Step.refl _ _⟩
                  refine Obls.cons ?_ ?_
                  · intro wD E sD -- 10
                    intro v9 hv9
                    intro x_ hx_; have hx_ : x_ = _ := hx_; subst x_
                    refine Rg.gyes rfl rfl ?_
                    refine Rg.fieldAddr (M := M) (A := RT.po) (B := RT.int .i64) Try.underlying37 rfl rfl I3 (by decide) (po0) rfl rfl (by decide) (show PtrTo (RT.po) M wD v9 (d, ps) from hv9) (Le.refl _ _) (fun uf huf => ?_)
                    exact Rg.nil ⟨rfl, rfl, _, rfl, huf, Step.refl _ _⟩
                  refine Obls.cons ?_ ?_
                  · intro wD E sD -- 11
                    intro v10 hv10
                    intro x_ hx_; have hx_ : x_ = _ := hx_; subst x_
                    refine Rg.gyes rfl rfl ?_
                    refine Rg.loadi64 (M := M) Try.underlying3 rfl rfl (show PtrTo (RT.int .i64) M wD v10 d from hv10) (Le.refl _ _) (fun hin => ?_)
                    exact Rg.nil ⟨rfl, rfl, _, rfl, rfl, Step.refl _ _⟩
                  refine Obls.cons ?_ ?_
                  · intro wD E sD -- 12
                    intro x_ hx_; have hx_ : x_ = _ := hx_; subst x_
                    intro x_ hx_; have hx_ : x_ = _ := hx_; subst x_
                    refine Rg.gyes rfl rfl ?_
                    refine Rg.ige rfl rfl rfl ?_
                    exact Rg.nil ⟨rfl, rfl, _, rfl, rfl, Step.refl _ _⟩
                  refine Obls.cons ?_ ?_
                  · intro wD E sD -- 13
                    intro x_ hx_; have hx_ : x_ = _ := hx_; subst x_
                    intro x_ hx_; have hx_ : x_ = _ := hx_; subst x_
                    refine Rg.pickf rfl rfl rfl ?_
                    exact Rg.nil ⟨rfl, rfl, _, rfl, rfl, Step.refl _ _⟩
                  refine Obls.cons ?_ ?_
                  · intro wD E sD -- 14
                    intro x_ hx_; have hx_ : x_ = _ := hx_; subst x_
                    intro x_ hx_; have hx_ : x_ = _ := hx_; subst x_
                    refine Rg.move rfl rfl ?_
                    refine Rg.nil ⟨rfl, rfl, _, rfl, ?_, Step.refl _ _⟩
                    exact congrArg Value.bool (decide_eq_false g5_14)
                  refine Obls.cons ?_ ?_
                  · intro wD E sD -- 15
                    intro x_ hx_; have hx_ : x_ = _ := hx_; subst x_
                    refine Rg.gyes rfl rfl ?_
                    refine Rg.move rfl rfl ?_
                    exact Rg.nil ⟨rfl, rfl, _, rfl, rfl, Step.refl _ _⟩
                  refine Obls.cons ?_ ?_
                  · intro wD E sD -- 16
                    intro x_ hx_; have hx_ : x_ = _ := hx_; subst x_
                    intro x_ hx_; have hx_ : x_ = _ := hx_; subst x_
                    refine Rg.gyes rfl rfl ?_
                    refine Rg.igt rfl rfl rfl ?_
                    exact Rg.nil ⟨rfl, rfl, _, rfl, rfl, Step.refl _ _⟩
                  refine Obls.cons ?_ ?_
                  · intro wD E sD -- 17
                    intro x_ hx_; have hx_ : x_ = _ := hx_; subst x_
                    intro x_ hx_; have hx_ : x_ = _ := hx_; subst x_
                    intro x_ hx_; have hx_ : x_ = _ := hx_; subst x_
                    refine Rg.gyes rfl rfl ?_
                    refine Rg.move rfl rfl ?_
                    refine Rg.nil ⟨rfl, rfl, _, rfl, ?_, Step.refl _ _⟩
                    exact congrArg Value.bool (decide_eq_true g5_17)
                  refine Obls.cons ?_ ?_
                  · intro wD E sD -- 18
                    intro x_ hx_; have hx_ : x_ = _ := hx_; subst x_
                    refine Rg.gyes rfl rfl ?_
                    refine Rg.move rfl rfl ?_
                    exact Rg.nil ⟨rfl, rfl, _, rfl, rfl, Step.refl _ _⟩
                  refine Obls.cons ?_ ?_
                  · intro wD E sD -- 19
                    intro x_ hx_; have hx_ : x_ = _ := hx_; subst x_
                    refine Rg.gyes rfl rfl ?_
                    refine Rg.move rfl rfl ?_
                    exact Rg.nil ⟨rfl, rfl, _, rfl, rfl, Step.refl _ _⟩
                  refine Obls.cons ?_ ?_
                  · intro wD E sD -- 20
                    intro x_ hx_; have hx_ : x_ = _ := hx_; subst x_
                    intro x_ hx_; have hx_ : x_ = _ := hx_; subst x_
                    intro x_ hx_; have hx_ : x_ = _ := hx_; subst x_
                    refine Rg.gyes rfl rfl ?_
                    refine Rg.idx (M := M) Try.underlying28 I37 rfl rfl rfl (hvM.le sD.le) (Le.refl _ _) (by omega) (fun ui ai hgi hui => ?_)
                    obtain rfl : (d, ps) = ai := Eq.symm (Option.some.inj (hgi.symm.trans (by simpa using hx)))
                    exact Rg.nil ⟨rfl, rfl, _, rfl, hui, Step.refl _ _⟩
                  refine Obls.cons ?_ ?_
                  · intro wD E sD -- 21
                    intro v20 hv20
                    intro x_ hx_; have hx_ : x_ = _ := hx_; subst x_
                    refine Rg.gyes rfl rfl ?_
                    refine Rg.fieldAddr (M := M) (A := RT.po) (B := RT.int .i64) Try.underlying37 rfl rfl I3 (by decide) (po0) rfl rfl (by decide) (show PtrTo (RT.po) M wD v20 (d, ps) from hv20) (Le.refl _ _) (fun uf huf => ?_)
                    exact Rg.nil ⟨rfl, rfl, _, rfl, huf, Step.refl _ _⟩
                  refine Obls.cons ?_ ?_
                  · intro wD E sD -- 22
                    intro v21 hv21
                    intro x_ hx_; have hx_ : x_ = _ := hx_; subst x_
                    refine Rg.gyes rfl rfl ?_
                    refine Rg.loadi64 (M := M) Try.underlying3 rfl rfl (show PtrTo (RT.int .i64) M wD v21 d from hv21) (Le.refl _ _) (fun hin => ?_)
                    exact Rg.nil ⟨rfl, rfl, _, rfl, rfl, Step.refl _ _⟩
                  refine Obls.cons ?_ ?_
                  · intro wD E sD -- 23
                    intro x_ hx_; have hx_ : x_ = _ := hx_; subst x_
                    refine Rg.gyes rfl rfl ?_
                    refine Rg.move rfl rfl ?_
                    exact Rg.nil ⟨rfl, rfl, _, rfl, rfl, Step.refl _ _⟩
                  refine Obls.cons ?_ ?_
                  · intro wD E sD -- 24
                    intro x_ hx_; have hx_ : x_ = _ := hx_; subst x_
                    refine Rg.gyes rfl rfl ?_
                    refine Rg.move rfl rfl ?_
                    exact Rg.nil ⟨rfl, rfl, _, rfl, rfl, Step.refl _ _⟩
                  refine Obls.cons ?_ ?_
                  · intro wD E sD -- 25
                    intro x_ hx_; have hx_ : x_ = _ := hx_; subst x_
                    intro x_ hx_; have hx_ : x_ = _ := hx_; subst x_
                    refine Rg.gyes rfl rfl ?_
                    refine Rg.isub rfl rfl rfl (by omega) ?_
                    exact Rg.nil ⟨rfl, rfl, _, rfl, rfl, Step.refl _ _⟩
                  refine Obls.cons ?_ ?_
                  · intro wD E sD -- 26
                    intro x_ hx_; have hx_ : x_ = _ := hx_; subst x_
                    intro x_ hx_; have hx_ : x_ = _ := hx_; subst x_
                    intro x_ hx_; have hx_ : x_ = _ := hx_; subst x_
                    refine Rg.gyes rfl rfl ?_
                    refine Rg.idx (M := M) Try.underlying28 I37 rfl rfl rfl (hvM.le sD.le) (Le.refl _ _) (by omega) (fun ui ai hgi hui => ?_)
                    obtain rfl : (last, pl) = ai := Eq.symm (Option.some.inj (hgi.symm.trans (by rw [show ((k : Int) - 1).toNat = k - 1 from by omega]; exact h1 (by omega))))
                    exact Rg.nil ⟨rfl, rfl, _, rfl, hui, Step.refl _ _⟩
                  refine Obls.cons ?_ ?_
                  · intro wD E sD -- 27
                    intro v26 hv26
                    intro x_ hx_; have hx_ : x_ = _ := hx_; subst x_
                    refine Rg.gyes rfl rfl ?_
                    refine Rg.fieldAddr (M := M) (A := RT.po) (B := RT.int .i64) Try.underlying37 rfl rfl I3 (by decide) (po0) rfl rfl (by decide) (show PtrTo (RT.po) M wD v26 (last, pl) from hv26) (Le.refl _ _) (fun uf huf => ?_)
                    exact Rg.nil ⟨rfl, rfl, _, rfl, huf, Step.refl _ _⟩
                  refine Obls.cons ?_ ?_
                  · intro wD E sD -- 28
                    intro v27 hv27
                    intro x_ hx_; have hx_ : x_ = _ := hx_; subst x_
                    refine Rg.gyes rfl rfl ?_
                    refine Rg.loadi64 (M := M) Try.underlying3 rfl rfl (show PtrTo (RT.int .i64) M wD v27 last from hv27) (Le.refl _ _) (fun hin => ?_)
                    exact Rg.nil ⟨rfl, rfl, _, rfl, rfl, Step.refl _ _⟩
                  refine Obls.cons ?_ ?_
                  · intro wD E sD -- 29
                    intro x_ hx_; have hx_ : x_ = _ := hx_; subst x_
                    intro x_ hx_; have hx_ : x_ = _ := hx_; subst x_
                    intro x_ hx_; have hx_ : x_ = _ := hx_; subst x_
                    refine Rg.gyes rfl rfl ?_
                    refine Rg.ile rfl rfl rfl ?_
                    exact Rg.nil ⟨rfl, rfl, _, rfl, rfl, Step.refl _ _⟩
                  refine Obls.cons ?_ ?_
                  · intro wD E sD -- 30
                    intro x_ hx_; have hx_ : x_ = _ := hx_; subst x_
                    intro x_ hx_; have hx_ : x_ = _ := hx_; subst x_
                    intro x_ hx_; have hx_ : x_ = _ := hx_; subst x_
                    refine Rg.gyes rfl rfl ?_
                    refine Rg.pickt rfl rfl rfl ?_
                    exact Rg.nil ⟨rfl, rfl, _, rfl, rfl, Step.refl _ _⟩
                  refine Obls.cons ?_ ?_
                  · intro wD E sD -- 31
                    intro x_ hx_; have hx_ : x_ = _ := hx_; subst x_
                    intro x_ hx_; have hx_ : x_ = _ := hx_; subst x_
                    refine Rg.pickf rfl rfl rfl ?_
                    exact Rg.nil ⟨rfl, rfl, _, rfl, rfl, Step.refl _ _⟩
                  refine Obls.cons ?_ ?_
                  · intro wD E sD -- 32
                    intro x_ hx_; have hx_ : x_ = _ := hx_; subst x_
                    intro x_ hx_; have hx_ : x_ = _ := hx_; subst x_
                    refine Rg.move rfl rfl ?_
                    refine Rg.nil ⟨rfl, rfl, _, rfl, ?_, Step.refl _ _⟩
                    exact congrArg Value.bool (decide_eq_false g5_32)
                  refine Obls.cons ?_ ?_
                  · intro wD E sD -- 33
                    intro x_ hx_; have hx_ : x_ = _ := hx_; subst x_
                    refine Rg.gyes rfl rfl ?_
                    refine Rg.move rfl rfl ?_
                    exact Rg.nil ⟨rfl, rfl, _, rfl, rfl, Step.refl _ _⟩
                  refine Obls.cons ?_ ?_
                  · intro wD E sD -- 34
                    intro x_ hx_; have hx_ : x_ = _ := hx_; subst x_
                    refine Rg.gyes rfl rfl ?_
                    refine Rg.move rfl rfl ?_
                    exact Rg.nil ⟨rfl, rfl, _, rfl, rfl, Step.refl _ _⟩
                  refine Obls.cons ?_ ?_
                  · intro wD E sD -- 35
                    intro x_ hx_; have hx_ : x_ = _ := hx_; subst x_
                    intro x_ hx_; have hx_ : x_ = _ := hx_; subst x_
                    intro x_ hx_; have hx_ : x_ = _ := hx_; subst x_
                    refine Rg.gyes rfl rfl ?_
                    refine Rg.idx (M := M) Try.underlying28 I37 rfl rfl rfl (hvM.le sD.le) (Le.refl _ _) (by omega) (fun ui ai hgi hui => ?_)
                    obtain rfl : (d, ps) = ai := Eq.symm (Option.some.inj (hgi.symm.trans (by simpa using hx)))
                    exact Rg.nil ⟨rfl, rfl, _, rfl, hui, Step.refl _ _⟩
                  refine Obls.cons ?_ ?_
                  · intro wD E sD -- 36
                    intro v35 hv35
                    intro x_ hx_; have hx_ : x_ = _ := hx_; subst x_
                    refine Rg.gyes rfl rfl ?_
                    refine Rg.fieldAddr (M := M) (A := RT.po) (B := (RT.int .i64).sl) Try.underlying37 rfl rfl I23 (by decide) (po1) rfl rfl (by decide) (show PtrTo (RT.po) M wD v35 (d, ps) from hv35) (Le.refl _ _) (fun uf huf => ?_)
                    exact Rg.nil ⟨rfl, rfl, _, rfl, huf, Step.refl _ _⟩
                  refine Obls.cons ?_ ?_
                  · intro wD E sD -- 37
                    intro v36 hv36
                    intro x_ hx_; have hx_ : x_ = _ := hx_; subst x_
                    refine Rg.gyes rfl rfl ?_
                    refine Rg.load (M := M) Try.underlying23 rfl rfl rfl rfl rfl (show PtrTo ((RT.int .i64).sl) M wD v36 ps from hv36) (Le.refl _ _) (fun va hva => ?_)
                    exact Rg.nil ⟨rfl, rfl, _, rfl, hva, Step.refl _ _⟩
                  refine Obls.cons ?_ ?_
                  · intro wD E sD -- 38
                    intro v37 hv37
                    intro x_ hx_; have hx_ : x_ = _ := hx_; subst x_
                    refine Rg.gyes rfl rfl ?_
                    refine Rg.lensl Try.underlying23 rfl (show ((RT.int .i64).sl).V M wD ps v37 from hv37) rfl ?_
                    exact Rg.nil ⟨rfl, rfl, _, rfl, rfl, Step.refl _ _⟩
                  refine Obls.cons ?_ ?_
                  · intro wD E sD -- 39
                    intro x_ hx_; have hx_ : x_ = _ := hx_; subst x_
                    intro x_ hx_; have hx_ : x_ = _ := hx_; subst x_
                    refine Rg.gyes rfl rfl ?_
                    refine Rg.ieq rfl rfl rfl ?_
                    exact Rg.nil ⟨rfl, rfl, _, rfl, rfl, Step.refl _ _⟩
                  refine Obls.cons ?_ ?_
                  · intro wD E sD -- 40
                    intro x_ hx_; have hx_ : x_ = _ := hx_; subst x_
                    intro x_ hx_; have hx_ : x_ = _ := hx_; subst x_
                    refine Rg.pickf rfl rfl rfl ?_
                    exact Rg.nil ⟨rfl, rfl, _, rfl, rfl, Step.refl _ _⟩
                  refine Obls.cons ?_ ?_
                  · intro wD E sD -- 41
                    intro x_ hx_; have hx_ : x_ = _ := hx_; subst x_
                    intro x_ hx_; have hx_ : x_ = _ := hx_; subst x_
                    refine Rg.move rfl rfl ?_
                    refine Rg.nil ⟨rfl, rfl, _, rfl, ?_, Step.refl _ _⟩
                    exact congrArg Value.bool (decide_eq_true g5_41)
                  refine Obls.cons ?_ ?_
                  · intro wD E sD -- 42
                    intro x_ hx_; have hx_ : x_ = _ := hx_; subst x_
                    exact Rg.gno rfl rfl rfl rfl (Rg.nil ⟨rfl, rfl, _, rfl, rfl, Step.refl _ _⟩)
                  refine Obls.cons ?_ ?_
                  · intro wD E sD -- 43
                    intro x_ hx_; have hx_ : x_ = _ := hx_; subst x_
                    intro x_ hx_; have hx_ : x_ = _ := hx_; subst x_
                    exact Rg.gno rfl rfl rfl rfl (Rg.nil ⟨rfl, rfl, _, rfl, rfl, Step.refl _ _⟩)
                  refine Obls.cons ?_ ?_
                  · intro wD E sD -- 44
                    intro x_ hx_; have hx_ : x_ = _ := hx_; subst x_
                    intro x_ hx_; have hx_ : x_ = _ := hx_; subst x_
                    refine Rg.pickt rfl rfl rfl ?_
                    exact Rg.nil ⟨rfl, rfl, _, rfl, rfl, Step.refl _ _⟩
                  refine Obls.cons ?_ ?_
                  · intro wD E sD -- 45
                    intro x_ hx_; have hx_ : x_ = _ := hx_; subst x_
                    intro x_ hx_; have hx_ : x_ = _ := hx_; subst x_
                    refine Rg.move rfl rfl ?_
                    exact Rg.nil ⟨rfl, rfl, _, rfl, rfl, Step.refl _ _⟩
                  refine Obls.cons ?_ ?_
                  · intro wD E sD -- 46
                    intro x_ hx_; have hx_ : x_ = _ := hx_; subst x_
                    exact Rg.gno rfl rfl rfl rfl (Rg.nil ⟨rfl, rfl, _, rfl, rfl, Step.refl _ _⟩)
                  refine Obls.cons ?_ ?_
                  · intro wD E sD -- 47
                    intro x_ hx_; have hx_ : x_ = _ := hx_; subst x_
                    exact Rg.gno rfl rfl rfl rfl (Rg.nil ⟨rfl, rfl, _, rfl, rfl, Step.refl _ _⟩)
                  refine Obls.cons ?_ ?_
                  · intro wD E sD -- 48
                    intro x_ hx_; have hx_ : x_ = _ := hx_; subst x_
                    intro x_ hx_; have hx_ : x_ = _ := hx_; subst x_
                    intro x_ hx_; have hx_ : x_ = _ := hx_; subst x_
                    exact Rg.gno rfl rfl rfl rfl (Rg.nil ⟨rfl, rfl, _, rfl, rfl, Step.refl _ _⟩)
                  refine Obls.cons ?_ ?_
                  · intro wD E sD -- 49
                    intro x_ hx_; have hx_ : x_ = _ := hx_; subst x_
                    intro x_ hx_; have hx_ : x_ = _ := hx_; subst x_
                    exact Rg.gno rfl rfl rfl rfl (Rg.nil ⟨rfl, rfl, _, rfl, rfl, Step.refl _ _⟩)
                  refine Obls.cons ?_ ?_
                  · intro wD E sD -- 50
                    intro x_ hx_; have hx_ : x_ = _ := hx_; subst x_
                    intro x_ hx_; have hx_ : x_ = _ := hx_; subst x_
                    exact Rg.gno rfl rfl rfl rfl (Rg.nil ⟨rfl, rfl, _, rfl, rfl, Step.refl _ _⟩)
                  refine Obls.cons ?_ ?_
                  · intro wD E sD -- 51
                    intro x_ hx_; have hx_ : x_ = _ := hx_; subst x_
                    exact Rg.gno rfl rfl rfl rfl (Rg.nil ⟨rfl, rfl, _, rfl, rfl, Step.refl _ _⟩)
                  refine Obls.cons ?_ ?_
                  · intro wD E sD -- 52
                    intro x_ hx_; have hx_ : x_ = _ := hx_; subst x_
                    exact Rg.gno rfl rfl rfl rfl (Rg.nil ⟨rfl, rfl, _, rfl, rfl, Step.refl _ _⟩)
                  refine Obls.cons ?_ ?_
                  · intro wD E sD -- 53
                    intro x_ hx_; have hx_ : x_ = _ := hx_; subst x_
                    intro x_ hx_; have hx_ : x_ = _ := hx_; subst x_
                    intro x_ hx_; have hx_ : x_ = _ := hx_; subst x_
                    exact Rg.gno rfl rfl rfl rfl (Rg.nil ⟨rfl, rfl, _, rfl, rfl, Step.refl _ _⟩)
                  refine Obls.cons ?_ ?_
                  · intro wD E sD -- 54
                    intro x_ hx_; have hx_ : x_ = _ := hx_; subst x_
                    intro x_ hx_; have hx_ : x_ = _ := hx_; subst x_
                    exact Rg.gno rfl rfl rfl rfl (Rg.nil ⟨rfl, rfl, _, rfl, rfl, Step.refl _ _⟩)
                  refine Obls.cons ?_ ?_
                  · intro wD E sD -- 55
                    intro x_ hx_; have hx_ : x_ = _ := hx_; subst x_
                    intro x_ hx_; have hx_ : x_ = _ := hx_; subst x_
                    exact Rg.gno rfl rfl rfl rfl (Rg.nil ⟨rfl, rfl, _, rfl, rfl, Step.refl _ _⟩)
                  refine Obls.cons ?_ ?_
                  · intro wD E sD -- 56
                    intro x_ hx_; have hx_ : x_ = _ := hx_; subst x_
                    intro x_ hx_; have hx_ : x_ = _ := hx_; subst x_
                    exact Rg.gno rfl rfl rfl rfl (Rg.nil ⟨rfl, rfl, _, rfl, rfl, Step.refl _ _⟩)
                  refine Obls.cons ?_ ?_
                  · intro wD E sD -- 57
                    intro x_ hx_; have hx_ : x_ = _ := hx_; subst x_
                    intro x_ hx_; have hx_ : x_ = _ := hx_; subst x_
                    exact Rg.gno rfl rfl rfl rfl (Rg.nil ⟨rfl, rfl, _, rfl, rfl, Step.refl _ _⟩)
                  refine Obls.cons ?_ ?_
                  · intro wD E sD -- 58
                    intro x_ hx_; have hx_ : x_ = _ := hx_; subst x_
                    intro x_ hx_; have hx_ : x_ = _ := hx_; subst x_
                    intro x_ hx_; have hx_ : x_ = _ := hx_; subst x_
                    exact Rg.gno rfl rfl rfl rfl (Rg.nil ⟨rfl, rfl, _, rfl, rfl, Step.refl _ _⟩)
                  refine Obls.cons ?_ ?_
                  · intro wD E sD -- 59
                    intro x_ hx_; have hx_ : x_ = _ := hx_; subst x_
                    intro x_ hx_; have hx_ : x_ = _ := hx_; subst x_
                    exact Rg.gno rfl rfl rfl rfl (Rg.nil ⟨rfl, rfl, _, rfl, rfl, Step.refl _ _⟩)
                  refine Obls.cons ?_ ?_
                  · intro wD E sD -- 60
                    intro x_ hx_; have hx_ : x_ = _ := hx_; subst x_
                    intro x_ hx_; have hx_ : x_ = _ := hx_; subst x_
                    exact Rg.gno rfl rfl rfl rfl (Rg.nil ⟨rfl, rfl, _, rfl, rfl, Step.refl _ _⟩)
                  refine Obls.cons ?_ ?_
                  · intro wD E sD -- 61
                    intro x_ hx_; have hx_ : x_ = _ := hx_; subst x_
                    intro x_ hx_; have hx_ : x_ = _ := hx_; subst x_
                    refine Rg.pickt rfl rfl rfl ?_
                    exact Rg.nil ⟨rfl, rfl, _, rfl, rfl, Step.refl _ _⟩
                  exact Obls.nil
                · -- behind it
                  intro wD5 sD5
                  intro x_ hx_; have hx_ : x_ = _ := hx_; subst x_
                  intro x_ hx_; have hx_ : x_ = _ := hx_; subst x_
                  intro v5_2 hv5_2
                  intro v5_3 hv5_3
                  intro x_ hx_; have hx_ : x_ = _ := hx_; subst x_
                  intro x_ hx_; have hx_ : x_ = _ := hx_; subst x_
                  intro x_ hx_; have hx_ : x_ = _ := hx_; subst x_
                  intro x_ hx_; have hx_ : x_ = _ := hx_; subst x_
                  intro x_ hx_; have hx_ : x_ = _ := hx_; subst x_
                  intro v5_9 hv5_9
                  intro v5_10 hv5_10
                  intro x_ hx_; have hx_ : x_ = _ := hx_; subst x_
                  intro x_ hx_; have hx_ : x_ = _ := hx_; subst x_
                  intro x_ hx_; have hx_ : x_ = _ := hx_; subst x_
                  intro x_ hx_; have hx_ : x_ = _ := hx_; subst x_
                  intro x_ hx_; have hx_ : x_ = _ := hx_; subst x_
                  intro x_ hx_; have hx_ : x_ = _ := hx_; subst x_
                  intro x_ hx_; have hx_ : x_ = _ := hx_; subst x_
                  intro x_ hx_; have hx_ : x_ = _ := hx_; subst x_
                  intro x_ hx_; have hx_ : x_ = _ := hx_; subst x_
                  intro v5_20 hv5_20
                  intro v5_21 hv5_21
                  intro x_ hx_; have hx_ : x_ = _ := hx_; subst x_
                  intro x_ hx_; have hx_ : x_ = _ := hx_; subst x_
                  intro x_ hx_; have hx_ : x_ = _ := hx_; subst x_
                  intro x_ hx_; have hx_ : x_ = _ := hx_; subst x_
                  intro v5_26 hv5_26
                  intro v5_27 hv5_27
                  intro x_ hx_; have hx_ : x_ = _ := hx_; subst x_
                  intro x_ hx_; have hx_ : x_ = _ := hx_; subst x_
                  intro x_ hx_; have hx_ : x_ = _ := hx_; subst x_
                  intro x_ hx_; have hx_ : x_ = _ := hx_; subst x_
                  intro x_ hx_; have hx_ : x_ = _ := hx_; subst x_
                  intro x_ hx_; have hx_ : x_ = _ := hx_; subst x_
                  intro x_ hx_; have hx_ : x_ = _ := hx_; subst x_
                  intro v5_35 hv5_35
                  intro v5_36 hv5_36
                  intro v5_37 hv5_37
                  intro x_ hx_; have hx_ : x_ = _ := hx_; subst x_
                  intro x_ hx_; have hx_ : x_ = _ := hx_; subst x_
                  intro x_ hx_; have hx_ : x_ = _ := hx_; subst x_
                  intro x_ hx_; have hx_ : x_ = _ := hx_; subst x_
                  intro x_ hx_; have hx_ : x_ = _ := hx_; subst x_
                  intro x_ hx_; have hx_ : x_ = _ := hx_; subst x_
                  intro x_ hx_; have hx_ : x_ = _ := hx_; subst x_
                  intro x_ hx_; have hx_ : x_ = _ := hx_; subst x_
                  intro x_ hx_; have hx_ : x_ = _ := hx_; subst x_
                  intro x_ hx_; have hx_ : x_ = _ := hx_; subst x_
                  intro x_ hx_; have hx_ : x_ = _ := hx_; subst x_
                  intro x_ hx_; have hx_ : x_ = _ := hx_; subst x_
                  intro x_ hx_; have hx_ : x_ = _ := hx_; subst x_
                  intro x_ hx_; have hx_ : x_ = _ := hx_; subst x_
                  intro x_ hx_; have hx_ : x_ = _ := hx_; subst x_
                  intro x_ hx_; have hx_ : x_ = _ := hx_; subst x_
                  intro x_ hx_; have hx_ : x_ = _ := hx_; subst x_
                  intro x_ hx_; have hx_ : x_ = _ := hx_; subst x_
                  intro x_ hx_; have hx_ : x_ = _ := hx_; subst x_
                  intro x_ hx_; have hx_ : x_ = _ := hx_; subst x_
                  intro x_ hx_; have hx_ : x_ = _ := hx_; subst x_
                  intro x_ hx_; have hx_ : x_ = _ := hx_; subst x_
                  intro x_ hx_; have hx_ : x_ = _ := hx_; subst x_
                  intro x_ hx_; have hx_ : x_ = _ := hx_; subst x_
                  refine T.ift rfl ?_
                  refine T.seq ?_
                  refine T.region ?_ -- region 6
                  refine Rg.assign rfl rfl ?_
                  refine Rg.nil ?_
                  refine T.ret ?_
                  refine Kret1 rfl rfl ⟨congrArg Value.bool (Eq.symm ?_), S4.trans0 sD5⟩
                  rw [hr, mayPo_drop hx]
                  first
                  | (rw [decide_eq_false (show ¬ last < d by omega)]; simp; done)
                  | (rw [decide_eq_false (show ¬ d < 2147483648 by omega)]; simp; done)
                  | (rw [show ps = [] from List.length_eq_zero_iff.1 (by omega)]; simp; done)
                  | (rw [show risesB ps = false from by unfold risesB; simp only [g5_45, Bool.false_and]]; simp; done)
                  | (rw [show risesB ps = false from by unfold risesB; rw [Bool.not_eq_true] at g5_45; rw [g5_45]; rfl]; simp; done)
                  | (rw [hrl, decide_eq_false (show ¬ y < 2147483648 by omega)]; simp; done)
              · -- g5_41 False
                by_cases g5_45 : ¬ rises (-1) ps = true
                · -- g5_45 True
                  apply T.draw (M := M) mixed [Asr.eq _, Asr.eq _, Asr.ptr (RT.po) (d, ps), Asr.ptr (RT.int .i64) d, Asr.eq (.int .i64 d), Asr.eq _, Asr.eq (.bool false), Asr.eq _, Asr.eq _, Asr.ptr (RT.po) (d, ps), Asr.ptr (RT.int .i64) d, Asr.eq (.int .i64 d), Asr.eq _, Asr.eq _, Asr.eq (.bool false), Asr.eq _, Asr.eq _, Asr.eq (.bool true), Asr.eq _, Asr.eq _, Asr.ptr (RT.po) (d, ps), Asr.ptr (RT.int .i64) d, Asr.eq (.int .i64 d), Asr.eq _, Asr.eq _, Asr.eq _, Asr.ptr (RT.po) (last, pl), Asr.ptr (RT.int .i64) last, Asr.eq (.int .i64 last), Asr.eq _, Asr.eq _, Asr.eq _, Asr.eq (.bool false), Asr.eq _, Asr.eq _, Asr.ptr (RT.po) (d, ps), Asr.ptr ((RT.int .i64).sl) ps, Asr.V ((RT.int .i64).sl) ps, Asr.eq _, Asr.eq _, Asr.eq _, Asr.eq (.bool false), Asr.eq _, Asr.eq _, Asr.eq _, Asr.eq (.bool true), Asr.eq undef, Asr.eq undef, Asr.eq undef, Asr.eq undef, Asr.eq undef, Asr.eq undef, Asr.eq undef, Asr.eq undef, Asr.eq undef, Asr.eq undef, Asr.eq undef, Asr.eq undef, Asr.eq undef, Asr.eq undef, Asr.eq undef, Asr.eq _] -- region 5
                  · rfl
                  · -- its operations
                    refine Obls.cons ?_ ?_
                    · intro wD E sD -- 0
                      refine Rg.move rfl rfl ?_
                      exact Rg.nil ⟨rfl, rfl, _, rfl, rfl, Step.refl _ _⟩
                    refine Obls.cons ?_ ?_
                    · intro wD E sD -- 1
                      refine Rg.move rfl rfl ?_
                      exact Rg.nil ⟨rfl, rfl, _, rfl, rfl, Step.refl _ _⟩
                    refine Obls.cons ?_ ?_
                    · intro wD E sD -- 2
                      intro x_ hx_; have hx_ : x_ = _ := hx_; subst x_
                      intro x_ hx_; have hx_ : x_ = _ := hx_; subst x_
                      refine Rg.idx (M := M) Try.underlying28 I37 rfl rfl rfl (hvM.le sD.le) (Le.refl _ _) (by omega) (fun ui ai hgi hui => ?_)
                      obtain rfl : (d, ps) = ai := Eq.symm (Option.some.inj (hgi.symm.trans (by simpa using hx)))
                      exact Rg.nil ⟨rfl, rfl, _, rfl, hui, Step.refl _ _⟩
                    refine Obls.cons ?_ ?_
                    · intro wD E sD -- 3
                      intro v2 hv2
                      refine Rg.fieldAddr (M := M) (A := RT.po) (B := RT.int .i64) Try.underlying37 rfl rfl I3 (by decide) (po0) rfl rfl (by decide) (show PtrTo (RT.po) M wD v2 (d, ps) from hv2) (Le.refl _ _) (fun uf huf => ?_)
                      exact Rg.nil ⟨rfl, rfl, _, rfl, huf, Step.refl _ _⟩
                    refine Obls.cons ?_ ?_
                    · intro wD E sD -- 4
                      intro v3 hv3
                      refine Rg.loadi64 (M := M) Try.underlying3 rfl rfl (show PtrTo (RT.int .i64) M wD v3 d from hv3) (Le.refl _ _) (fun hin => ?_)
                      exact Rg.nil ⟨rfl, rfl, _, rfl, rfl, Step.refl _ _⟩
                    refine Obls.cons ?_ ?_
                    · intro wD E sD -- 5
                      intro x_ hx_; have hx_ : x_ = _ := hx_; subst x_
                      refine Rg.ilt rfl rfl rfl ?_
                      exact Rg.nil ⟨rfl, rfl, _, rfl, rfl, Step.refl _ _⟩
                    refine Obls.cons ?_ ?_
                    · intro wD E sD -- 6
                      intro x_ hx_; have hx_ : x_ = _ := hx_; subst x_
                      refine Rg.move rfl rfl ?_
                      refine Rg.nil ⟨rfl, rfl, _, rfl, ?_, Step.refl _ _⟩
                      exact congrArg Value.bool (decide_eq_false g5_6)
                    refine Obls.cons ?_ ?_
                    · intro wD E sD -- 7
                      intro x_ hx_; have hx_ : x_ = _ := hx_; subst x_
                      refine Rg.gyes rfl rfl ?_
                      refine Rg.move rfl rfl ?_
                      exact Rg.nil ⟨rfl, rfl, _, rfl, rfl, Step.refl _ _⟩
                    refine Obls.cons ?_ ?_
                    · intro wD E sD -- 8
                      intro x_ hx_; have hx_ : x_ = _ := hx_; subst x_
                      refine Rg.gyes rfl rfl ?_
                      refine Rg.move rfl rfl ?_
                      exact Rg.nil ⟨rfl, rfl, _, rfl, rfl, Step.refl _ _⟩
                    refine Obls.cons ?_ ?_
                    · intro wD E sD -- 9
                      intro x_ hx_; have hx_ : x_ = _ := hx_; subst x_
                      intro x_ hx_; have hx_ : x_ = _ := hx_; subst x_
                      intro x_ hx_; have hx_ : x_ = _ := hx_; subst x_
                      refine Rg.gyes rfl rfl ?_
                      refine Rg.idx (M := M) Try.underlying28 I37 rfl rfl rfl (hvM.le sD.le) (Le.refl _ _) (by omega) (fun ui ai hgi hui => ?_)
                      obtain rfl : (d, ps) = ai := Eq.symm (Option.some.inj (hgi.symm.trans (by simpa using hx)))
                      exact Rg.nil ⟨rfl, rfl, _, rfl, hui, Step.refl _ _⟩
                    refine Obls.cons ?_ ?_
                    · intro wD E sD -- 10
                      intro v9 hv9
                      intro x_ hx_; have hx_ : x_ = _ := hx_; subst x_
                      refine Rg.gyes rfl rfl ?_
                      refine Rg.fieldAddr (M := M) (A := RT.po) (B := RT.int .i64) Try.underlying37 rfl rfl I3 (by decide) (po0) rfl rfl (by decide) (show PtrTo (RT.po) M wD v9 (d, ps) from hv9) (Le.refl _ _) (fun uf huf => ?_)
                      exact Rg.nil ⟨rfl, rfl, _, rfl, huf, Step.refl _ _⟩
                    refine Obls.cons ?_ ?_
                    · intro wD E sD -- 11
                      intro v10 hv10
                      intro x_ hx_; have hx_ : x_ = _ := hx_; subst x_
                      refine Rg.gyes rfl rfl ?_
                      refine Rg.loadi64 (M := M) Try.underlying3 rfl rfl (show PtrTo (RT.int .i64) M wD v10 d from hv10) (Le.refl _ _) (fun hin => ?_)
                      exact Rg.nil ⟨rfl, rfl, _, rfl, rfl, Step.refl _ _⟩
                    refine Obls.cons ?_ ?_
                    · intro wD E sD -- 12
                      intro x_ hx_; have hx_ : x_ = _ := hx_; subst x_
                      intro x_ hx_; have hx_ : x_ = _ := hx_; subst x_
                      refine Rg.gyes rfl rfl ?_
                      refine Rg.ige rfl rfl rfl ?_
                      exact Rg.nil ⟨rfl, rfl, _, rfl, rfl, Step.refl _ _⟩
                    refine Obls.cons ?_ ?_
                    · intro wD E sD -- 13
                      intro x_ hx_; have hx_ : x_ = _ := hx_; subst x_
                      intro x_ hx_; have hx_ : x_ = _ := hx_; subst x_
                      refine Rg.pickf rfl rfl rfl ?_
                      exact Rg.nil ⟨rfl, rfl, _, rfl, rfl, Step.refl _ _⟩
                    refine Obls.cons ?_ ?_
                    · intro wD E sD -- 14
                      intro x_ hx_; have hx_ : x_ = _ := hx_; subst x_
                      intro x_ hx_; have hx_ : x_ = _ := hx_; subst x_
                      refine Rg.move rfl rfl ?_
                      refine Rg.nil ⟨rfl, rfl, _, rfl, ?_, Step.refl _ _⟩
                      exact congrArg Value.bool (decide_eq_false g5_14)
                    refine Obls.cons ?_ ?_
                    · intro wD E sD -- 15
                      intro x_ hx_; have hx_ : x_ = _ := hx_; subst x_
                      refine Rg.gyes rfl rfl ?_
                      refine Rg.move rfl rfl ?_
                      exact Rg.nil ⟨rfl, rfl, _, rfl, rfl, Step.refl _ _⟩
                    refine Obls.cons ?_ ?_
                    · intro wD E sD -- 16
                      intro x_ hx_; have hx_ : x_ = _ := hx_; subst x_
                      intro x_ hx_; have hx_ : x_ = _ := hx_; subst x_
                      refine Rg.gyes rfl rfl ?_
                      refine Rg.igt rfl rfl rfl ?_
                      exact Rg.nil ⟨rfl, rfl, _, rfl, rfl, Step.refl _ _⟩
                    refine Obls.cons ?_ ?_
                    · intro wD E sD -- 17
                      intro x_ hx_; have hx_ : x_ = _ := hx_; subst x_
                      intro x_ hx_; have hx_ : x_ = _ := hx_; subst x_
                      intro x_ hx_; have hx_ : x_ = _ := hx_; subst x_
                      refine Rg.gyes rfl rfl ?_
                      refine Rg.move rfl rfl ?_
                      refine Rg.nil ⟨rfl, rfl, _, rfl, ?_, Step.refl _ _⟩
                      exact congrArg Value.bool (decide_eq_true g5_17)
                    refine Obls.cons ?_ ?_
                    · intro wD E sD -- 18
                      intro x_ hx_; have hx_ : x_ = _ := hx_; subst x_
                      refine Rg.gyes rfl rfl ?_
                      refine Rg.move rfl rfl ?_
                      exact Rg.nil ⟨rfl, rfl, _, rfl, rfl, Step.refl _ _⟩
                    refine Obls.cons ?_ ?_
                    · intro wD E sD -- 19
                      intro x_ hx_; have hx_ : x_ = _ := hx_; subst x_
                      refine Rg.gyes rfl rfl ?_
                      refine Rg.move rfl rfl ?_
                      exact Rg.nil ⟨rfl, rfl, _, rfl, rfl, Step.refl _ _⟩
                    refine Obls.cons ?_ ?_
                    · intro wD E sD -- 20
                      intro x_ hx_; have hx_ : x_ = _ := hx_; subst x_
                      intro x_ hx_; have hx_ : x_ = _ := hx_; subst x_
                      intro x_ hx_; have hx_ : x_ = _ := hx_; subst x_
                      refine Rg.gyes rfl rfl ?_
                      refine Rg.idx (M := M) Try.underlying28 I37 rfl rfl rfl (hvM.le sD.le) (Le.refl _ _) (by omega) (fun ui ai hgi hui => ?_)
                      obtain rfl : (d, ps) = ai := Eq.symm (Option.some.inj (hgi.symm.trans (by simpa using hx)))
                      exact Rg.nil ⟨rfl, rfl, _, rfl, hui, Step.refl _ _⟩
                    refine Obls.cons ?_ ?_
                    · intro wD E sD -- 21
                      intro v20 hv20
                      intro x_ hx_; have hx_ : x_ = _ := hx_; subst x_
                      refine Rg.gyes rfl rfl ?_
                      refine Rg.fieldAddr (M := M) (A := RT.po) (B := RT.int .i64) Try.underlying37 rfl rfl I3 (by decide) (po0) rfl rfl (by decide) (show PtrTo (RT.po) M wD v20 (d, ps) from hv20) (Le.refl _ _) (fun uf huf => ?_)
                      exact Rg.nil ⟨rfl, rfl, _, rfl, huf, Step.refl _ _⟩
                    refine Obls.cons ?_ ?_
                    · intro wD E sD -- 22
                      intro v21 hv21
                      intro x_ hx_; have hx_ : x_ = _ := hx_; subst x_
                      refine Rg.gyes rfl rfl ?_
                      refine Rg.loadi64 (M := M) Try.underlying3 rfl rfl (show PtrTo (RT.int .i64) M wD v21 d from hv21) (Le.refl _ _) (fun hin => ?_)
                      exact Rg.nil ⟨rfl, rfl, _, rfl, rfl, Step.refl _ _⟩
                    refine Obls.cons ?_ ?_
                    · intro wD E sD -- 23
                      intro x_ hx_; have hx_ : x_ = _ := hx_; subst x_
                      refine Rg.gyes rfl rfl ?_
                      refine Rg.move rfl rfl ?_
                      exact Rg.nil ⟨rfl, rfl, _, rfl, rfl, Step.refl _ _⟩
                    refine Obls.cons ?_ ?_
                    · intro wD E sD -- 24
                      intro x_ hx_; have hx_ : x_ = _ := hx_; subst x_
                      refine Rg.gyes rfl rfl ?_
                      refine Rg.move rfl rfl ?_
                      exact Rg.nil ⟨rfl, rfl, _, rfl, rfl, Step.refl _ _⟩
                    refine Obls.cons ?_ ?_
                    · intro wD E sD -- 25
                      intro x_ hx_; have hx_ : x_ = _ := hx_; subst x_
                      intro x_ hx_; have hx_ : x_ = _ := hx_; subst x_
                      refine Rg.gyes rfl rfl ?_
                      refine Rg.isub rfl rfl rfl (by omega) ?_
                      exact Rg.nil ⟨rfl, rfl, _, rfl, rfl, Step.refl _ _⟩
                    refine Obls.cons ?_ ?_
                    · intro wD E sD -- 26
                      intro x_ hx_; have hx_ : x_ = _ := hx_; subst x_
                      intro x_ hx_; have hx_ : x_ = _ := hx_; subst x_
                      intro x_ hx_; have hx_ : x_ = _ := hx_; subst x_
                      refine Rg.gyes rfl rfl ?_
                      refine Rg.idx (M := M) Try.underlying28 I37 rfl rfl rfl (hvM.le sD.le) (Le.refl _ _) (by omega) (fun ui ai hgi hui => ?_)
                      obtain rfl : (last, pl) = ai := Eq.symm (Option.some.inj (hgi.symm.trans (by rw [show ((k : Int) - 1).toNat = k - 1 from by omega]; exact h1 (by omega))))
                      exact Rg.nil ⟨rfl, rfl, _, rfl, hui, Step.refl _ _⟩
                    refine Obls.cons ?_ ?_
                    · intro wD E sD -- 27
                      intro v26 hv26
                      intro x_ hx_; have hx_ : x_ = _ := hx_; subst x_
                      refine Rg.gyes rfl rfl ?_
                      refine Rg.fieldAddr (M := M) (A := RT.po) (B := RT.int .i64) Try.underlying37 rfl rfl I3 (by decide) (po0) rfl rfl (by decide) (show PtrTo (RT.po) M wD v26 (last, pl) from hv26) (Le.refl _ _) (fun uf huf => ?_)
                      exact Rg.nil ⟨rfl, rfl, _, rfl, huf, Step.refl _ _⟩
                    refine Obls.cons ?_ ?_
                    · intro wD E sD -- 28
                      intro v27 hv27
                      intro x_ hx_; have hx_ : x_ = _ := hx_; subst x_
                      refine Rg.gyes rfl rfl ?_
                      refine Rg.loadi64 (M := M) Try.underlying3 rfl rfl (show PtrTo (RT.int .i64) M wD v27 last from hv27) (Le.refl _ _) (fun hin => ?_)
                      exact Rg.nil ⟨rfl, rfl, _, rfl, rfl, Step.refl _ _⟩
                    refine Obls.cons ?_ ?_
                    · intro wD E sD -- 29
                      intro x_ hx_; have hx_ : x_ = _ := hx_; subst x_
                      intro x_ hx_; have hx_ : x_ = _ := hx_; subst x_
                      intro x_ hx_; have hx_ : x_ = _ := hx_; subst x_
                      refine Rg.gyes rfl rfl ?_
                      refine Rg.ile rfl rfl rfl ?_
                      exact Rg.nil ⟨rfl, rfl, _, rfl, rfl, Step.refl _ _⟩
                    refine Obls.cons ?_ ?_
                    · intro wD E sD -- 30
                      intro x_ hx_; have hx_ : x_ = _ := hx_; subst x_
                      intro x_ hx_; have hx_ : x_ = _ := hx_; subst x_
                      intro x_ hx_; have hx_ : x_ = _ := hx_; subst x_
                      refine Rg.gyes rfl rfl ?_
                      refine Rg.pickt rfl rfl rfl ?_
                      exact Rg.nil ⟨rfl, rfl, _, rfl, rfl, Step.refl _ _⟩
                    refine Obls.cons ?_ ?_
                    · intro wD E sD -- 31
                      intro x_ hx_; have hx_ : x_ = _ := hx_; subst x_
                      intro x_ hx_; have hx_ : x_ = _ := hx_; subst x_
                      refine Rg.pickf rfl rfl rfl ?_
                      exact Rg.nil ⟨rfl, rfl, _, rfl, rfl, Step.refl _ _⟩
                    refine Obls.cons ?_ ?_
                    · intro wD E sD -- 32
                      intro x_ hx_; have hx_ : x_ = _ := hx_; subst x_
                      intro x_ hx_; have hx_ : x_ = _ := hx_; subst x_
                      refine Rg.move rfl rfl ?_
                      refine Rg.nil ⟨rfl, rfl, _, rfl, ?_, Step.refl _ _⟩
                      exact congrArg Value.bool (decide_eq_false g5_32)
                    refine Obls.cons ?_ ?_
                    · intro wD E sD -- 33
                      intro x_ hx_; have hx_ : x_ = _ := hx_; subst x_
                      refine Rg.gyes rfl rfl ?_
                      refine Rg.move rfl rfl ?_
                      exact Rg.nil ⟨rfl, rfl, _, rfl, rfl, Step.refl _ _⟩
                    refine Obls.cons ?_ ?_
                    · intro wD E sD -- 34
                      intro x_ hx_; have hx_ : x_ = _ := hx_; subst x_
                      refine Rg.gyes rfl rfl ?_
                      refine Rg.move rfl rfl ?_
                      exact Rg.nil ⟨rfl, rfl, _, rfl, rfl, Step.refl _ _⟩
                    refine Obls.cons ?_ ?_
                    · intro wD E sD -- 35
                      intro x_ hx_; have hx_ : x_ = _ := hx_; subst x_
                      intro x_ hx_; have hx_ : x_ = _ := hx_; subst x_
                      intro x_ hx_; have hx_ : x_ = _ := hx_; subst x_
                      refine Rg.gyes rfl rfl ?_
                      refine Rg.idx (M := M) Try.underlying28 I37 rfl rfl rfl (hvM.le sD.le) (Le.refl _ _) (by omega) (fun ui ai hgi hui => ?_)
                      obtain rfl : (d, ps) = ai := Eq.symm (Option.some.inj (hgi.symm.trans (by simpa using hx)))
                      exact Rg.nil ⟨rfl, rfl, _, rfl, hui, Step.refl _ _⟩
                    refine Obls.cons ?_ ?_
                    · intro wD E sD -- 36
                      intro v35 hv35
                      intro x_ hx_; have hx_ : x_ = _ := hx_; subst x_
                      refine Rg.gyes rfl rfl ?_
                      refine Rg.fieldAddr (M := M) (A := RT.po) (B := (RT.int .i64).sl) Try.underlying37 rfl rfl I23 (by decide) (po1) rfl rfl (by decide) (show PtrTo (RT.po) M wD v35 (d, ps) from hv35) (Le.refl _ _) (fun uf huf => ?_)
                      exact Rg.nil ⟨rfl, rfl, _, rfl, huf, Step.refl _ _⟩
                    refine Obls.cons ?_ ?_
                    · intro wD E sD -- 37
                      intro v36 hv36
                      intro x_ hx_; have hx_ : x_ = _ := hx_; subst x_
                      refine Rg.gyes rfl rfl ?_
                      refine Rg.load (M := M) Try.underlying23 rfl rfl rfl rfl rfl (show PtrTo ((RT.int .i64).sl) M wD v36 ps from hv36) (Le.refl _ _) (fun va hva => ?_)
                      exact Rg.nil ⟨rfl, rfl, _, rfl, hva, Step.refl _ _⟩
                    refine Obls.cons ?_ ?_
                    · intro wD E sD -- 38
                      intro v37 hv37
                      intro x_ hx_; have hx_ : x_ = _ := hx_; subst x_
                      refine Rg.gyes rfl rfl ?_
                      refine Rg.lensl Try.underlying23 rfl (show ((RT.int .i64).sl).V M wD ps v37 from hv37) rfl ?_
                      exact Rg.nil ⟨rfl, rfl, _, rfl, rfl, Step.refl _ _⟩
                    refine Obls.cons ?_ ?_
                    · intro wD E sD -- 39
                      intro x_ hx_; have hx_ : x_ = _ := hx_; subst x_
                      intro x_ hx_; have hx_ : x_ = _ := hx_; subst x_
                      refine Rg.gyes rfl rfl ?_
                      refine Rg.ieq rfl rfl rfl ?_
                      exact Rg.nil ⟨rfl, rfl, _, rfl, rfl, Step.refl _ _⟩
                    refine Obls.cons ?_ ?_
                    · intro wD E sD -- 40
                      intro x_ hx_; have hx_ : x_ = _ := hx_; subst x_
                      intro x_ hx_; have hx_ : x_ = _ := hx_; subst x_
                      refine Rg.pickf rfl rfl rfl ?_
                      exact Rg.nil ⟨rfl, rfl, _, rfl, rfl, Step.refl _ _⟩
                    refine Obls.cons ?_ ?_
                    · intro wD E sD -- 41
                      intro x_ hx_; have hx_ : x_ = _ := hx_; subst x_
                      intro x_ hx_; have hx_ : x_ = _ := hx_; subst x_
                      refine Rg.move rfl rfl ?_
                      refine Rg.nil ⟨rfl, rfl, _, rfl, ?_, Step.refl _ _⟩
                      exact congrArg Value.bool (decide_eq_false g5_41)
                    refine Obls.cons ?_ ?_
                    · intro wD E sD -- 42
                      intro x_ hx_; have hx_ : x_ = _ := hx_; subst x_
                      refine Rg.gyes rfl rfl ?_
                      refine Rg.move rfl rfl ?_
                      exact Rg.nil ⟨rfl, rfl, _, rfl, rfl, Step.refl _ _⟩
                    refine Obls.cons ?_ ?_
                    · intro wD E sD -- 43
                      intro x_ hx_; have hx_ : x_ = _ := hx_; subst x_
                      intro x_ hx_; have hx_ : x_ = _ := hx_; subst x_
                      refine Rg.gyes rfl rfl ?_
                      refine Rg.not rfl rfl ?_
                      refine Rg.eqv (v' := .bool (decide (¬ rises (-1) ps = true))) (by simp) ?_
                      exact Rg.nil ⟨rfl, rfl, _, rfl, rfl, Step.refl _ _⟩
                    refine Obls.cons ?_ ?_
                    · intro wD E sD -- 44
                      intro x_ hx_; have hx_ : x_ = _ := hx_; subst x_
                      intro x_ hx_; have hx_ : x_ = _ := hx_; subst x_
                      refine Rg.pickf rfl rfl rfl ?_
                      exact Rg.nil ⟨rfl, rfl, _, rfl, rfl, Step.refl _ _⟩
                    refine Obls.cons ?_ ?_
                    · intro wD E sD -- 45
                      intro x_ hx_; have hx_ : x_ = _ := hx_; subst x_
                      intro x_ hx_; have hx_ : x_ = _ := hx_; subst x_
                      refine Rg.move rfl rfl ?_
                      refine Rg.nil ⟨rfl, rfl, _, rfl, ?_, Step.refl _ _⟩
                      exact congrArg Value.bool (decide_eq_true g5_45)
                    refine Obls.cons ?_ ?_
                    · intro wD E sD -- 46
                      intro x_ hx_; have hx_ : x_ = _ := hx_; subst x_
                      exact Rg.gno rfl rfl rfl rfl (Rg.nil ⟨rfl, rfl, _, rfl, rfl, Step.refl _ _⟩)
                    refine Obls.cons ?_ ?_
                    · intro wD E sD -- 47
                      intro x_ hx_; have hx_ : x_ = _ := hx_; subst x_
                      exact Rg.gno rfl rfl rfl rfl (Rg.nil ⟨rfl, rfl, _, rfl, rfl, Step.refl _ _⟩)
                    refine Obls.cons ?_ ?_
                    · intro wD E sD -- 48
                      intro x_ hx_; have hx_ : x_ = _ := hx_; subst x_
                      intro x_ hx_; have hx_ : x_ = _ := hx_; subst x_
                      intro x_ hx_; have hx_ : x_ = _ := hx_; subst x_
                      exact Rg.gno rfl rfl rfl rfl (Rg.nil ⟨rfl, rfl, _, rfl, rfl, Step.refl _ _⟩)
                    refine Obls.cons ?_ ?_
                    · intro wD E sD -- 49
                      intro x_ hx_; have hx_ : x_ = _ := hx_; subst x_
                      intro x_ hx_; have hx_ : x_ = _ := hx_; subst x_
                      exact Rg.gno rfl rfl rfl rfl (Rg.nil ⟨rfl, rfl, _, rfl, rfl, Step.refl _ _⟩)
                    refine Obls.cons ?_ ?_
                    · intro wD E sD -- 50
                      intro x_ hx_; have hx_ : x_ = _ := hx_; subst x_
                      intro x_ hx_; have hx_ : x_ = _ := hx_; subst x_
                      exact Rg.gno rfl rfl rfl rfl (Rg.nil ⟨rfl, rfl, _, rfl, rfl, Step.refl _ _⟩)
                    refine Obls.cons ?_ ?_
                    · intro wD E sD -- 51
                      intro x_ hx_; have hx_ : x_ = _ := hx_; subst x_
                      exact Rg.gno rfl rfl rfl rfl (Rg.nil ⟨rfl, rfl, _, rfl, rfl, Step.refl _ _⟩)
                    refine Obls.cons ?_ ?_
                    · intro wD E sD -- 52
                      intro x_ hx_; have hx_ : x_ = _ := hx_; subst x_
                      exact Rg.gno rfl rfl rfl rfl (Rg.nil ⟨rfl, rfl, _, rfl, rfl, Step.refl _ _⟩)
                    refine Obls.cons ?_ ?_
                    · intro wD E sD -- 53
                      intro x_ hx_; have hx_ : x_ = _ := hx_; subst x_
                      intro x_ hx_; have hx_ : x_ = _ := hx_; subst x_
                      intro x_ hx_; have hx_ : x_ = _ := hx_; subst x_
                      exact Rg.gno rfl rfl rfl rfl (Rg.nil ⟨rfl, rfl, _, rfl, rfl, Step.refl _ _⟩)
                    refine Obls.cons ?_ ?_
                    · intro wD E sD -- 54
                      intro x_ hx_; have hx_ : x_ = _ := hx_; subst x_
                      intro x_ hx_; have hx_ : x_ = _ := hx_; subst x_
                      exact Rg.gno rfl rfl rfl rfl (Rg.nil ⟨rfl, rfl, _, rfl, rfl, Step.refl _ _⟩)
                    refine Obls.cons ?_ ?_
                    · intro wD E sD -- 55
                      intro x_ hx_; have hx_ : x_ = _ := hx_; subst x_
                      intro x_ hx_; have hx_ : x_ = _ := hx_; subst x_
                      exact Rg.gno rfl rfl rfl rfl (Rg.nil ⟨rfl, rfl, _, rfl, rfl, Step.refl _ _⟩)
                    refine Obls.cons ?_ ?_
                    · intro wD E sD -- 56
                      intro x_ hx_; have hx_ : x_ = _ := hx_; subst x_
                      intro x_ hx_; have hx_ : x_ = _ := hx_; subst x_
                      exact Rg.gno rfl rfl rfl rfl (Rg.nil ⟨rfl, rfl, _, rfl, rfl, Step.refl _ _⟩)
                    refine Obls.cons ?_ ?_
                    · intro wD E sD -- 57
                      intro x_ hx_; have hx_ : x_ = _ := hx_; subst x_
                      intro x_ hx_; have hx_ : x_ = _ := hx_; subst x_
                      exact Rg.gno rfl rfl rfl rfl (Rg.nil ⟨rfl, rfl, _, rfl, rfl, Step.refl _ _⟩)
                    refine Obls.cons ?_ ?_
                    · intro wD E sD -- 58
                      intro x_ hx_; have hx_ : x_ = _ := hx_; subst x_
                      intro x_ hx_; have hx_ : x_ = _ := hx_; subst x_
                      intro x_ hx_; have hx_ : x_ = _ := hx_; subst x_
                      exact Rg.gno rfl rfl rfl rfl (Rg.nil ⟨rfl, rfl, _, rfl, rfl, Step.refl _ _⟩)
                    refine Obls.cons ?_ ?_
                    · intro wD E sD -- 59
                      intro x_ hx_; have hx_ : x_ = _ := hx_; subst x_
                      intro x_ hx_; have hx_ : x_ = _ := hx_; subst x_
                      exact Rg.gno rfl rfl rfl rfl (Rg.nil ⟨rfl, rfl, _, rfl, rfl, Step.refl _ _⟩)
                    refine Obls.cons ?_ ?_
                    · intro wD E sD -- 60
                      intro x_ hx_; have hx_ : x_ = _ := hx_; subst x_
                      intro x_ hx_; have hx_ : x_ = _ := hx_; subst x_
                      exact Rg.gno rfl rfl rfl rfl (Rg.nil ⟨rfl, rfl, _, rfl, rfl, Step.refl _ _⟩)
                    refine Obls.cons ?_ ?_
                    · intro wD E sD -- 61
                      intro x_ hx_; have hx_ : x_ = _ := hx_; subst x_
                      intro x_ hx_; have hx_ : x_ = _ := hx_; subst x_
                      refine Rg.pickt rfl rfl rfl ?_
                      exact Rg.nil ⟨rfl, rfl, _, rfl, rfl, Step.refl _ _⟩
                    exact Obls.nil
                  · -- behind it
                    intro wD5 sD5
                    intro x_ hx_; have hx_ : x_ = _ := hx_; subst x_
                    intro x_ hx_; have hx_ : x_ = _ := hx_; subst x_
                    intro v5_2 hv5_2
                    intro v5_3 hv5_3
                    intro x_ hx_; have hx_ : x_ = _ := hx_; subst x_
                    intro x_ hx_; have hx_ : x_ = _ := hx_; subst x_
                    intro x_ hx_; have hx_ : x_ = _ := hx_; subst x_
                    intro x_ hx_; have hx_ : x_ = _ := hx_; subst x_
                    intro x_ hx_; have hx_ : x_ = _ := hx_; subst x_
                    intro v5_9 hv5_9
                    intro v5_10 hv5_10
                    intro x_ hx_; have hx_ : x_ = _ := hx_; subst x_
                    intro x_ hx_; have hx_ : x_ = _ := hx_; subst x_
                    intro x_ hx_; have hx_ : x_ = _ := hx_; subst x_
                    intro x_ hx_; have hx_ : x_ = _ := hx_; subst x_
                    intro x_ hx_; have hx_ : x_ = _ := hx_; subst x_
                    intro x_ hx_; have hx_ : x_ = _ := hx_; subst x_
                    intro x_ hx_; have hx_ : x_ = _ := hx_; subst x_
                    intro x_ hx_; have hx_ : x_ = _ := hx_; subst x_
                    intro x_ hx_; have hx_ : x_ = _ := hx_; subst x_
                    intro v5_20 hv5_20
                    intro v5_21 hv5_21
                    intro x_ hx_; have hx_ : x_ = _ := hx_; subst x_
                    intro x_ hx_; have hx_ : x_ = _ := hx_; subst x_
                    intro x_ hx_; have hx_ : x_ = _ := hx_; subst x_
                    intro x_ hx_; have hx_ : x_ = _ := hx_; subst x_
                    intro v5_26 hv5_26
                    intro v5_27 hv5_27
                    intro x_ hx_; have hx_ : x_ = _ := hx_; subst x_
                    intro x_ hx_; have hx_ : x_ = _ := hx_; subst x_
                    intro x_ hx_; have hx_ : x_ = _ := hx_; subst x_
                    intro x_ hx_; have hx_ : x_ = _ := hx_; subst x_
                    intro x_ hx_; have hx_ : x_ = _ := hx_; subst x_
                    intro x_ hx_; have hx_ : x_ = _ := hx_; subst x_
                    intro x_ hx_; have hx_ : x_ = _ := hx_; subst x_
                    intro v5_35 hv5_35
                    intro v5_36 hv5_36
                    intro v5_37 hv5_37
                    intro x_ hx_; have hx_ : x_ = _ := hx_; subst x_
                    intro x_ hx_; have hx_ : x_ = _ := hx_; subst x_
                    intro x_ hx_; have hx_ : x_ = _ := hx_; subst x_
                    intro x_ hx_; have hx_ : x_ = _ := hx_; subst x_
                    intro x_ hx_; have hx_ : x_ = _ := hx_; subst x_
                    intro x_ hx_; have hx_ : x_ = _ := hx_; subst x_
                    intro x_ hx_; have hx_ : x_ = _ := hx_; subst x_
                    intro x_ hx_; have hx_ : x_ = _ := hx_; subst x_
                    intro x_ hx_; have hx_ : x_ = _ := hx_; subst x_
                    intro x_ hx_; have hx_ : x_ = _ := hx_; subst x_
                    intro x_ hx_; have hx_ : x_ = _ := hx_; subst x_
                    intro x_ hx_; have hx_ : x_ = _ := hx_; subst x_
                    intro x_ hx_; have hx_ : x_ = _ := hx_; subst x_
                    intro x_ hx_; have hx_ : x_ = _ := hx_; subst x_
                    intro x_ hx_; have hx_ : x_ = _ := hx_; subst x_
                    intro x_ hx_; have hx_ : x_ = _ := hx_; subst x_
                    intro x_ hx_; have hx_ : x_ = _ := hx_; subst x_
                    intro x_ hx_; have hx_ : x_ = _ := hx_; subst x_
                    intro x_ hx_; have hx_ : x_ = _ := hx_; subst x_
                    intro x_ hx_; have hx_ : x_ = _ := hx_; subst x_
                    intro x_ hx_; have hx_ : x_ = _ := hx_; subst x_
                    intro x_ hx_; have hx_ : x_ = _ := hx_; subst x_
                    intro x_ hx_; have hx_ : x_ = _ := hx_; subst x_
                    intro x_ hx_; have hx_ : x_ = _ := hx_; subst x_
                    refine T.ift rfl ?_
                    refine T.seq ?_
                    refine T.region ?_ -- region 6
                    refine Rg.assign rfl rfl ?_
                    refine Rg.nil ?_
                    refine T.ret ?_
                    refine Kret1 rfl rfl ⟨congrArg Value.bool (Eq.symm ?_), S4.trans0 sD5⟩
                    rw [hr, mayPo_drop hx]
                    first
                    | (rw [decide_eq_false (show ¬ last < d by omega)]; simp; done)
                    | (rw [decide_eq_false (show ¬ d < 2147483648 by omega)]; simp; done)
                    | (rw [show ps = [] from List.length_eq_zero_iff.1 (by omega)]; simp; done)
                    | (rw [show risesB ps = false from by unfold risesB; simp only [g5_45, Bool.false_and]]; simp; done)
                    | (rw [show risesB ps = false from by unfold risesB; rw [Bool.not_eq_true] at g5_45; rw [g5_45]; rfl]; simp; done)
                    | (rw [hrl, decide_eq_false (show ¬ y < 2147483648 by omega)]; simp; done)
                · -- g5_45 False
                  obtain ⟨y, hy⟩ : ∃ y, ps[ps.length - 1]? = some y := ⟨_, List.getElem?_eq_getElem (by omega)⟩
                  have hrl := risesB_last (Decidable.not_not.1 g5_45) hy
                  apply T.draw (M := M) mixed [Asr.eq _, Asr.eq _, Asr.ptr (RT.po) (d, ps), Asr.ptr (RT.int .i64) d, Asr.eq (.int .i64 d), Asr.eq _, Asr.eq (.bool false), Asr.eq _, Asr.eq _, Asr.ptr (RT.po) (d, ps), Asr.ptr (RT.int .i64) d, Asr.eq (.int .i64 d), Asr.eq _, Asr.eq _, Asr.eq (.bool false), Asr.eq _, Asr.eq _, Asr.eq (.bool true), Asr.eq _, Asr.eq _, Asr.ptr (RT.po) (d, ps), Asr.ptr (RT.int .i64) d, Asr.eq (.int .i64 d), Asr.eq _, Asr.eq _, Asr.eq _, Asr.ptr (RT.po) (last, pl), Asr.ptr (RT.int .i64) last, Asr.eq (.int .i64 last), Asr.eq _, Asr.eq _, Asr.eq _, Asr.eq (.bool false), Asr.eq _, Asr.eq _, Asr.ptr (RT.po) (d, ps), Asr.ptr ((RT.int .i64).sl) ps, Asr.V ((RT.int .i64).sl) ps, Asr.eq _, Asr.eq _, Asr.eq _, Asr.eq (.bool false), Asr.eq _, Asr.eq _, Asr.eq _, Asr.eq (.bool false), Asr.eq _, Asr.eq _, Asr.ptr (RT.po) (d, ps), Asr.ptr ((RT.int .i64).sl) ps, Asr.V ((RT.int .i64).sl) ps, Asr.eq _, Asr.eq _, Asr.ptr (RT.po) (d, ps), Asr.ptr ((RT.int .i64).sl) ps, Asr.V ((RT.int .i64).sl) ps, Asr.eq _, Asr.eq _, Asr.ptr (RT.int .i64) y, Asr.eq (.int .i64 y), Asr.eq _, Asr.eq _] -- region 5
                  · rfl
                  · -- its operations
                    refine Obls.cons ?_ ?_
                    · intro wD E sD -- 0
                      refine Rg.move rfl rfl ?_
                      exact Rg.nil ⟨rfl, rfl, _, rfl, rfl, Step.refl _ _⟩
                    refine Obls.cons ?_ ?_
                    · intro wD E sD -- 1
                      refine Rg.move rfl rfl ?_
                      exact Rg.nil ⟨rfl, rfl, _, rfl, rfl, Step.refl _ _⟩
                    refine Obls.cons ?_ ?_
                    · intro wD E sD -- 2
                      intro x_ hx_; have hx_ : x_ = _ := hx_; subst x_
                      intro x_ hx_; have hx_ : x_ = _ := hx_; subst x_
                      refine Rg.idx (M := M) Try.underlying28 I37 rfl rfl rfl (hvM.le sD.le) (Le.refl _ _) (by omega) (fun ui ai hgi hui => ?_)
                      obtain rfl : (d, ps) = ai := Eq.symm (Option.some.inj (hgi.symm.trans (by simpa using hx)))
                      exact Rg.nil ⟨rfl, rfl, _, rfl, hui, Step.refl _ _⟩
                    refine Obls.cons ?_ ?_
                    · intro wD E sD -- 3
                      intro v2 hv2
                      refine Rg.fieldAddr (M := M) (A := RT.po) (B := RT.int .i64) Try.underlying37 rfl rfl I3 (by decide) (po0) rfl rfl (by decide) (show PtrTo (RT.po) M wD v2 (d, ps) from hv2) (Le.refl _ _) (fun uf huf => ?_)
                      exact Rg.nil ⟨rfl, rfl, _, rfl, huf, Step.refl _ _⟩
                    refine Obls.cons ?_ ?_
                    · intro wD E sD -- 4
                      intro v3 hv3
                      refine Rg.loadi64 (M := M) Try.underlying3 rfl rfl (show PtrTo (RT.int .i64) M wD v3 d from hv3) (Le.refl _ _) (fun hin => ?_)
                      exact Rg.nil ⟨rfl, rfl, _, rfl, rfl, Step.refl _ _⟩
                    refine Obls.cons ?_ ?_
                    · intro wD E sD -- 5
                      intro x_ hx_; have hx_ : x_ = _ := hx_; subst x_
                      refine Rg.ilt rfl rfl rfl ?_
                      exact Rg.nil ⟨rfl, rfl, _, rfl, rfl, Step.refl _ _⟩
                    refine Obls.cons ?_ ?_
                    · intro wD E sD -- 6
                      intro x_ hx_; have hx_ : x_ = _ := hx_; subst x_
                      refine Rg.move rfl rfl ?_
                      refine Rg.nil ⟨rfl, rfl, _, rfl, ?_, Step.refl _ _⟩
                      exact congrArg Value.bool (decide_eq_false g5_6)
                    refine Obls.cons ?_ ?_
                    · intro wD E sD -- 7
                      intro x_ hx_; have hx_ : x_ = _ := hx_; subst x_
                      refine Rg.gyes rfl rfl ?_
                      refine Rg.move rfl rfl ?_
                      exact Rg.nil ⟨rfl, rfl, _, rfl, rfl, Step.refl _ _⟩
                    refine Obls.cons ?_ ?_
                    · intro wD E sD -- 8
                      intro x_ hx_; have hx_ : x_ = _ := hx_; subst x_
                      refine Rg.gyes rfl rfl ?_
                      refine Rg.move rfl rfl ?_
                      exact Rg.nil ⟨rfl, rfl, _, rfl, rfl, Step.refl _ _⟩
                    refine Obls.cons ?_ ?_
                    · intro wD E sD -- 9
                      intro x_ hx_; have hx_ : x_ = _ := hx_; subst x_
                      intro x_ hx_; have hx_ : x_ = _ := hx_; subst x_
                      intro x_ hx_; have hx_ : x_ = _ := hx_; subst x_
                      refine Rg.gyes rfl rfl ?_
                      refine Rg.idx (M := M) Try.underlying28 I37 rfl rfl rfl (hvM.le sD.le) (Le.refl _ _) (by omega) (fun ui ai hgi hui => ?_)
                      obtain rfl : (d, ps) = ai := Eq.symm (Option.some.inj (hgi.symm.trans (by simpa using hx)))
                      exact Rg.nil ⟨rfl, rfl, _, rfl, hui, Step.refl _ _⟩
                    refine Obls.cons ?_ ?_
                    · intro wD E sD -- 10
                      intro v9 hv9
                      intro x_ hx_; have hx_ : x_ = _ := hx_; subst x_
                      refine Rg.gyes rfl rfl ?_
                      refine Rg.fieldAddr (M := M) (A := RT.po) (B := RT.int .i64) Try.underlying37 rfl rfl I3 (by decide) (po0) rfl rfl (by decide) (show PtrTo (RT.po) M wD v9 (d, ps) from hv9) (Le.refl _ _) (fun uf huf => ?_)
                      exact Rg.nil ⟨rfl, rfl, _, rfl, huf, Step.refl _ _⟩
                    refine Obls.cons ?_ ?_
                    · intro wD E sD -- 11
                      intro v10 hv10
                      intro x_ hx_; have hx_ : x_ = _ := hx_; subst x_
                      refine Rg.gyes rfl rfl ?_
                      refine Rg.loadi64 (M := M) Try.underlying3 rfl rfl (show PtrTo (RT.int .i64) M wD v10 d from hv10) (Le.refl _ _) (fun hin => ?_)
                      exact Rg.nil ⟨rfl, rfl, _, rfl, rfl, Step.refl _ _⟩
                    refine Obls.cons ?_ ?_
                    · intro wD E sD -- 12
                      intro x_ hx_; have hx_ : x_ = _ := hx_; subst x_
                      intro x_ hx_; have hx_ : x_ = _ := hx_; subst x_
                      refine Rg.gyes rfl rfl ?_
                      refine Rg.ige rfl rfl rfl ?_
                      exact Rg.nil ⟨rfl, rfl, _, rfl, rfl, Step.refl _ _⟩
                    refine Obls.cons ?_ ?_
                    · intro wD E sD -- 13
                      intro x_ hx_; have hx_ : x_ = _ := hx_; subst x_
                      intro x_ hx_; have hx_ : x_ = _ := hx_; subst x_
                      refine Rg.pickf rfl rfl rfl ?_
                      exact Rg.nil ⟨rfl, rfl, _, rfl, rfl, Step.refl _ _⟩
                    refine Obls.cons ?_ ?_
                    · intro wD E sD -- 14
                      intro x_ hx_; have hx_ : x_ = _ := hx_; subst x_
                      intro x_ hx_; have hx_ : x_ = _ := hx_; subst x_
                      refine Rg.move rfl rfl ?_
                      refine Rg.nil ⟨rfl, rfl, _, rfl, ?_, Step.refl _ _⟩
                      exact congrArg Value.bool (decide_eq_false g5_14)
                    refine Obls.cons ?_ ?_
                    · intro wD E sD -- 15
                      intro x_ hx_; have hx_ : x_ = _ := hx_; subst x_
                      refine Rg.gyes rfl rfl ?_
                      refine Rg.move rfl rfl ?_
                      exact Rg.nil ⟨rfl, rfl, _, rfl, rfl, Step.refl _ _⟩
                    refine Obls.cons ?_ ?_
                    · intro wD E sD -- 16
                      intro x_ hx_; have hx_ : x_ = _ := hx_; subst x_
                      intro x_ hx_; have hx_ : x_ = _ := hx_; subst x_
                      refine Rg.gyes rfl rfl ?_
                      refine Rg.igt rfl rfl rfl ?_
                      exact Rg.nil ⟨rfl, rfl, _, rfl, rfl, Step.refl _ _⟩
                    refine Obls.cons ?_ ?_
                    · intro wD E sD -- 17
                      intro x_ hx_; have hx_ : x_ = _ := hx_; subst x_
                      intro x_ hx_; have hx_ : x_ = _ := hx_; subst x_
                      intro x_ hx_; have hx_ : x_ = _ := hx_; subst x_
                      refine Rg.gyes rfl rfl ?_
                      refine Rg.move rfl rfl ?_
                      refine Rg.nil ⟨rfl, rfl, _, rfl, ?_, Step.refl _ _⟩
                      exact congrArg Value.bool (decide_eq_true g5_17)
                    refine Obls.cons ?_ ?_
                    · intro wD E sD -- 18
                      intro x_ hx_; have hx_ : x_ = _ := hx_; subst x_
                      refine Rg.gyes rfl rfl ?_
                      refine Rg.move rfl rfl ?_
                      exact Rg.nil ⟨rfl, rfl, _, rfl, rfl, Step.refl _ _⟩
                    refine Obls.cons ?_ ?_
                    · intro wD E sD -- 19
                      intro x_ hx_; have hx_ : x_ = _ := hx_; subst x_
                      refine Rg.gyes rfl rfl ?_
                      refine Rg.move rfl rfl ?_
                      exact Rg.nil ⟨rfl, rfl, _, rfl, rfl, Step.refl _ _⟩
                    refine Obls.cons ?_ ?_
                    · intro wD E sD -- 20
                      intro x_ hx_; have hx_ : x_ = _ := hx_; subst x_
                      intro x_ hx_; have hx_ : x_ = _ := hx_; subst x_
                      intro x_ hx_; have hx_ : x_ = _ := hx_; subst x_
                      refine Rg.gyes rfl rfl ?_
                      refine Rg.idx (M := M) Try.underlying28 I37 rfl rfl rfl (hvM.le sD.le) (Le.refl _ _) (by omega) (fun ui ai hgi hui => ?_)
                      obtain rfl : (d, ps) = ai := Eq.symm (Option.some.inj (hgi.symm.trans (by simpa using hx)))
                      exact Rg.nil ⟨rfl, rfl, _, rfl, hui, Step.refl _ _⟩
                    refine Obls.cons ?_ ?_
                    · intro wD E sD -- 21
                      intro v20 hv20
                      intro x_ hx_; have hx_ : x_ = _ := hx_; subst x_
                      refine Rg.gyes rfl rfl ?_
                      refine Rg.fieldAddr (M := M) (A := RT.po) (B := RT.int .i64) Try.underlying37 rfl rfl I3 (by decide) (po0) rfl rfl (by decide) (show PtrTo (RT.po) M wD v20 (d, ps) from hv20) (Le.refl _ _) (fun uf huf => ?_)
                      exact Rg.nil ⟨rfl, rfl, _, rfl, huf, Step.refl _ _⟩
                    refine Obls.cons ?_ ?_
                    · intro wD E sD -- 22
                      intro v21 hv21
                      intro x_ hx_; have hx_ : x_ = _ := hx_; subst x_
                      refine Rg.gyes rfl rfl ?_
                      refine Rg.loadi64 (M := M) Try.underlying3 rfl rfl (show PtrTo (RT.int .i64) M wD v21 d from hv21) (Le.refl _ _) (fun hin => ?_)
                      exact Rg.nil ⟨rfl, rfl, _, rfl, rfl, Step.refl _ _⟩
                    refine Obls.cons ?_ ?_
                    · intro wD E sD -- 23
                      intro x_ hx_; have hx_ : x_ = _ := hx_; subst x_
                      refine Rg.gyes rfl rfl ?_
                      refine Rg.move rfl rfl ?_
                      exact Rg.nil ⟨rfl, rfl, _, rfl, rfl, Step.refl _ _⟩
                    refine Obls.cons ?_ ?_
                    · intro wD E sD -- 24
                      intro x_ hx_; have hx_ : x_ = _ := hx_; subst x_
                      refine Rg.gyes rfl rfl ?_
                      refine Rg.move rfl rfl ?_
                      exact Rg.nil ⟨rfl, rfl, _, rfl, rfl, Step.refl _ _⟩
                    refine Obls.cons ?_ ?_
                    · intro wD E sD -- 25
                      intro x_ hx_; have hx_ : x_ = _ := hx_; subst x_
                      intro x_ hx_; have hx_ : x_ = _ := hx_; subst x_
                      refine Rg.gyes rfl rfl ?_
                      refine Rg.isub rfl rfl rfl (by omega) ?_
                      exact Rg.nil ⟨rfl, rfl, _, rfl, rfl, Step.refl _ _⟩
                    refine Obls.cons ?_ ?_
                    · intro wD E sD -- 26
                      intro x_ hx_; have hx_ : x_ = _ := hx_; subst x_
                      intro x_ hx_; have hx_ : x_ = _ := hx_; subst x_
                      intro x_ hx_; have hx_ : x_ = _ := hx_; subst x_
                      refine Rg.gyes rfl rfl ?_
                      refine Rg.idx (M := M) Try.underlying28 I37 rfl rfl rfl (hvM.le sD.le) (Le.refl _ _) (by omega) (fun ui ai hgi hui => ?_)
                      obtain rfl : (last, pl) = ai := Eq.symm (Option.some.inj (hgi.symm.trans (by rw [show ((k : Int) - 1).toNat = k - 1 from by omega]; exact h1 (by omega))))
                      exact Rg.nil ⟨rfl, rfl, _, rfl, hui, Step.refl _ _⟩
                    refine Obls.cons ?_ ?_
                    · intro wD E sD -- 27
                      intro v26 hv26
                      intro x_ hx_; have hx_ : x_ = _ := hx_; subst x_
                      refine Rg.gyes rfl rfl ?_
                      refine Rg.fieldAddr (M := M) (A := RT.po) (B := RT.int .i64) Try.underlying37 rfl rfl I3 (by decide) (po0) rfl rfl (by decide) (show PtrTo (RT.po) M wD v26 (last, pl) from hv26) (Le.refl _ _) (fun uf huf => ?_)
                      exact Rg.nil ⟨rfl, rfl, _, rfl, huf, Step.refl _ _⟩
                    refine Obls.cons ?_ ?_
                    · intro wD E sD -- 28
                      intro v27 hv27
                      intro x_ hx_; have hx_ : x_ = _ := hx_; subst x_
                      refine Rg.gyes rfl rfl ?_
                      refine Rg.loadi64 (M := M) Try.underlying3 rfl rfl (show PtrTo (RT.int .i64) M wD v27 last from hv27) (Le.refl _ _) (fun hin => ?_)
                      exact Rg.nil ⟨rfl, rfl, _, rfl, rfl, Step.refl _ _⟩
                    refine Obls.cons ?_ ?_
                    · intro wD E sD -- 29
                      intro x_ hx_; have hx_ : x_ = _ := hx_; subst x_
                      intro x_ hx_; have hx_ : x_ = _ := hx_; subst x_
                      intro x_ hx_; have hx_ : x_ = _ := hx_; subst x_
                      refine Rg.gyes rfl rfl ?_
                      refine Rg.ile rfl rfl rfl ?_
                      exact Rg.nil ⟨rfl, rfl, _, rfl, rfl, Step.refl _ _⟩
                    refine Obls.cons ?_ ?_
                    · intro wD E sD -- 30
                      intro x_ hx_; have hx_ : x_ = _ := hx_; subst x_
                      intro x_ hx_; have hx_ : x_ = _ := hx_; subst x_
                      intro x_ hx_; have hx_ : x_ = _ := hx_; subst x_
                      refine Rg.gyes rfl rfl ?_
                      refine Rg.pickt rfl rfl rfl ?_
                      exact Rg.nil ⟨rfl, rfl, _, rfl, rfl, Step.refl _ _⟩
                    refine Obls.cons ?_ ?_
                    · intro wD E sD -- 31
                      intro x_ hx_; have hx_ : x_ = _ := hx_; subst x_
                      intro x_ hx_; have hx_ : x_ = _ := hx_; subst x_
                      refine Rg.pickf rfl rfl rfl ?_
                      exact Rg.nil ⟨rfl, rfl, _, rfl, rfl, Step.refl _ _⟩
                    refine Obls.cons ?_ ?_
                    · intro wD E sD -- 32
                      intro x_ hx_; have hx_ : x_ = _ := hx_; subst x_
                      intro x_ hx_; have hx_ : x_ = _ := hx_; subst x_
                      refine Rg.move rfl rfl ?_
                      refine Rg.nil ⟨rfl, rfl, _, rfl, ?_, Step.refl _ _⟩
                      exact congrArg Value.bool (decide_eq_false g5_32)
                    refine Obls.cons ?_ ?_
                    · intro wD E sD -- 33
                      intro x_ hx_; have hx_ : x_ = _ := hx_; subst x_
                      refine Rg.gyes rfl rfl ?_
                      refine Rg.move rfl rfl ?_
                      exact Rg.nil ⟨rfl, rfl, _, rfl, rfl, Step.refl _ _⟩
                    refine Obls.cons ?_ ?_
                    · intro wD E sD -- 34
                      intro x_ hx_; have hx_ : x_ = _ := hx_; subst x_
                      refine Rg.gyes rfl rfl ?_
                      refine Rg.move rfl rfl ?_
                      exact Rg.nil ⟨rfl, rfl, _, rfl, rfl, Step.refl _ _⟩
                    refine Obls.cons ?_ ?_
                    · intro wD E sD -- 35
                      intro x_ hx_; have hx_ : x_ = _ := hx_; subst x_
                      intro x_ hx_; have hx_ : x_ = _ := hx_; subst x_
                      intro x_ hx_; have hx_ : x_ = _ := hx_; subst x_
                      refine Rg.gyes rfl rfl ?_
                      refine Rg.idx (M := M) Try.underlying28 I37 rfl rfl rfl (hvM.le sD.le) (Le.refl _ _) (by omega) (fun ui ai hgi hui => ?_)
                      obtain rfl : (d, ps) = ai := Eq.symm (Option.some.inj (hgi.symm.trans (by simpa using hx)))
                      exact Rg.nil ⟨rfl, rfl, _, rfl, hui, Step.refl _ _⟩
                    refine Obls.cons ?_ ?_
                    · intro wD E sD -- 36
                      intro v35 hv35
                      intro x_ hx_; have hx_ : x_ = _ := hx_; subst x_
                      refine Rg.gyes rfl rfl ?_
                      refine Rg.fieldAddr (M := M) (A := RT.po) (B := (RT.int .i64).sl) Try.underlying37 rfl rfl I23 (by decide) (po1) rfl rfl (by decide) (show PtrTo (RT.po) M wD v35 (d, ps) from hv35) (Le.refl _ _) (fun uf huf => ?_)
                      exact Rg.nil ⟨rfl, rfl, _, rfl, huf, Step.refl _ _⟩
                    refine Obls.cons ?_ ?_
                    · intro wD E sD -- 37
                      intro v36 hv36
                      intro x_ hx_; have hx_ : x_ = _ := hx_; subst x_
                      refine Rg.gyes rfl rfl ?_
                      refine Rg.load (M := M) Try.underlying23 rfl rfl rfl rfl rfl (show PtrTo ((RT.int .i64).sl) M wD v36 ps from hv36) (Le.refl _ _) (fun va hva => ?_)
                      exact Rg.nil ⟨rfl, rfl, _, rfl, hva, Step.refl _ _⟩
                    refine Obls.cons ?_ ?_
                    · intro wD E sD -- 38
                      intro v37 hv37
                      intro x_ hx_; have hx_ : x_ = _ := hx_; subst x_
                      refine Rg.gyes rfl rfl ?_
                      refine Rg.lensl Try.underlying23 rfl (show ((RT.int .i64).sl).V M wD ps v37 from hv37) rfl ?_
                      exact Rg.nil ⟨rfl, rfl, _, rfl, rfl, Step.refl _ _⟩
                    refine Obls.cons ?_ ?_
                    · intro wD E sD -- 39
                      intro x_ hx_; have hx_ : x_ = _ := hx_; subst x_
                      intro x_ hx_; have hx_ : x_ = _ := hx_; subst x_
                      refine Rg.gyes rfl rfl ?_
                      refine Rg.ieq rfl rfl rfl ?_
                      exact Rg.nil ⟨rfl, rfl, _, rfl, rfl, Step.refl _ _⟩
                    refine Obls.cons ?_ ?_
                    · intro wD E sD -- 40
                      intro x_ hx_; have hx_ : x_ = _ := hx_; subst x_
                      intro x_ hx_; have hx_ : x_ = _ := hx_; subst x_
                      refine Rg.pickf rfl rfl rfl ?_
                      exact Rg.nil ⟨rfl, rfl, _, rfl, rfl, Step.refl _ _⟩
                    refine Obls.cons ?_ ?_
                    · intro wD E sD -- 41
                      intro x_ hx_; have hx_ : x_ = _ := hx_; subst x_
                      intro x_ hx_; have hx_ : x_ = _ := hx_; subst x_
                      refine Rg.move rfl rfl ?_
                      refine Rg.nil ⟨rfl, rfl, _, rfl, ?_, Step.refl _ _⟩
                      exact congrArg Value.bool (decide_eq_false g5_41)
                    refine Obls.cons ?_ ?_
                    · intro wD E sD -- 42
                      intro x_ hx_; have hx_ : x_ = _ := hx_; subst x_
                      refine Rg.gyes rfl rfl ?_
                      refine Rg.move rfl rfl ?_
                      exact Rg.nil ⟨rfl, rfl, _, rfl, rfl, Step.refl _ _⟩
                    refine Obls.cons ?_ ?_
                    · intro wD E sD -- 43
                      intro x_ hx_; have hx_ : x_ = _ := hx_; subst x_
                      intro x_ hx_; have hx_ : x_ = _ := hx_; subst x_
                      refine Rg.gyes rfl rfl ?_
                      refine Rg.not rfl rfl ?_
                      refine Rg.eqv (v' := .bool (decide (¬ rises (-1) ps = true))) (by simp) ?_
                      exact Rg.nil ⟨rfl, rfl, _, rfl, rfl, Step.refl _ _⟩
                    refine Obls.cons ?_ ?_
                    · intro wD E sD -- 44
                      intro x_ hx_; have hx_ : x_ = _ := hx_; subst x_
                      intro x_ hx_; have hx_ : x_ = _ := hx_; subst x_
                      refine Rg.pickf rfl rfl rfl ?_
                      exact Rg.nil ⟨rfl, rfl, _, rfl, rfl, Step.refl _ _⟩
                    refine Obls.cons ?_ ?_
                    · intro wD E sD -- 45
                      intro x_ hx_; have hx_ : x_ = _ := hx_; subst x_
                      intro x_ hx_; have hx_ : x_ = _ := hx_; subst x_
                      refine Rg.move rfl rfl ?_
                      refine Rg.nil ⟨rfl, rfl, _, rfl, ?_, Step.refl _ _⟩
                      exact congrArg Value.bool (decide_eq_false g5_45)
                    refine Obls.cons ?_ ?_
                    · intro wD E sD -- 46
                      intro x_ hx_; have hx_ : x_ = _ := hx_; subst x_
                      refine Rg.gyes rfl rfl ?_
                      refine Rg.move rfl rfl ?_
                      exact Rg.nil ⟨rfl, rfl, _, rfl, rfl, Step.refl _ _⟩
                    refine Obls.cons ?_ ?_
                    · intro wD E sD -- 47
                      intro x_ hx_; have hx_ : x_ = _ := hx_; subst x_
                      refine Rg.gyes rfl rfl ?_
                      refine Rg.move rfl rfl ?_
                      exact Rg.nil ⟨rfl, rfl, _, rfl, rfl, Step.refl _ _⟩
                    refine Obls.cons ?_ ?_
                    · intro wD E sD -- 48
                      intro x_ hx_; have hx_ : x_ = _ := hx_; subst x_
                      intro x_ hx_; have hx_ : x_ = _ := hx_; subst x_
                      intro x_ hx_; have hx_ : x_ = _ := hx_; subst x_
                      refine Rg.gyes rfl rfl ?_
                      refine Rg.idx (M := M) Try.underlying28 I37 rfl rfl rfl (hvM.le sD.le) (Le.refl _ _) (by omega) (fun ui ai hgi hui => ?_)
                      obtain rfl : (d, ps) = ai := Eq.symm (Option.some.inj (hgi.symm.trans (by simpa using hx)))
                      exact Rg.nil ⟨rfl, rfl, _, rfl, hui, Step.refl _ _⟩
                    refine Obls.cons ?_ ?_
                    · intro wD E sD -- 49
                      intro v48 hv48
                      intro x_ hx_; have hx_ : x_ = _ := hx_; subst x_
                      refine Rg.gyes rfl rfl ?_
                      refine Rg.fieldAddr (M := M) (A := RT.po) (B := (RT.int .i64).sl) Try.underlying37 rfl rfl I23 (by decide) (po1) rfl rfl (by decide) (show PtrTo (RT.po) M wD v48 (d, ps) from hv48) (Le.refl _ _) (fun uf huf => ?_)
                      exact Rg.nil ⟨rfl, rfl, _, rfl, huf, Step.refl _ _⟩
                    refine Obls.cons ?_ ?_
                    · intro wD E sD -- 50
                      intro v49 hv49
                      intro x_ hx_; have hx_ : x_ = _ := hx_; subst x_
                      refine Rg.gyes rfl rfl ?_
                      refine Rg.load (M := M) Try.underlying23 rfl rfl rfl rfl rfl (show PtrTo ((RT.int .i64).sl) M wD v49 ps from hv49) (Le.refl _ _) (fun va hva => ?_)
                      exact Rg.nil ⟨rfl, rfl, _, rfl, hva, Step.refl _ _⟩
                    refine Obls.cons ?_ ?_
                    · intro wD E sD -- 51
                      intro x_ hx_; have hx_ : x_ = _ := hx_; subst x_
                      refine Rg.gyes rfl rfl ?_
                      refine Rg.move rfl rfl ?_
                      exact Rg.nil ⟨rfl, rfl, _, rfl, rfl, Step.refl _ _⟩
                    refine Obls.cons ?_ ?_
                    · intro wD E sD -- 52
                      intro x_ hx_; have hx_ : x_ = _ := hx_; subst x_
                      refine Rg.gyes rfl rfl ?_
                      refine Rg.move rfl rfl ?_
                      exact Rg.nil ⟨rfl, rfl, _, rfl, rfl, Step.refl _ _⟩
                    refine Obls.cons ?_ ?_
                    · intro wD E sD -- 53
                      intro x_ hx_; have hx_ : x_ = _ := hx_; subst x_
                      intro x_ hx_; have hx_ : x_ = _ := hx_; subst x_
                      intro x_ hx_; have hx_ : x_ = _ := hx_; subst x_
                      refine Rg.gyes rfl rfl ?_
                      refine Rg.idx (M := M) Try.underlying28 I37 rfl rfl rfl (hvM.le sD.le) (Le.refl _ _) (by omega) (fun ui ai hgi hui => ?_)
                      obtain rfl : (d, ps) = ai := Eq.symm (Option.some.inj (hgi.symm.trans (by simpa using hx)))
                      exact Rg.nil ⟨rfl, rfl, _, rfl, hui, Step.refl _ _⟩
                    refine Obls.cons ?_ ?_
                    · intro wD E sD -- 54
                      intro v53 hv53
                      intro x_ hx_; have hx_ : x_ = _ := hx_; subst x_
                      refine Rg.gyes rfl rfl ?_
                      refine Rg.fieldAddr (M := M) (A := RT.po) (B := (RT.int .i64).sl) Try.underlying37 rfl rfl I23 (by decide) (po1) rfl rfl (by decide) (show PtrTo (RT.po) M wD v53 (d, ps) from hv53) (Le.refl _ _) (fun uf huf => ?_)
                      exact Rg.nil ⟨rfl, rfl, _, rfl, huf, Step.refl _ _⟩
                    refine Obls.cons ?_ ?_
                    · intro wD E sD -- 55
                      intro v54 hv54
                      intro x_ hx_; have hx_ : x_ = _ := hx_; subst x_
                      refine Rg.gyes rfl rfl ?_
                      refine Rg.load (M := M) Try.underlying23 rfl rfl rfl rfl rfl (show PtrTo ((RT.int .i64).sl) M wD v54 ps from hv54) (Le.refl _ _) (fun va hva => ?_)
                      exact Rg.nil ⟨rfl, rfl, _, rfl, hva, Step.refl _ _⟩
                    refine Obls.cons ?_ ?_
                    · intro wD E sD -- 56
                      intro v55 hv55
                      intro x_ hx_; have hx_ : x_ = _ := hx_; subst x_
                      refine Rg.gyes rfl rfl ?_
                      refine Rg.lensl Try.underlying23 rfl (show ((RT.int .i64).sl).V M wD ps v55 from hv55) rfl ?_
                      exact Rg.nil ⟨rfl, rfl, _, rfl, rfl, Step.refl _ _⟩
                    refine Obls.cons ?_ ?_
                    · intro wD E sD -- 57
                      intro x_ hx_; have hx_ : x_ = _ := hx_; subst x_
                      intro x_ hx_; have hx_ : x_ = _ := hx_; subst x_
                      refine Rg.gyes rfl rfl ?_
                      refine Rg.isub rfl rfl rfl (by omega) ?_
                      exact Rg.nil ⟨rfl, rfl, _, rfl, rfl, Step.refl _ _⟩
                    refine Obls.cons ?_ ?_
                    · intro wD E sD -- 58
                      intro v50 hv50
                      intro x_ hx_; have hx_ : x_ = _ := hx_; subst x_
                      intro x_ hx_; have hx_ : x_ = _ := hx_; subst x_
                      refine Rg.gyes rfl rfl ?_
                      refine Rg.idx (M := M) Try.underlying23 I3 rfl rfl rfl (show ((RT.int .i64).sl).V M wD ps v50 from hv50) (Le.refl _ _) (by omega) (fun ui ai hgi hui => ?_)
                      obtain rfl : y = ai := Eq.symm (Option.some.inj (hgi.symm.trans (by rw [show ((ps.length : Int) - 1).toNat = ps.length - 1 from by omega]; exact hy)))
                      exact Rg.nil ⟨rfl, rfl, _, rfl, hui, Step.refl _ _⟩
                    refine Obls.cons ?_ ?_
                    · intro wD E sD -- 59
                      intro v58 hv58
                      intro x_ hx_; have hx_ : x_ = _ := hx_; subst x_
                      refine Rg.gyes rfl rfl ?_
                      refine Rg.loadi64 (M := M) Try.underlying3 rfl rfl (show PtrTo (RT.int .i64) M wD v58 y from hv58) (Le.refl _ _) (fun hin => ?_)
                      exact Rg.nil ⟨rfl, rfl, _, rfl, rfl, Step.refl _ _⟩
                    refine Obls.cons ?_ ?_
                    · intro wD E sD -- 60
                      intro x_ hx_; have hx_ : x_ = _ := hx_; subst x_
                      intro x_ hx_; have hx_ : x_ = _ := hx_; subst x_
                      refine Rg.gyes rfl rfl ?_
                      refine Rg.ige rfl rfl rfl ?_
                      exact Rg.nil ⟨rfl, rfl, _, rfl, rfl, Step.refl _ _⟩
                    refine Obls.cons ?_ ?_
                    · intro wD E sD -- 61
                      intro x_ hx_; have hx_ : x_ = _ := hx_; subst x_
                      intro x_ hx_; have hx_ : x_ = _ := hx_; subst x_
                      refine Rg.pickf rfl rfl rfl ?_
                      exact Rg.nil ⟨rfl, rfl, _, rfl, rfl, Step.refl _ _⟩
                    exact Obls.nil
                  · -- behind it
                    intro wD5 sD5
                    intro x_ hx_; have hx_ : x_ = _ := hx_; subst x_
                    intro x_ hx_; have hx_ : x_ = _ := hx_; subst x_
                    intro v5_2 hv5_2
                    intro v5_3 hv5_3
                    intro x_ hx_; have hx_ : x_ = _ := hx_; subst x_
                    intro x_ hx_; have hx_ : x_ = _ := hx_; subst x_
                    intro x_ hx_; have hx_ : x_ = _ := hx_; subst x_
                    intro x_ hx_; have hx_ : x_ = _ := hx_; subst x_
                    intro x_ hx_; have hx_ : x_ = _ := hx_; subst x_
                    intro v5_9 hv5_9
                    intro v5_10 hv5_10
                    intro x_ hx_; have hx_ : x_ = _ := hx_; subst x_
                    intro x_ hx_; have hx_ : x_ = _ := hx_; subst x_
                    intro x_ hx_; have hx_ : x_ = _ := hx_; subst x_
                    intro x_ hx_; have hx_ : x_ = _ := hx_; subst x_
                    intro x_ hx_; have hx_ : x_ = _ := hx_; subst x_
                    intro x_ hx_; have hx_ : x_ = _ := hx_; subst x_
                    intro x_ hx_; have hx_ : x_ = _ := hx_; subst x_
                    intro x_ hx_; have hx_ : x_ = _ := hx_; subst x_
                    intro x_ hx_; have hx_ : x_ = _ := hx_; subst x_
                    intro v5_20 hv5_20
                    intro v5_21 hv5_21
                    intro x_ hx_; have hx_ : x_ = _ := hx_; subst x_
                    intro x_ hx_; have hx_ : x_ = _ := hx_; subst x_
                    intro x_ hx_; have hx_ : x_ = _ := hx_; subst x_
                    intro x_ hx_; have hx_ : x_ = _ := hx_; subst x_
                    intro v5_26 hv5_26
                    intro v5_27 hv5_27
                    intro x_ hx_; have hx_ : x_ = _ := hx_; subst x_
                    intro x_ hx_; have hx_ : x_ = _ := hx_; subst x_
                    intro x_ hx_; have hx_ : x_ = _ := hx_; subst x_
                    intro x_ hx_; have hx_ : x_ = _ := hx_; subst x_
                    intro x_ hx_; have hx_ : x_ = _ := hx_; subst x_
                    intro x_ hx_; have hx_ : x_ = _ := hx_; subst x_
                    intro x_ hx_; have hx_ : x_ = _ := hx_; subst x_
                    intro v5_35 hv5_35
                    intro v5_36 hv5_36
                    intro v5_37 hv5_37
                    intro x_ hx_; have hx_ : x_ = _ := hx_; subst x_
                    intro x_ hx_; have hx_ : x_ = _ := hx_; subst x_
                    intro x_ hx_; have hx_ : x_ = _ := hx_; subst x_
                    intro x_ hx_; have hx_ : x_ = _ := hx_; subst x_
                    intro x_ hx_; have hx_ : x_ = _ := hx_; subst x_
                    intro x_ hx_; have hx_ : x_ = _ := hx_; subst x_
                    intro x_ hx_; have hx_ : x_ = _ := hx_; subst x_
                    intro x_ hx_; have hx_ : x_ = _ := hx_; subst x_
                    intro x_ hx_; have hx_ : x_ = _ := hx_; subst x_
                    intro x_ hx_; have hx_ : x_ = _ := hx_; subst x_
                    intro v5_48 hv5_48
                    intro v5_49 hv5_49
                    intro v5_50 hv5_50
                    intro x_ hx_; have hx_ : x_ = _ := hx_; subst x_
                    intro x_ hx_; have hx_ : x_ = _ := hx_; subst x_
                    intro v5_53 hv5_53
                    intro v5_54 hv5_54
                    intro v5_55 hv5_55
                    intro x_ hx_; have hx_ : x_ = _ := hx_; subst x_
                    intro x_ hx_; have hx_ : x_ = _ := hx_; subst x_
                    intro v5_58 hv5_58
                    intro x_ hx_; have hx_ : x_ = _ := hx_; subst x_
                    intro x_ hx_; have hx_ : x_ = _ := hx_; subst x_
                    intro x_ hx_; have hx_ : x_ = _ := hx_; subst x_
                    refine T.ifp rfl (fun c5 => ?_) (fun c5 => ?_)
                    · -- c5 True
                      refine T.seq ?_
                      refine T.region ?_ -- region 6
                      refine Rg.assign rfl rfl ?_
                      refine Rg.nil ?_
                      refine T.ret ?_
                      refine Kret1 rfl rfl ⟨congrArg Value.bool (Eq.symm ?_), S4.trans0 sD5⟩
                      rw [hr, mayPo_drop hx]
                      first
                      | (rw [decide_eq_false (show ¬ last < d by omega)]; simp; done)
                      | (rw [decide_eq_false (show ¬ d < 2147483648 by omega)]; simp; done)
                      | (rw [show ps = [] from List.length_eq_zero_iff.1 (by omega)]; simp; done)
                      | (rw [show risesB ps = false from by unfold risesB; simp only [g5_45, Bool.false_and]]; simp; done)
                      | (rw [show risesB ps = false from by unfold risesB; rw [Bool.not_eq_true] at g5_45; rw [g5_45]; rfl]; simp; done)
                      | (rw [hrl, decide_eq_false (show ¬ y < 2147483648 by omega)]; simp; done)
                    · -- c5 False
                      refine T.skip ?_
                      refine T.region ?_ -- region 3
                      refine Rg.move rfl rfl ?_
                      refine Rg.iadd rfl rfl rfl (by omega) ?_
                      refine Rg.assign rfl rfl ?_
                      refine Rg.nil ?_
                      refine ⟨rfl, (k + 1, d, ps), (.cons rfl (.cons rfl .nil)), ?_, ?_⟩
                      · refine ⟨S4.trans0 sD5, by simp only; omega, ?_, by simp only; omega, fun h => by simp at h, fun _ => by simpa using hx⟩
                        have hne : ps.isEmpty = false := by cases ps with
                          | nil => simp at g5_41
                          | cons a t => rfl
                        have hlt : last < d := by
                          by_cases hk0 : k = 0
                          · have := h0 hk0; omega
                          · omega
                        rw [hr, mayPo_drop hx, decide_eq_true hlt, decide_eq_true (show d < 2147483648 by omega), hne, hrl, decide_eq_true (show y < 2147483648 by omega)]; rfl
                      · simp only; omega
          · -- g5_17 False
            by_cases g5_41 : (ps.length : Int) = 0
            · -- g5_41 True
              apply T.draw (M := M) mixed [Asr.eq _, Asr.eq _, Asr.ptr (RT.po) (d, ps), Asr.ptr (RT.int .i64) d, Asr.eq (.int .i64 d), Asr.eq _, Asr.eq (.bool false), Asr.eq _, Asr.eq _, Asr.ptr (RT.po) (d, ps), Asr.ptr (RT.int .i64) d, Asr.eq (.int .i64 d), Asr.eq _, Asr.eq _, Asr.eq (.bool false), Asr.eq _, Asr.eq _, Asr.eq (.bool false), Asr.eq undef, Asr.eq undef, Asr.eq undef, Asr.eq undef, Asr.eq undef, Asr.eq undef, Asr.eq undef, Asr.eq undef, Asr.eq undef, Asr.eq undef, Asr.eq undef, Asr.eq undef, Asr.eq _, Asr.eq _, Asr.eq _, Asr.eq _, Asr.eq _, Asr.ptr (RT.po) (d, ps), Asr.ptr ((RT.int .i64).sl) ps, Asr.V ((RT.int .i64).sl) ps, Asr.eq _, Asr.eq _, Asr.eq _, Asr.eq (.bool true), Asr.eq undef, Asr.eq undef, Asr.eq _, Asr.eq _, Asr.eq undef, Asr.eq undef, Asr.eq undef, Asr.eq undef, Asr.eq undef, Asr.eq undef, Asr.eq undef, Asr.eq undef, Asr.eq undef, Asr.eq undef, Asr.eq undef, Asr.eq undef, Asr.eq undef, Asr.eq undef, Asr.eq undef, Asr.eq _] -- region 5
              · rfl
              · -- its operations
                refine Obls.cons ?_ ?_
                · intro wD E sD -- 0
                  refine Rg.move rfl rfl ?_
                  exact Rg.nil ⟨rfl, rfl, _, rfl, rfl, Step.refl _ _⟩
                refine Obls.cons ?_ ?_
                · intro wD E sD -- 1
                  refine Rg.move rfl rfl ?_
                  exact Rg.nil ⟨rfl, rfl, _, rfl, rfl, Step.refl _ _⟩
                refine Obls.cons ?_ ?_
                · intro wD E sD -- 2
                  intro x_ hx_; have hx_ : x_ = _ := hx_; subst x_
                  intro x_ hx_; have hx_ : x_ = _ := hx_; subst x_
                  refine Rg.idx (M := M) Try.underlying28 I37 rfl rfl rfl (hvM.le sD.le) (Le.refl _ _) (by omega) (fun ui ai hgi hui => ?_)
                  obtain rfl : (d, ps) = ai := Eq.symm (Option.some.inj (hgi.symm.trans (by simpa using hx)))
                  exact Rg.nil ⟨rfl, rfl, _, rfl, hui, Step.refl _ _⟩
                refine Obls.cons ?_ ?_
                · intro wD E sD -- 3
                  intro v2 hv2
                  refine Rg.fieldAddr (M := M) (A := RT.po) (B := RT.int .i64) Try.underlying37 rfl rfl I3 (by decide) (po0) rfl rfl (by decide) (show PtrTo (RT.po) M wD v2 (d, ps) from hv2) (Le.refl _ _) (fun uf huf => ?_)
                  exact Rg.nil ⟨rfl, rfl, _, rfl, huf, Step.refl _ _⟩
                refine Obls.cons ?_ ?_
                · intro wD E sD -- 4
                  intro v3 hv3
                  refine Rg.loadi64 (M := M) Try.underlying3 rfl rfl (show PtrTo (RT.int .i64) M wD v3 d from hv3) (Le.refl _ _) (fun hin => ?_)
                  exact Rg.nil ⟨rfl, rfl, _, rfl, rfl, Step.refl _ _⟩
                refine Obls.cons ?_ ?_
                · intro wD E sD -- 5
                  intro x_ hx_; have hx_ : x_ = _ := hx_; subst x_
                  refine Rg.ilt rfl rfl rfl ?_
                  exact Rg.nil ⟨rfl, rfl, _, rfl, rfl, Step.refl _ _⟩
                refine Obls.cons ?_ ?_
                · intro wD E sD -- 6
                  intro x_ hx_; have hx_ : x_ = _ := hx_; subst x_
                  refine Rg.move rfl rfl ?_
                  refine Rg.nil ⟨rfl, rfl, _, rfl, ?_, Step.refl _ _⟩
                  exact congrArg Value.bool (decide_eq_false g5_6)
                refine Obls.cons ?_ ?_
                · intro wD E sD -- 7
                  intro x_ hx_; have hx_ : x_ = _ := hx_; subst x_
                  refine Rg.gyes rfl rfl ?_
                  refine Rg.move rfl rfl ?_
                  exact Rg.nil ⟨rfl, rfl, _, rfl, rfl, Step.refl _ _⟩
                refine Obls.cons ?_ ?_
                · intro wD E sD -- 8
                  intro x_ hx_; have hx_ : x_ = _ := hx_; subst x_
                  refine Rg.gyes rfl rfl ?_
                  refine Rg.move rfl rfl ?_
                  exact Rg.nil ⟨rfl, rfl, _, rfl, rfl, Step.refl _ _⟩
                refine Obls.cons ?_ ?_
                · intro wD E sD -- 9
                  intro x_ hx_; have hx_ : x_ = _ := hx_; subst x_
                  intro x_ hx_; have hx_ : x_ = _ := hx_; subst x_
                  intro x_ hx_; have hx_ : x_ = _ := hx_; subst x_
                  refine Rg.gyes rfl rfl ?_
                  refine Rg.idx (M := M) Try.underlying28 I37 rfl rfl rfl (hvM.le sD.le) (Le.refl _ _) (by omega) (fun ui ai hgi hui => ?_)
                  obtain rfl : (d, ps) = ai := Eq.symm (Option.some.inj (hgi.symm.trans (by simpa using hx)))
                  exact Rg.nil ⟨rfl, rfl, _, rfl, hui, Step.refl _ _⟩
                refine Obls.cons ?_ ?_
                · intro wD E sD -- 10
                  intro v9 hv9
                  intro x_ hx_; have hx_ : x_ = _ := hx_; subst x_
                  refine Rg.gyes rfl rfl ?_
                  refine Rg.fieldAddr (M := M) (A := RT.po) (B := RT.int .i64) Try.underlying37 rfl rfl I3 (by decide) (po0) rfl rfl (by decide) (show PtrTo (RT.po) M wD v9 (d, ps) from hv9) (Le.refl _ _) (fun uf huf => ?_)
                  exact Rg.nil ⟨rfl, rfl, _, rfl, huf, Step.refl _ _⟩
                refine Obls.cons ?_ ?_
                · intro wD E sD -- 11
                  intro v10 hv10
                  intro x_ hx_; have hx_ : x_ = _ := hx_; subst x_
                  refine Rg.gyes rfl rfl ?_
                  refine Rg.loadi64 (M := M) Try.underlying3 rfl rfl (show PtrTo (RT.int .i64) M wD v10 d from hv10) (Le.refl _ _) (fun hin => ?_)
                  exact Rg.nil ⟨rfl, rfl, _, rfl, rfl, Step.refl _ _⟩
                refine Obls.cons ?_ ?_
                · intro wD E sD -- 12
                  intro x_ hx_; have hx_ : x_ = _ := hx_; subst x_
                  intro x_ hx_; have hx_ : x_ = _ := hx_; subst x_
                  refine Rg.gyes rfl rfl ?_
                  refine Rg.ige rfl rfl rfl ?_
                  exact Rg.nil ⟨rfl, rfl, _, rfl, rfl, Step.refl _ _⟩
                refine Obls.cons ?_ ?_
                · intro wD E sD -- 13
                  intro x_ hx_; have hx_ : x_ = _ := hx_; subst x_
                  intro x_ hx_; have hx_ : x_ = _ := hx_; subst x_
                  refine Rg.pickf rfl rfl rfl ?_
                  exact Rg.nil ⟨rfl, rfl, _, rfl, rfl, Step.refl _ _⟩
                refine Obls.cons ?_ ?_
                · intro wD E sD -- 14
                  intro x_ hx_; have hx_ : x_ = _ := hx_; subst x_
                  intro x_ hx_; have hx_ : x_ = _ := hx_; subst x_
                  refine Rg.move rfl rfl ?_
                  refine Rg.nil ⟨rfl, rfl, _, rfl, ?_, Step.refl _ _⟩
                  exact congrArg Value.bool (decide_eq_false g5_14)
                refine Obls.cons ?_ ?_
                · intro wD E sD -- 15
                  intro x_ hx_; have hx_ : x_ = _ := hx_; subst x_
                  refine Rg.gyes rfl rfl ?_
                  refine Rg.move rfl rfl ?_
                  exact Rg.nil ⟨rfl, rfl, _, rfl, rfl, Step.refl _ _⟩
                refine Obls.cons ?_ ?_
                · intro wD E sD -- 16
                  intro x_ hx_; have hx_ : x_ = _ := hx_; subst x_
                  intro x_ hx_; have hx_ : x_ = _ := hx_; subst x_
                  refine Rg.gyes rfl rfl ?_
                  refine Rg.igt rfl rfl rfl ?_
                  exact Rg.nil ⟨rfl, rfl, _, rfl, rfl, Step.refl _ _⟩
                refine Obls.cons ?_ ?_
                · intro wD E sD -- 17
                  intro x_ hx_; have hx_ : x_ = _ := hx_; subst x_
                  intro x_ hx_; have hx_ : x_ = _ := hx_; subst x_
                  intro x_ hx_; have hx_ : x_ = _ := hx_; subst x_
                  refine Rg.gyes rfl rfl ?_
                  refine Rg.move rfl rfl ?_
                  refine Rg.nil ⟨rfl, rfl, _, rfl, ?_, Step.refl _ _⟩
                  exact congrArg Value.bool (decide_eq_false g5_17)
                refine Obls.cons ?_ ?_
                · intro wD E sD -- 18
                  intro x_ hx_; have hx_ : x_ = _ := hx_; subst x_
                  exact Rg.gno rfl rfl rfl rfl (Rg.nil ⟨rfl, rfl, _, rfl, rfl, Step.refl _ _⟩)
                refine Obls.cons ?_ ?_
                · intro wD E sD -- 19
                  intro x_ hx_; have hx_ : x_ = _ := hx_; subst x_
                  exact Rg.gno rfl rfl rfl rfl (Rg.nil ⟨rfl, rfl, _, rfl, rfl, Step.refl _ _⟩)
                refine Obls.cons ?_ ?_
                · intro wD E sD -- 20
                  intro x_ hx_; have hx_ : x_ = _ := hx_; subst x_
                  intro x_ hx_; have hx_ : x_ = _ := hx_; subst x_
                  intro x_ hx_; have hx_ : x_ = _ := hx_; subst x_
                  exact Rg.gno rfl rfl rfl rfl (Rg.nil ⟨rfl, rfl, _, rfl, rfl, Step.refl _ _⟩)
                refine Obls.cons ?_ ?_
                · intro wD E sD -- 21
                  intro x_ hx_; have hx_ : x_ = _ := hx_; subst x_
                  intro x_ hx_; have hx_ : x_ = _ := hx_; subst x_
                  exact Rg.gno rfl rfl rfl rfl (Rg.nil ⟨rfl, rfl, _, rfl, rfl, Step.refl _ _⟩)
                refine Obls.cons ?_ ?_
                · intro wD E sD -- 22
                  intro x_ hx_; have hx_ : x_ = _ := hx_; subst x_
                  intro x_ hx_; have hx_ : x_ = _ := hx_; subst x_
                  exact Rg.gno rfl rfl rfl rfl (Rg.nil ⟨rfl, rfl, _, rfl, rfl, Step.refl _ _⟩)
                refine Obls.cons ?_ ?_
                · intro wD E sD -- 23
                  intro x_ hx_; have hx_ : x_ = _ := hx_; subst x_
                  exact Rg.gno rfl rfl rfl rfl (Rg.nil ⟨rfl, rfl, _, rfl, rfl, Step.refl _ _⟩)
                refine Obls.cons ?_ ?_
                · intro wD E sD -- 24
                  intro x_ hx_; have hx_ : x_ = _ := hx_; subst x_
                  exact Rg.gno rfl rfl rfl rfl (Rg.nil ⟨rfl, rfl, _, rfl, rfl, Step.refl _ _⟩)
                refine Obls.cons ?_ ?_
                · intro wD E sD -- 25
                  intro x_ hx_; have hx_ : x_ = _ := hx_; subst x_
                  intro x_ hx_; have hx_ : x_ = _ := hx_; subst x_
                  exact Rg.gno rfl rfl rfl rfl (Rg.nil ⟨rfl, rfl, _, rfl, rfl, Step.refl _ _⟩)
                refine Obls.cons ?_ ?_
                · intro wD E sD -- 26
                  intro x_ hx_; have hx_ : x_ = _ := hx_; subst x_
                  intro x_ hx_; have hx_ : x_ = _ := hx_; subst x_
                  intro x_ hx_; have hx_ : x_ = _ := hx_; subst x_
                  exact Rg.gno rfl rfl rfl rfl (Rg.nil ⟨rfl, rfl, _, rfl, rfl, Step.refl _ _⟩)
                refine Obls.cons ?_ ?_
                · intro wD E sD -- 27
                  intro x_ hx_; have hx_ : x_ = _ := hx_; subst x_
                  intro x_ hx_; have hx_ : x_ = _ := hx_; subst x_
                  exact Rg.gno rfl rfl rfl rfl (Rg.nil ⟨rfl, rfl, _, rfl, rfl, Step.refl _ _⟩)
                refine Obls.cons ?_ ?_
                · intro wD E sD -- 28
                  intro x_ hx_; have hx_ : x_ = _ := hx_; subst x_
                  intro x_ hx_; have hx_ : x_ = _ := hx_; subst x_
                  exact Rg.gno rfl rfl rfl rfl (Rg.nil ⟨rfl, rfl, _, rfl, rfl, Step.refl _ _⟩)
                refine Obls.cons ?_ ?_
                · intro wD E sD -- 29
                  intro x_ hx_; have hx_ : x_ = _ := hx_; subst x_
                  intro x_ hx_; have hx_ : x_ = _ := hx_; subst x_
                  intro x_ hx_; have hx_ : x_ = _ := hx_; subst x_
                  exact Rg.gno rfl rfl rfl rfl (Rg.nil ⟨rfl, rfl, _, rfl, rfl, Step.refl _ _⟩)
                refine Obls.cons ?_ ?_
                · intro wD E sD -- 30
                  intro x_ hx_; have hx_ : x_ = _ := hx_; subst x_
                  intro x_ hx_; have hx_ : x_ = _ := hx_; subst x_
                  intro x_ hx_; have hx_ : x_ = _ := hx_; subst x_
                  refine Rg.gyes rfl rfl ?_
                  refine Rg.pickf rfl rfl rfl ?_
                  exact Rg.nil ⟨rfl, rfl, _, rfl, rfl, Step.refl _ _⟩
                refine Obls.cons ?_ ?_
                · intro wD E sD -- 31
                  intro x_ hx_; have hx_ : x_ = _ := hx_; subst x_
                  intro x_ hx_; have hx_ : x_ = _ := hx_; subst x_
                  refine Rg.pickf rfl rfl rfl ?_
                  exact Rg.nil ⟨rfl, rfl, _, rfl, rfl, Step.refl _ _⟩
                refine Obls.cons ?_ ?_
                · intro wD E sD -- 32
                  intro x_ hx_; have hx_ : x_ = _ := hx_; subst x_
                  intro x_ hx_; have hx_ : x_ = _ := hx_; subst x_
                  refine Rg.move rfl rfl ?_
                  exact Rg.nil ⟨rfl, rfl, _, rfl, rfl, Step.refl _ _⟩
                refine Obls.cons ?_ ?_
                · intro wD E sD -- 33
                  intro x_ hx_; have hx_ : x_ = _ := hx_; subst x_
                  refine Rg.gyes rfl rfl ?_
                  refine Rg.move rfl rfl ?_
                  exact Rg.nil ⟨rfl, rfl, _, rfl, rfl, Step.refl _ _⟩
                refine Obls.cons ?_ ?_
                · intro wD E sD -- 34
                  intro x_ hx_; have hx_ : x_ = _ := hx_; subst x_
                  refine Rg.gyes rfl rfl ?_
                  refine Rg.move rfl rfl ?_
                  exact Rg.nil ⟨rfl, rfl, _, rfl, rfl, Step.refl _ _⟩
                refine Obls.cons ?_ ?_
                · intro wD E sD -- 35
                  intro x_ hx_; have hx_ : x_ = _ := hx_; subst x_
                  intro x_ hx_; have hx_ : x_ = _ := hx_; subst x_
                  intro x_ hx_; have hx_ : x_ = _ := hx_; subst x_
                  refine Rg.gyes rfl rfl ?_
                  refine Rg.idx (M := M) Try.underlying28 I37 rfl rfl rfl (hvM.le sD.le) (Le.refl _ _) (by omega) (fun ui ai hgi hui => ?_)
                  obtain rfl : (d, ps) = ai := Eq.symm (Option.some.inj (hgi.symm.trans (by simpa using hx)))
                  exact Rg.nil ⟨rfl, rfl, _, rfl, hui, Step.refl _ _⟩
                refine Obls.cons ?_ ?_
                · intro wD E sD -- 36
                  intro v35 hv35
                  intro x_ hx_; have hx_ : x_ = _ := hx_; subst x_
                  refine Rg.gyes rfl rfl ?_
                  refine Rg.fieldAddr (M := M) (A := RT.po) (B := (RT.int .i64).sl) Try.underlying37 rfl rfl I23 (by decide) (po1) rfl rfl (by decide) (show PtrTo (RT.po) M wD v35 (d, ps) from hv35) (Le.refl _ _) (fun uf huf => ?_)
                  exact Rg.nil ⟨rfl, rfl, _, rfl, huf, Step.refl _ _⟩
                refine Obls.cons ?_ ?_
                · intro wD E sD -- 37
                  intro v36 hv36
                  intro x_ hx_; have hx_ : x_ = _ := hx_; subst x_
                  refine Rg.gyes rfl rfl ?_
                  refine Rg.load (M := M) Try.underlying23 rfl rfl rfl rfl rfl (show PtrTo ((RT.int .i64).sl) M wD v36 ps from hv36) (Le.refl _ _) (fun va hva => ?_)
                  exact Rg.nil ⟨rfl, rfl, _, rfl, hva, Step.refl _ _⟩
                refine Obls.cons ?_ ?_
                · intro wD E sD -- 38
                  intro v37 hv37
                  intro x_ hx_; have hx_ : x_ = _ := hx_; subst x_
                  refine Rg.gyes rfl rfl ?_
                  refine Rg.lensl Try.underlying23 rfl (show ((RT.int .i64).sl).V M wD ps v37 from hv37) rfl ?_
                  exact Rg.nil ⟨rfl, rfl, _, rfl, rfl, Step.refl _ _⟩
                refine Obls.cons ?_ ?_
                · intro wD E sD -- 39
                  intro x_ hx_; have hx_ : x_ = _ := hx_; subst x_
                  intro x_ hx_; have hx_ : x_ = _ := hx_; subst x_
                  refine Rg.gyes rfl rfl ?_
                  refine Rg.ieq rfl rfl rfl ?_
                  exact Rg.nil ⟨rfl, rfl, _, rfl, rfl, Step.refl _ _⟩
                refine Obls.cons ?_ ?_
                · intro wD E sD -- 40
                  intro x_ hx_; have hx_ : x_ = _ := hx_; subst x_
                  intro x_ hx_; have hx_ : x_ = _ := hx_; subst x_
                  refine Rg.pickf rfl rfl rfl ?_
                  exact Rg.nil ⟨rfl, rfl, _, rfl, rfl, Step.refl _ _⟩
                refine Obls.cons ?_ ?_
                · intro wD E sD -- 41
                  intro x_ hx_; have hx_ : x_ = _ := hx_; subst x_
                  intro x_ hx_; have hx_ : x_ = _ := hx_; subst x_
                  refine Rg.move rfl rfl ?_
                  refine Rg.nil ⟨rfl, rfl, _, rfl, ?_, Step.refl _ _⟩
                  exact congrArg Value.bool (decide_eq_true g5_41)
                refine Obls.cons ?_ ?_
                · intro wD E sD -- 42
                  intro x_ hx_; have hx_ : x_ = _ := hx_; subst x_
                  exact Rg.gno rfl rfl rfl rfl (Rg.nil ⟨rfl, rfl, _, rfl, rfl, Step.refl _ _⟩)
                refine Obls.cons ?_ ?_
                · intro wD E sD -- 43
                  intro x_ hx_; have hx_ : x_ = _ := hx_; subst x_
                  intro x_ hx_; have hx_ : x_ = _ := hx_; subst x_
                  exact Rg.gno rfl rfl rfl rfl (Rg.nil ⟨rfl, rfl, _, rfl, rfl, Step.refl _ _⟩)
                refine Obls.cons ?_ ?_
                · intro wD E sD -- 44
                  intro x_ hx_; have hx_ : x_ = _ := hx_; subst x_
                  intro x_ hx_; have hx_ : x_ = _ := hx_; subst x_
                  refine Rg.pickt rfl rfl rfl ?_
                  exact Rg.nil ⟨rfl, rfl, _, rfl, rfl, Step.refl _ _⟩
                refine Obls.cons ?_ ?_
                · intro wD E sD -- 45
                  intro x_ hx_; have hx_ : x_ = _ := hx_; subst x_
                  intro x_ hx_; have hx_ : x_ = _ := hx_; subst x_
                  refine Rg.move rfl rfl ?_
                  exact Rg.nil ⟨rfl, rfl, _, rfl, rfl, Step.refl _ _⟩
                refine Obls.cons ?_ ?_
                · intro wD E sD -- 46
                  intro x_ hx_; have hx_ : x_ = _ := hx_; subst x_
                  exact Rg.gno rfl rfl rfl rfl (Rg.nil ⟨rfl, rfl, _, rfl, rfl, Step.refl _ _⟩)
                refine Obls.cons ?_ ?_
                · intro wD E sD -- 47
                  intro x_ hx_; have hx_ : x_ = _ := hx_; subst x_
                  exact Rg.gno rfl rfl rfl rfl (Rg.nil ⟨rfl, rfl, _, rfl, rfl, Step.refl _ _⟩)
                refine Obls.cons ?_ ?_
                · intro wD E sD -- 48
                  intro x_ hx_; have hx_ : x_ = _ := hx_; subst x_
                  intro x_ hx_; have hx_ : x_ = _ := hx_; subst x_
                  intro x_ hx_; have hx_ : x_ = _ := hx_; subst x_
                  exact Rg.gno rfl rfl rfl rfl (Rg.nil ⟨rfl, rfl, _, rfl, rfl, Step.refl _ _⟩)
                refine Obls.cons ?_ ?_
                · intro wD E sD -- 49
                  intro x_ hx_; have hx_ : x_ = _ := hx_; subst x_
                  intro x_ hx_; have hx_ : x_ = _ := hx_; subst x_
                  exact Rg.gno rfl rfl rfl rfl (Rg.nil ⟨rfl, rfl, _, rfl, rfl, Step.refl _ _⟩)
                refine Obls.cons ?_ ?_
                · intro wD E sD -- 50
                  intro x_ hx_; have hx_ : x_ = _ := hx_; subst x_
                  intro x_ hx_; have hx_ : x_ = _ := hx_; subst x_
                  exact Rg.gno rfl rfl rfl rfl (Rg.nil ⟨rfl, rfl, _, rfl, rfl, Step.refl _ _⟩)
                refine Obls.cons ?_ ?_
                · intro wD E sD -- 51
                  intro x_ hx_; have hx_ : x_ = _ := hx_; subst x_
                  exact Rg.gno rfl rfl rfl rfl (Rg.nil ⟨rfl, rfl, _, rfl, rfl, Step.refl _ _⟩)
                refine Obls.cons ?_ ?_
                · intro wD E sD -- 52
                  intro x_ hx_; have hx_ : x_ = _ := hx_; subst x_
                  exact Rg.gno rfl rfl rfl rfl (Rg.nil ⟨rfl, rfl, _, rfl, rfl, Step.refl _ _⟩)
                refine Obls.cons ?_ ?_
                · intro wD E sD -- 53
                  intro x_ hx_; have hx_ : x_ = _ := hx_; subst x_
                  intro x_ hx_; have hx_ : x_ = _ := hx_; subst x_
                  intro x_ hx_; have hx_ : x_ = _ := hx_; subst x_
                  exact Rg.gno rfl rfl rfl rfl (Rg.nil ⟨rfl, rfl, _, rfl, rfl, Step.refl _ _⟩)
                refine Obls.cons ?_ ?_
                · intro wD E sD -- 54
                  intro x_ hx_; have hx_ : x_ = _ := hx_; subst x_
                  intro x_ hx_; have hx_ : x_ = _ := hx_; subst x_
                  exact Rg.gno rfl rfl rfl rfl (Rg.nil ⟨rfl, rfl, _, rfl, rfl, Step.refl _ _⟩)
                refine Obls.cons ?_ ?_
                · intro wD E sD -- 55
                  intro x_ hx_; have hx_ : x_ = _ := hx_; subst x_
                  intro x_ hx_; have hx_ : x_ = _ := hx_; subst x_
                  exact Rg.gno rfl rfl rfl rfl (Rg.nil ⟨rfl, rfl, _, rfl, rfl, Step.refl _ _⟩)
                refine Obls.cons ?_ ?_
                · intro wD E sD -- 56
                  intro x_ hx_; have hx_ : x_ = _ := hx_; subst x_
                  intro x_ hx_; have hx_ : x_ = _ := hx_; subst x_
                  exact Rg.gno rfl rfl rfl rfl (Rg.nil ⟨rfl, rfl, _, rfl, rfl, Step.refl _ _⟩)
                refine Obls.cons ?_ ?_
                · intro wD E sD -- 57
                  intro x_ hx_; have hx_ : x_ = _ := hx_; subst x_
                  intro x_ hx_; have hx_ : x_ = _ := hx_; subst x_
                  exact Rg.gno rfl rfl rfl rfl (Rg.nil ⟨rfl, rfl, _, rfl, rfl, Step.refl _ _⟩)
                refine Obls.cons ?_ ?_
                · intro wD E sD -- 58
                  intro x_ hx_; have hx_ : x_ = _ := hx_; subst x_
                  intro x_ hx_; have hx_ : x_ = _ := hx_; subst x_
                  intro x_ hx_; have hx_ : x_ = _ := hx_; subst x_
                  exact Rg.gno rfl rfl rfl rfl (Rg.nil ⟨rfl, rfl, _, rfl, rfl, Step.refl _ _⟩)
                refine Obls.cons ?_ ?_
                · intro wD E sD -- 59
                  intro x_ hx_; have hx_ : x_ = _ := hx_; subst x_
                  intro x_ hx_; have hx_ : x_ = _ := hx_; subst x_
                  exact Rg.gno rfl rfl rfl rfl (Rg.nil ⟨rfl, rfl, _, rfl, rfl, Step.refl _ _⟩)
                refine Obls.cons ?_ ?_
                · intro wD E sD -- 60
                  intro x_ hx_; have hx_ : x_ = _ := hx_; subst x_
                  intro x_ hx_; have hx_ : x_ = _ := hx_; subst x_
                  exact Rg.gno rfl rfl rfl rfl (Rg.nil ⟨rfl, rfl, _, rfl, rfl, Step.refl _ _⟩)
                refine Obls.cons ?_ ?_
                · intro wD E sD -- 61
                  intro x_ hx_; have hx_ : x_ = _ := hx_; subst x_
                  intro x_ hx_; have hx_ : x_ = _ := hx_; subst x_
                  refine Rg.pickt rfl rfl rfl ?_
                  exact Rg.nil ⟨rfl, rfl, _, rfl, rfl, Step.refl _ _⟩
                exact Obls.nil
              · -- behind it
                intro wD5 sD5
                intro x_ hx_; have hx_ : x_ = _ := hx_; subst x_
                intro x_ hx_; have hx_ : x_ = _ := hx_; subst x_
                intro v5_2 hv5_2
                intro v5_3 hv5_3
                intro x_ hx_; have hx_ : x_ = _ := hx_; subst x_
                intro x_ hx_; have hx_ : x_ = _ := hx_; subst x_
                intro x_ hx_; have hx_ : x_ = _ := hx_; subst x_
                intro x_ hx_; have hx_ : x_ = _ := hx_; subst x_
                intro x_ hx_; have hx_ : x_ = _ := hx_; subst x_
                intro v5_9 hv5_9
                intro v5_10 hv5_10
                intro x_ hx_; have hx_ : x_ = _ := hx_; subst x_
                intro x_ hx_; have hx_ : x_ = _ := hx_; subst x_
                intro x_ hx_; have hx_ : x_ = _ := hx_; subst x_
                intro x_ hx_; have hx_ : x_ = _ := hx_; subst x_
                intro x_ hx_; have hx_ : x_ = _ := hx_; subst x_
                intro x_ hx_; have hx_ : x_ = _ := hx_; subst x_
                intro x_ hx_; have hx_ : x_ = _ := hx_; subst x_
                intro x_ hx_; have hx_ : x_ = _ := hx_; subst x_
                intro x_ hx_; have hx_ : x_ = _ := hx_; subst x_
                intro x_ hx_; have hx_ : x_ = _ := hx_; subst x_
                intro x_ hx_; have hx_ : x_ = _ := hx_; subst x_
                intro x_ hx_; have hx_ : x_ = _ := hx_; subst x_
                intro x_ hx_; have hx_ : x_ = _ := hx_; subst x_
                intro x_ hx_; have hx_ : x_ = _ := hx_; subst x_
                intro x_ hx_; have hx_ : x_ = _ := hx_; subst x_
                intro x_ hx_; have hx_ : x_ = _ := hx_; subst x_
                intro x_ hx_; have hx_ : x_ = _ := hx_; subst x_
                intro x_ hx_; have hx_ : x_ = _ := hx_; subst x_
                intro x_ hx_; have hx_ : x_ = _ := hx_; subst x_
                intro x_ hx_; have hx_ : x_ = _ := hx_; subst x_
                intro x_ hx_; have hx_ : x_ = _ := hx_; subst x_
                intro x_ hx_; have hx_ : x_ = _ := hx_; subst x_
                intro x_ hx_; have hx_ : x_ = _ := hx_; subst x_
                intro x_ hx_; have hx_ : x_ = _ := hx_; subst x_
                intro v5_35 hv5_35
                intro v5_36 hv5_36
                intro v5_37 hv5_37
                intro x_ hx_; have hx_ : x_ = _ := hx_; subst x_
                intro x_ hx_; have hx_ : x_ = _ := hx_; subst x_
                intro x_ hx_; have hx_ : x_ = _ := hx_; subst x_
                intro x_ hx_; have hx_ : x_ = _ := hx_; subst x_
                intro x_ hx_; have hx_ : x_ = _ := hx_; subst x_
                intro x_ hx_; have hx_ : x_ = _ := hx_; subst x_
                intro x_ hx_; have hx_ : x_ = _ := hx_; subst x_
                intro x_ hx_; have hx_ : x_ = _ := hx_; subst x_
                intro x_ hx_; have hx_ : x_ = _ := hx_; subst x_
                intro x_ hx_; have hx_ : x_ = _ := hx_; subst x_
                intro x_ hx_; have hx_ : x_ = _ := hx_; subst x_
                intro x_ hx_; have hx_ : x_ = _ := hx_; subst x_
                intro x_ hx_; have hx_ : x_ = _ := hx_; subst x_
                intro x_ hx_; have hx_ : x_ = _ := hx_; subst x_
                intro x_ hx_; have hx_ : x_ = _ := hx_; subst x_
                intro x_ hx_; have hx_ : x_ = _ := hx_; subst x_
                intro x_ hx_; have hx_ : x_ = _ := hx_; subst x_
                intro x_ hx_; have hx_ : x_ = _ := hx_; subst x_
                intro x_ hx_; have hx_ : x_ = _ := hx_; subst x_
                intro x_ hx_; have hx_ : x_ = _ := hx_; subst x_
                intro x_ hx_; have hx_ : x_ = _ := hx_; subst x_
                intro x_ hx_; have hx_ : x_ = _ := hx_; subst x_
                intro x_ hx_; have hx_ : x_ = _ := hx_; subst x_
                intro x_ hx_; have hx_ : x_ = _ := hx_; subst x_
                refine T.ift rfl ?_
                refine T.seq ?_
                refine T.region ?_ -- region 6
                refine Rg.assign rfl rfl ?_
                refine Rg.nil ?_
                refine T.ret ?_
                refine Kret1 rfl rfl ⟨congrArg Value.bool (Eq.symm ?_), S4.trans0 sD5⟩
                rw [hr, mayPo_drop hx]
                first
                | (rw [decide_eq_false (show ¬ last < d by omega)]; simp; done)
                | (rw [decide_eq_false (show ¬ d < 2147483648 by omega)]; simp; done)
                | (rw [show ps = [] from List.length_eq_zero_iff.1 (by omega)]; simp; done)
                | (rw [show risesB ps = false from by unfold risesB; simp only [g5_45, Bool.false_and]]; simp; done)
                | (rw [show risesB ps = false from by unfold risesB; rw [Bool.not_eq_true] at g5_45; rw [g5_45]; rfl]; simp; done)
                | (rw [hrl, decide_eq_false (show ¬ y < 2147483648 by omega)]; simp; done)
            · -- g5_41 False
              by_cases g5_45 : ¬ rises (-1) ps = true
              · -- g5_45 True
                apply T.draw (M := M) mixed [Asr.eq _, Asr.eq _, Asr.ptr (RT.po) (d, ps), Asr.ptr (RT.int .i64) d, Asr.eq (.int .i64 d), Asr.eq _, Asr.eq (.bool false), Asr.eq _, Asr.eq _, Asr.ptr (RT.po) (d, ps), Asr.ptr (RT.int .i64) d, Asr.eq (.int .i64 d), Asr.eq _, Asr.eq _, Asr.eq (.bool false), Asr.eq _, Asr.eq _, Asr.eq (.bool false), Asr.eq undef, Asr.eq undef, Asr.eq undef, Asr.eq undef, Asr.eq undef, Asr.eq undef, Asr.eq undef, Asr.eq undef, Asr.eq undef, Asr.eq undef, Asr.eq undef, Asr.eq undef, Asr.eq _, Asr.eq _, Asr.eq _, Asr.eq _, Asr.eq _, Asr.ptr (RT.po) (d, ps), Asr.ptr ((RT.int .i64).sl) ps, Asr.V ((RT.int .i64).sl) ps, Asr.eq _, Asr.eq _, Asr.eq _, Asr.eq (.bool false), Asr.eq _, Asr.eq _, Asr.eq _, Asr.eq (.bool true), Asr.eq undef, Asr.eq undef, Asr.eq undef, Asr.eq undef, Asr.eq undef, Asr.eq undef, Asr.eq undef, Asr.eq undef, Asr.eq undef, Asr.eq undef, Asr.eq undef, Asr.eq undef, Asr.eq undef, Asr.eq undef, Asr.eq undef, Asr.eq _] -- region 5
                · rfl
                · -- its operations
                  refine Obls.cons ?_ ?_
                  · intro wD E sD -- 0
                    refine Rg.move rfl rfl ?_
                    exact Rg.nil ⟨rfl, rfl, _, rfl, rfl, Step.refl _ _⟩
                  refine Obls.cons ?_ ?_
                  · intro wD E sD -- 1
                    refine Rg.move rfl rfl ?_
                    exact Rg.nil ⟨rfl, rfl, _, rfl, rfl, Step.refl _ _⟩
                  refine Obls.cons ?_ ?_
                  · intro wD E sD -- 2
                    intro x_ hx_; have hx_ : x_ = _ := hx_; subst x_
                    intro x_ hx_; have hx_ : x_ = _ := hx_; subst x_
                    refine Rg.idx (M := M) Try.underlying28 I37 rfl rfl rfl (hvM.le sD.le) (Le.refl _ _) (by omega) (fun ui ai hgi hui => ?_)
                    obtain rfl : (d, ps) = ai := Eq.symm (Option.some.inj (hgi.symm.trans (by simpa using hx)))
                    exact Rg.nil ⟨rfl, rfl, _, rfl, hui, Step.refl _ _⟩
                  refine Obls.cons ?_ ?_
                  · intro wD E sD -- 3
                    intro v2 hv2
                    refine Rg.fieldAddr (M := M) (A := RT.po) (B := RT.int .i64) Try.underlying37 rfl rfl I3 (by decide) (po0) rfl rfl (by decide) (show PtrTo (RT.po) M wD v2 (d, ps) from hv2) (Le.refl _ _) (fun uf huf => ?_)
                    exact Rg.nil ⟨rfl, rfl, _, rfl, huf, Step.refl _ _⟩
                  refine Obls.cons ?_ ?_
                  · intro wD E sD -- 4
                    intro v3 hv3
                    refine Rg.loadi64 (M := M) Try.underlying3 rfl rfl (show PtrTo (RT.int .i64) M wD v3 d from hv3) (Le.refl _ _) (fun hin => ?_)
                    exact Rg.nil ⟨rfl, rfl, _, rfl, rfl, Step.refl _ _⟩
                  refine Obls.cons ?_ ?_
                  · intro wD E sD -- 5
                    intro x_ hx_; have hx_ : x_ = _ := hx_; subst x_
                    refine Rg.ilt rfl rfl rfl ?_
                    exact Rg.nil ⟨rfl, rfl, _, rfl, rfl, Step.refl _ _⟩
                  refine Obls.cons ?_ ?_
                  · intro wD E sD -- 6
                    intro x_ hx_; have hx_ : x_ = _ := hx_; subst x_
                    refine Rg.move rfl rfl ?_
                    refine Rg.nil ⟨rfl, rfl, _, rfl, ?_, Step.refl _ _⟩
                    exact congrArg Value.bool (decide_eq_false g5_6)
                  refine Obls.cons ?_ ?_
                  · intro wD E sD -- 7
                    intro x_ hx_; have hx_ : x_ = _ := hx_; subst x_
                    refine Rg.gyes rfl rfl ?_
                    refine Rg.move rfl rfl ?_
                    exact Rg.nil ⟨rfl, rfl, _, rfl, rfl, Step.refl _ _⟩
                  refine Obls.cons ?_ ?_
                  · intro wD E sD -- 8
                    intro x_ hx_; have hx_ : x_ = _ := hx_; subst x_
                    refine Rg.gyes rfl rfl ?_
                    refine Rg.move rfl rfl ?_
                    exact Rg.nil ⟨rfl, rfl, _, rfl, rfl, Step.refl _ _⟩
                  refine Obls.cons ?_ ?_
                  · intro wD E sD -- 9
                    intro x_ hx_; have hx_ : x_ = _ := hx_; subst x_
                    intro x_ hx_; have hx_ : x_ = _ := hx_; subst x_
                    intro x_ hx_; have hx_ : x_ = _ := hx_; subst x_
                    refine Rg.gyes rfl rfl ?_
                    refine Rg.idx (M := M) Try.underlying28 I37 rfl rfl rfl (hvM.le sD.le) (Le.refl _ _) (by omega) (fun ui ai hgi hui => ?_)
                    obtain rfl : (d, ps) = ai := Eq.symm (Option.some.inj (hgi.symm.trans (by simpa using hx)))
                    exact Rg.nil ⟨rfl, rfl, _, rfl, hui, Step.refl _ _⟩
                  refine Obls.cons ?_ ?_
                  · intro wD E sD -- 10
                    intro v9 hv9
                    intro x_ hx_; have hx_ : x_ = _ := hx_; subst x_
                    refine Rg.gyes rfl rfl ?_
                    refine Rg.fieldAddr (M := M) (A := RT.po) (B := RT.int .i64) Try.underlying37 rfl rfl I3 (by decide) (po0) rfl rfl (by decide) (show PtrTo (RT.po) M wD v9 (d, ps) from hv9) (Le.refl _ _) (fun uf huf => ?_)
                    exact Rg.nil ⟨rfl, rfl, _, rfl, huf, Step.refl _ _⟩
                  refine Obls.cons ?_ ?_
                  · intro wD E sD -- 11
                    intro v10 hv10
                    intro x_ hx_; have hx_ : x_ = _ := hx_; subst x_
                    refine Rg.gyes rfl rfl ?_
                    refine Rg.loadi64 (M := M) Try.underlying3 rfl rfl (show PtrTo (RT.int .i64) M wD v10 d from hv10) (Le.refl _ _) (fun hin => ?_)
                    exact Rg.nil ⟨rfl, rfl, _, rfl, rfl, Step.refl _ _⟩
                  refine Obls.cons ?_ ?_
                  · intro wD E sD -- 12
                    intro x_ hx_; have hx_ : x_ = _ := hx_; subst x_
                    intro x_ hx_; have hx_ : x_ = _ := hx_; subst x_
                    refine Rg.gyes rfl rfl ?_
                    refine Rg.ige rfl rfl rfl ?_
                    exact Rg.nil ⟨rfl, rfl, _, rfl, rfl, Step.refl _ _⟩
                  refine Obls.cons ?_ ?_
                  · intro wD E sD -- 13
                    intro x_ hx_; have hx_ : x_ = _ := hx_; subst x_
                    intro x_ hx_; have hx_ : x_ = _ := hx_; subst x_
                    refine Rg.pickf rfl rfl rfl ?_
                    exact Rg.nil ⟨rfl, rfl, _, rfl, rfl, Step.refl _ _⟩
                  refine Obls.cons ?_ ?_
                  · intro wD E sD -- 14
                    intro x_ hx_; have hx_ : x_ = _ := hx_; subst x_
                    intro x_ hx_; have hx_ : x_ = _ := hx_; subst x_
                    refine Rg.move rfl rfl ?_
                    refine Rg.nil ⟨rfl, rfl, _, rfl, ?_, Step.refl _ _⟩
                    exact congrArg Value.bool (decide_eq_false g5_14)
                  refine Obls.cons ?_ ?_
                  · intro wD E sD -- 15
                    intro x_ hx_; have hx_ : x_ = _ := hx_; subst x_
                    refine Rg.gyes rfl rfl ?_
                    refine Rg.move rfl rfl ?_
                    exact Rg.nil ⟨rfl, rfl, _, rfl, rfl, Step.refl _ _⟩
                  refine Obls.cons ?_ ?_
                  · intro wD E sD -- 16
                    intro x_ hx_; have hx_ : x_ = _ := hx_; subst x_
                    intro x_ hx_; have hx_ : x_ = _ := hx_; subst x_
                    refine Rg.gyes rfl rfl ?_
                    refine Rg.igt rfl rfl rfl ?_
                    exact Rg.nil ⟨rfl, rfl, _, rfl, rfl, Step.refl _ _⟩
                  refine Obls.cons ?_ ?_
                  · intro wD E sD -- 17
                    intro x_ hx_; have hx_ : x_ = _ := hx_; subst x_
                    intro x_ hx_; have hx_ : x_ = _ := hx_; subst x_
                    intro x_ hx_; have hx_ : x_ = _ := hx_; subst x_
                    refine Rg.gyes rfl rfl ?_
                    refine Rg.move rfl rfl ?_
                    refine Rg.nil ⟨rfl, rfl, _, rfl, ?_, Step.refl _ _⟩
                    exact congrArg Value.bool (decide_eq_false g5_17)
                  refine Obls.cons ?_ ?_
                  · intro wD E sD -- 18
                    intro x_ hx_; have hx_ : x_ = _ := hx_; subst x_
                    exact Rg.gno rfl rfl rfl rfl (Rg.nil ⟨rfl, rfl, _, rfl, rfl, Step.refl _ _⟩)
                  refine Obls.cons ?_ ?_
                  · intro wD E sD -- 19
                    intro x_ hx_; have hx_ : x_ = _ := hx_; subst x_
                    exact Rg.gno rfl rfl rfl rfl (Rg.nil ⟨rfl, rfl, _, rfl, rfl, Step.refl _ _⟩)
                  refine Obls.cons ?_ ?_
                  · intro wD E sD -- 20
                    intro x_ hx_; have hx_ : x_ = _ := hx_; subst x_
                    intro x_ hx_; have hx_ : x_ = _ := hx_; subst x_
                    intro x_ hx_; have hx_ : x_ = _ := hx_; subst x_
                    exact Rg.gno rfl rfl rfl rfl (Rg.nil ⟨rfl, rfl, _, rfl, rfl, Step.refl _ _⟩)
                  refine Obls.cons ?_ ?_
                  · intro wD E sD -- 21
                    intro x_ hx_; have hx_ : x_ = _ := hx_; subst x_
                    intro x_ hx_; have hx_ : x_ = _ := hx_; subst x_
                    exact Rg.gno rfl rfl rfl rfl (Rg.nil ⟨rfl, rfl, _, rfl, rfl, Step.refl _ _⟩)
                  refine Obls.cons ?_ ?_
                  · intro wD E sD -- 22
                    intro x_ hx_; have hx_ : x_ = _ := hx_; subst x_
                    intro x_ hx_; have hx_ : x_ = _ := hx_; subst x_
                    exact Rg.gno rfl rfl rfl rfl (Rg.nil ⟨rfl, rfl, _, rfl, rfl, Step.refl _ _⟩)
                  refine Obls.cons ?_ ?_
                  · intro wD E sD -- 23
                    intro x_ hx_; have hx_ : x_ = _ := hx_; subst x_
                    exact Rg.gno rfl rfl rfl rfl (Rg.nil ⟨rfl, rfl, _, rfl, rfl, Step.refl _ _⟩)
                  refine Obls.cons ?_ ?_
                  · intro wD E sD -- 24
                    intro x_ hx_; have hx_ : x_ = _ := hx_; subst x_
                    exact Rg.gno rfl rfl rfl rfl (Rg.nil ⟨rfl, rfl, _, rfl, rfl, Step.refl _ _⟩)
                  refine Obls.cons ?_ ?_
                  · intro wD E sD -- 25
                    intro x_ hx_; have hx_ : x_ = _ := hx_; subst x_
                    intro x_ hx_; have hx_ : x_ = _ := hx_; subst x_
                    exact Rg.gno rfl rfl rfl rfl (Rg.nil ⟨rfl, rfl, _, rfl, rfl, Step.refl _ _⟩)
                  refine Obls.cons ?_ ?_
                  · intro wD E sD -- 26
                    intro x_ hx_; have hx_ : x_ = _ := hx_; subst x_
                    intro x_ hx_; have hx_ : x_ = _ := hx_; subst x_
                    intro x_ hx_; have hx_ : x_ = _ := hx_; subst x_
                    exact Rg.gno rfl rfl rfl rfl (Rg.nil ⟨rfl, rfl, _, rfl, rfl, Step.refl _ _⟩)
                  refine Obls.cons ?_ ?_
                  · intro wD E sD -- 27
                    intro x_ hx_; have hx_ : x_ = _ := hx_; subst x_
                    intro x_ hx_; have hx_ : x_ = _ := hx_; subst x_
                    exact Rg.gno rfl rfl rfl rfl (Rg.nil ⟨rfl, rfl, _, rfl, rfl, Step.refl _ _⟩)
                  refine Obls.cons ?_ ?_
                  · intro wD E sD -- 28
                    intro x_ hx_; have hx_ : x_ = _ := hx_; subst x_
                    intro x_ hx_; have hx_ : x_ = _ := hx_; subst x_
                    exact Rg.gno rfl rfl rfl rfl (Rg.nil ⟨rfl, rfl, _, rfl, rfl, Step.refl _ _⟩)
                  refine Obls.cons ?_ ?_
                  · intro wD E sD -- 29
                    intro x_ hx_; have hx_ : x_ = _ := hx_; subst x_
                    intro x_ hx_; have hx_ : x_ = _ := hx_; subst x_
                    intro x_ hx_; have hx_ : x_ = _ := hx_; subst x_
                    exact Rg.gno rfl rfl rfl rfl (Rg.nil ⟨rfl, rfl, _, rfl, rfl, Step.refl _ _⟩)
                  refine Obls.cons ?_ ?_
                  · intro wD E sD -- 30
                    intro x_ hx_; have hx_ : x_ = _ := hx_; subst x_
                    intro x_ hx_; have hx_ : x_ = _ := hx_; subst x_
                    intro x_ hx_; have hx_ : x_ = _ := hx_; subst x_
                    refine Rg.gyes rfl rfl ?_
                    refine Rg.pickf rfl rfl rfl ?_
                    exact Rg.nil ⟨rfl, rfl, _, rfl, rfl, Step.refl _ _⟩
                  refine Obls.cons ?_ ?_
                  · intro wD E sD -- 31
                    intro x_ hx_; have hx_ : x_ = _ := hx_; subst x_
                    intro x_ hx_; have hx_ : x_ = _ := hx_; subst x_
                    refine Rg.pickf rfl rfl rfl ?_
                    exact Rg.nil ⟨rfl, rfl, _, rfl, rfl, Step.refl _ _⟩
                  refine Obls.cons ?_ ?_
                  · intro wD E sD -- 32
                    intro x_ hx_; have hx_ : x_ = _ := hx_; subst x_
                    intro x_ hx_; have hx_ : x_ = _ := hx_; subst x_
                    refine Rg.move rfl rfl ?_
                    exact Rg.nil ⟨rfl, rfl, _, rfl, rfl, Step.refl _ _⟩
                  refine Obls.cons ?_ ?_
                  · intro wD E sD -- 33
                    intro x_ hx_; have hx_ : x_ = _ := hx_; subst x_
                    refine Rg.gyes rfl rfl ?_
                    refine Rg.move rfl rfl ?_
                    exact Rg.nil ⟨rfl, rfl, _, rfl, rfl, Step.refl _ _⟩
                  refine Obls.cons ?_ ?_
                  · intro wD E sD -- 34
                    intro x_ hx_; have hx_ : x_ = _ := hx_; subst x_
                    refine Rg.gyes rfl rfl ?_
                    refine Rg.move rfl rfl ?_
                    exact Rg.nil ⟨rfl, rfl, _, rfl, rfl, Step.refl _ _⟩
                  refine Obls.cons ?_ ?_
                  · intro wD E sD -- 35
                    intro x_ hx_; have hx_ : x_ = _ := hx_; subst x_
                    intro x_ hx_; have hx_ : x_ = _ := hx_; subst x_
                    intro x_ hx_; have hx_ : x_ = _ := hx_; subst x_
                    refine Rg.gyes rfl rfl ?_
                    refine Rg.idx (M := M) Try.underlying28 I37 rfl rfl rfl (hvM.le sD.le) (Le.refl _ _) (by omega) (fun ui ai hgi hui => ?_)
                    obtain rfl : (d, ps) = ai := Eq.symm (Option.some.inj (hgi.symm.trans (by simpa using hx)))
                    exact Rg.nil ⟨rfl, rfl, _, rfl, hui, Step.refl _ _⟩
                  refine Obls.cons ?_ ?_
                  · intro wD E sD -- 36
                    intro v35 hv35
                    intro x_ hx_; have hx_ : x_ = _ := hx_; subst x_
                    refine Rg.gyes rfl rfl ?_
                    refine Rg.fieldAddr (M := M) (A := RT.po) (B := (RT.int .i64).sl) Try.underlying37 rfl rfl I23 (by decide) (po1) rfl rfl (by decide) (show PtrTo (RT.po) M wD v35 (d, ps) from hv35) (Le.refl _ _) (fun uf huf => ?_)
                    exact Rg.nil ⟨rfl, rfl, _, rfl, huf, Step.refl _ _⟩
                  refine Obls.cons ?_ ?_
                  · intro wD E sD -- 37
                    intro v36 hv36
                    intro x_ hx_; have hx_ : x_ = _ := hx_; subst x_
                    refine Rg.gyes rfl rfl ?_
                    refine Rg.load (M := M) Try.underlying23 rfl rfl rfl rfl rfl (show PtrTo ((RT.int .i64).sl) M wD v36 ps from hv36) (Le.refl _ _) (fun va hva => ?_)
                    exact Rg.nil ⟨rfl, rfl, _, rfl, hva, Step.refl _ _⟩
                  refine Obls.cons ?_ ?_
                  · intro wD E sD -- 38
                    intro v37 hv37
                    intro x_ hx_; have hx_ : x_ = _ := hx_; subst x_
                    refine Rg.gyes rfl rfl ?_
                    refine Rg.lensl Try.underlying23 rfl (show ((RT.int .i64).sl).V M wD ps v37 from hv37) rfl ?_
                    exact Rg.nil ⟨rfl, rfl, _, rfl, rfl, Step.refl _ _⟩
                  refine Obls.cons ?_ ?_
                  · intro wD E sD -- 39
                    intro x_ hx_; have hx_ : x_ = _ := hx_; subst x_
                    intro x_ hx_; have hx_ : x_ = _ := hx_; subst x_
                    refine Rg.gyes rfl rfl ?_
                    refine Rg.ieq rfl rfl rfl ?_
                    exact Rg.nil ⟨rfl, rfl, _, rfl, rfl, Step.refl _ _⟩
                  refine Obls.cons ?_ ?_
                  · intro wD E sD -- 40
                    intro x_ hx_; have hx_ : x_ = _ := hx_; subst x_
                    intro x_ hx_; have hx_ : x_ = _ := hx_; subst x_
                    refine Rg.pickf rfl rfl rfl ?_
                    exact Rg.nil ⟨rfl, rfl, _, rfl, rfl, Step.refl _ _⟩
                  refine Obls.cons ?_ ?_
                  · intro wD E sD -- 41
                    intro x_ hx_; have hx_ : x_ = _ := hx_; subst x_
                    intro x_ hx_; have hx_ : x_ = _ := hx_; subst x_
                    refine Rg.move rfl rfl ?_
                    refine Rg.nil ⟨rfl, rfl, _, rfl, ?_, Step.refl _ _⟩
                    exact congrArg Value.bool (decide_eq_false g5_41)
                  refine Obls.cons ?_ ?_
                  · intro wD E sD -- 42
                    intro x_ hx_; have hx_ : x_ = _ := hx_; subst x_
                    refine Rg.gyes rfl rfl ?_
                    refine Rg.move rfl rfl ?_
                    exact Rg.nil ⟨rfl, rfl, _, rfl, rfl, Step.refl _ _⟩
                  refine Obls.cons ?_ ?_
                  · intro wD E sD -- 43
                    intro x_ hx_; have hx_ : x_ = _ := hx_; subst x_
                    intro x_ hx_; have hx_ : x_ = _ := hx_; subst x_
                    refine Rg.gyes rfl rfl ?_
                    refine Rg.not rfl rfl ?_
                    refine Rg.eqv (v' := .bool (decide (¬ rises (-1) ps = true))) (by simp) ?_
                    exact Rg.nil ⟨rfl, rfl, _, rfl, rfl, Step.refl _ _⟩
                  refine Obls.cons ?_ ?_
                  · intro wD E sD -- 44
                    intro x_ hx_; have hx_ : x_ = _ := hx_; subst x_
                    intro x_ hx_; have hx_ : x_ = _ := hx_; subst x_
                    refine Rg.pickf rfl rfl rfl ?_
                    exact Rg.nil ⟨rfl, rfl, _, rfl, rfl, Step.refl _ _⟩
                  refine Obls.cons ?_ ?_
                  · intro wD E sD -- 45
                    intro x_ hx_; have hx_ : x_ = _ := hx_; subst x_
                    intro x_ hx_; have hx_ : x_ = _ := hx_; subst x_
                    refine Rg.move rfl rfl ?_
                    refine Rg.nil ⟨rfl, rfl, _, rfl, ?_, Step.refl _ _⟩
                    exact congrArg Value.bool (decide_eq_true g5_45)
                  refine Obls.cons ?_ ?_
                  · intro wD E sD -- 46
                    intro x_ hx_; have hx_ : x_ = _ := hx_; subst x_
                    exact Rg.gno rfl rfl rfl rfl (Rg.nil ⟨rfl, rfl, _, rfl, rfl, Step.refl _ _⟩)
                  refine Obls.cons ?_ ?_
                  · intro wD E sD -- 47
                    intro x_ hx_; have hx_ : x_ = _ := hx_; subst x_
                    exact Rg.gno rfl rfl rfl rfl (Rg.nil ⟨rfl, rfl, _, rfl, rfl, Step.refl _ _⟩)
                  refine Obls.cons ?_ ?_
                  · intro wD E sD -- 48
                    intro x_ hx_; have hx_ : x_ = _ := hx_; subst x_
                    intro x_ hx_; have hx_ : x_ = _ := hx_; subst x_
                    intro x_ hx_; have hx_ : x_ = _ := hx_; subst x_
                    exact Rg.gno rfl rfl rfl rfl (Rg.nil ⟨rfl, rfl, _, rfl, rfl, Step.refl _ _⟩)
                  refine Obls.cons ?_ ?_
                  · intro wD E sD -- 49
                    intro x_ hx_; have hx_ : x_ = _ := hx_; subst x_
                    intro x_ hx_; have hx_ : x_ = _ := hx_; subst x_
                    exact Rg.gno rfl rfl rfl rfl (Rg.nil ⟨rfl, rfl, _, rfl, rfl, Step.refl _ _⟩)
                  refine Obls.cons ?_ ?_
                  · intro wD E sD -- 50
                    intro x_ hx_; have hx_ : x_ = _ := hx_; subst x_
                    intro x_ hx_; have hx_ : x_ = _ := hx_; subst x_
                    exact Rg.gno rfl rfl rfl rfl (Rg.nil ⟨rfl, rfl, _, rfl, rfl, Step.refl _ _⟩)
                  refine Obls.cons ?_ ?_
                  · intro wD E sD -- 51
                    intro x_ hx_; have hx_ : x_ = _ := hx_; subst x_
                    exact Rg.gno rfl rfl rfl rfl (Rg.nil ⟨rfl, rfl, _, rfl, rfl, Step.refl _ _⟩)
                  refine Obls.cons ?_ ?_
                  · intro wD E sD -- 52
                    intro x_ hx_; have hx_ : x_ = _ := hx_; subst x_
                    exact Rg.gno rfl rfl rfl rfl (Rg.nil ⟨rfl, rfl, _, rfl, rfl, Step.refl _ _⟩)
                  refine Obls.cons ?_ ?_
                  · intro wD E sD -- 53
                    intro x_ hx_; have hx_ : x_ = _ := hx_; subst x_
                    intro x_ hx_; have hx_ : x_ = _ := hx_; subst x_
                    intro x_ hx_; have hx_ : x_ = _ := hx_; subst x_
                    exact Rg.gno rfl rfl rfl rfl (Rg.nil ⟨rfl, rfl, _, rfl, rfl, Step.refl _ _⟩)
                  refine Obls.cons ?_ ?_
                  · intro wD E sD -- 54
                    intro x_ hx_; have hx_ : x_ = _ := hx_; subst x_
                    intro x_ hx_; have hx_ : x_ = _ := hx_; subst x_
                    exact Rg.gno rfl rfl rfl rfl (Rg.nil ⟨rfl, rfl, _, rfl, rfl, Step.refl _ _⟩)
                  refine Obls.cons ?_ ?_
                  · intro wD E sD -- 55
                    intro x_ hx_; have hx_ : x_ = _ := hx_; subst x_
                    intro x_ hx_; have hx_ : x_ = _ := hx_; subst x_
                    exact Rg.gno rfl rfl rfl rfl (Rg.nil ⟨rfl, rfl, _, rfl, rfl, Step.refl _ _⟩)
                  refine Obls.cons ?_ ?_
                  · intro wD E sD -- 56
                    intro x_ hx_; have hx_ : x_ = _ := hx_; subst x_
                    intro x_ hx_; have hx_ : x_ = _ := hx_; subst x_
                    exact Rg.gno rfl rfl rfl rfl (Rg.nil ⟨rfl, rfl, _, rfl, rfl, Step.refl _ _⟩)
                  refine Obls.cons ?_ ?_
                  · intro wD E sD -- 57
                    intro x_ hx_; have hx_ : x_ = _ := hx_; subst x_
                    intro x_ hx_; have hx_ : x_ = _ := hx_; subst x_
                    exact Rg.gno rfl rfl rfl rfl (Rg.nil ⟨rfl, rfl, _, rfl, rfl, Step.refl _ _⟩)
                  refine Obls.cons ?_ ?_
                  · intro wD E sD -- 58
                    intro x_ hx_; have hx_ : x_ = _ := hx_; subst x_
                    intro x_ hx_; have hx_ : x_ = _ := hx_; subst x_
                    intro x_ hx_; have hx_ : x_ = _ := hx_; subst x_
                    exact Rg.gno rfl rfl rfl rfl (Rg.nil ⟨rfl, rfl, _, rfl, rfl, Step.refl _ _⟩)
                  refine Obls.cons ?_ ?_
                  · intro wD E sD -- 59
                    intro x_ hx_; have hx_ : x_ = _ := hx_; subst x_
                    intro x_ hx_; have hx_ : x_ = _ := hx_; subst x_
                    exact Rg.gno rfl rfl rfl rfl (Rg.nil ⟨rfl, rfl, _, rfl, rfl, Step.refl _ _⟩)
                  refine Obls.cons ?_ ?_
                  · intro wD E sD -- 60
                    intro x_ hx_; have hx_ : x_ = _ := hx_; subst x_
                    intro x_ hx_; have hx_ : x_ = _ := hx_; subst x_
                    exact Rg.gno rfl rfl rfl rfl (Rg.nil ⟨rfl, rfl, _, rfl, rfl, Step.refl _ _⟩)
                  refine Obls.cons ?_ ?_
                  · intro wD E sD -- 61
                    intro x_ hx_; have hx_ : x_ = _ := hx_; subst x_
                    intro x_ hx_; have hx_ : x_ = _ := hx_; subst x_
                    refine Rg.pickt rfl rfl rfl ?_
                    exact Rg.nil ⟨rfl, rfl, _, rfl, rfl, Step.refl _ _⟩
                  exact Obls.nil
                · -- behind it
                  intro wD5 sD5
                  intro x_ hx_; have hx_ : x_ = _ := hx_; subst x_
                  intro x_ hx_; have hx_ : x_ = _ := hx_; subst x_
                  intro v5_2 hv5_2
                  intro v5_3 hv5_3
                  intro x_ hx_; have hx_ : x_ = _ := hx_; subst x_
                  intro x_ hx_; have hx_ : x_ = _ := hx_; subst x_
                  intro x_ hx_; have hx_ : x_ = _ := hx_; subst x_
                  intro x_ hx_; have hx_ : x_ = _ := hx_; subst x_
                  intro x_ hx_; have hx_ : x_ = _ := hx_; subst x_
                  intro v5_9 hv5_9
                  intro v5_10 hv5_10
                  intro x_ hx_; have hx_ : x_ = _ := hx_; subst x_
                  intro x_ hx_; have hx_ : x_ = _ := hx_; subst x_
                  intro x_ hx_; have hx_ : x_ = _ := hx_; subst x_
                  intro x_ hx_; have hx_ : x_ = _ := hx_; subst x_
                  intro x_ hx_; have hx_ : x_ = _ := hx_; subst x_
                  intro x_ hx_; have hx_ : x_ = _ := hx_; subst x_
                  intro x_ hx_; have hx_ : x_ = _ := hx_; subst x_
                  intro x_ hx_; have hx_ : x_ = _ := hx_; subst x_
                  intro x_ hx_; have hx_ : x_ = _ := hx_; subst x_
                  intro x_ hx_; have hx_ : x_ = _ := hx_; subst x_
                  intro x_ hx_; have hx_ : x_ = _ := hx_; subst x_
                  intro x_ hx_; have hx_ : x_ = _ := hx_; subst x_
                  intro x_ hx_; have hx_ : x_ = _ := hx_; subst x_
                  intro x_ hx_; have hx_ : x_ = _ := hx_; subst x_
                  intro x_ hx_; have hx_ : x_ = _ := hx_; subst x_
                  intro x_ hx_; have hx_ : x_ = _ := hx_; subst x_
                  intro x_ hx_; have hx_ : x_ = _ := hx_; subst x_
                  intro x_ hx_; have hx_ : x_ = _ := hx_; subst x_
                  intro x_ hx_; have hx_ : x_ = _ := hx_; subst x_
                  intro x_ hx_; have hx_ : x_ = _ := hx_; subst x_
                  intro x_ hx_; have hx_ : x_ = _ := hx_; subst x_
                  intro x_ hx_; have hx_ : x_ = _ := hx_; subst x_
                  intro x_ hx_; have hx_ : x_ = _ := hx_; subst x_
                  intro x_ hx_; have hx_ : x_ = _ := hx_; subst x_
                  intro v5_35 hv5_35
                  intro v5_36 hv5_36
                  intro v5_37 hv5_37
                  intro x_ hx_; have hx_ : x_ = _ := hx_; subst x_
                  intro x_ hx_; have hx_ : x_ = _ := hx_; subst x_
                  intro x_ hx_; have hx_ : x_ = _ := hx_; subst x_
                  intro x_ hx_; have hx_ : x_ = _ := hx_; subst x_
                  intro x_ hx_; have hx_ : x_ = _ := hx_; subst x_
                  intro x_ hx_; have hx_ : x_ = _ := hx_; subst x_
                  intro x_ hx_; have hx_ : x_ = _ := hx_; subst x_
                  intro x_ hx_; have hx_ : x_ = _ := hx_; subst x_
                  intro x_ hx_; have hx_ : x_ = _ := hx_; subst x_
                  intro x_ hx_; have hx_ : x_ = _ := hx_; subst x_
                  intro x_ hx_; have hx_ : x_ = _ := hx_; subst x_
                  intro x_ hx_; have hx_ : x_ = _ := hx_; subst x_
                  intro x_ hx_; have hx_ : x_ = _ := hx_; subst x_
                  intro x_ hx_; have hx_ : x_ = _ := hx_; subst x_
                  intro x_ hx_; have hx_ : x_ = _ := hx_; subst x_
                  intro x_ hx_; have hx_ : x_ = _ := hx_; subst x_
                  intro x_ hx_; have hx_ : x_ = _ := hx_; subst x_
                  intro x_ hx_; have hx_ : x_ = _ := hx_; subst x_
                  intro x_ hx_; have hx_ : x_ = _ := hx_; subst x_
                  intro x_ hx_; have hx_ : x_ = _ := hx_; subst x_
                  intro x_ hx_; have hx_ : x_ = _ := hx_; subst x_
                  intro x_ hx_; have hx_ : x_ = _ := hx_; subst x_
                  intro x_ hx_; have hx_ : x_ = _ := hx_; subst x_
                  intro x_ hx_; have hx_ : x_ = _ := hx_; subst x_
                  refine T.ift rfl ?_
                  refine T.seq ?_
                  refine T.region ?_ -- region 6
                  refine Rg.assign rfl rfl ?_
                  refine Rg.nil ?_
                  refine T.ret ?_
                  refine Kret1 rfl rfl ⟨congrArg Value.bool (Eq.symm ?_), S4.trans0 sD5⟩
                  rw [hr, mayPo_drop hx]
                  first
                  | (rw [decide_eq_false (show ¬ last < d by omega)]; simp; done)
                  | (rw [decide_eq_false (show ¬ d < 2147483648 by omega)]; simp; done)
                  | (rw [show ps = [] from List.length_eq_zero_iff.1 (by omega)]; simp; done)
                  | (rw [show risesB ps = false from by unfold risesB; simp only [g5_45, Bool.false_and]]; simp; done)
                  | (rw [show risesB ps = false from by unfold risesB; rw [Bool.not_eq_true] at g5_45; rw [g5_45]; rfl]; simp; done)
                  | (rw [hrl, decide_eq_false (show ¬ y < 2147483648 by omega)]; simp; done)
              · -- g5_45 False
                obtain ⟨y, hy⟩ : ∃ y, ps[ps.length - 1]? = some y := ⟨_, List.getElem?_eq_getElem (by omega)⟩
                have hrl := risesB_last (Decidable.not_not.1 g5_45) hy
                apply T.draw (M := M) mixed [Asr.eq _, Asr.eq _, Asr.ptr (RT.po) (d, ps), Asr.ptr (RT.int .i64) d, Asr.eq (.int .i64 d), Asr.eq _, Asr.eq (.bool false), Asr.eq _, Asr.eq _, Asr.ptr (RT.po) (d, ps), Asr.ptr (RT.int .i64) d, Asr.eq (.int .i64 d), Asr.eq _, Asr.eq _, Asr.eq (.bool false), Asr.eq _, Asr.eq _, Asr.eq (.bool false), Asr.eq undef, Asr.eq undef, Asr.eq undef, Asr.eq undef, Asr.eq undef, Asr.eq undef, Asr.eq undef, Asr.eq undef, Asr.eq undef, Asr.eq undef, Asr.eq undef, Asr.eq undef, Asr.eq _, Asr.eq _, Asr.eq _, Asr.eq _, Asr.eq _, Asr.ptr (RT.po) (d, ps), Asr.ptr ((RT.int .i64).sl) ps, Asr.V ((RT.int .i64).sl) ps, Asr.eq _, Asr.eq _, Asr.eq _, Asr.eq (.bool false), Asr.eq _, Asr.eq _, Asr.eq _, Asr.eq (.bool false), Asr.eq _, Asr.eq _, Asr.ptr (RT.po) (d, ps), Asr.ptr ((RT.int .i64).sl) ps, Asr.V ((RT.int .i64).sl) ps, Asr.eq _, Asr.eq _, Asr.ptr (RT.po) (d, ps), Asr.ptr ((RT.int .i64).sl) ps, Asr.V ((RT.int .i64).sl) ps, Asr.eq _, Asr.eq _, Asr.ptr (RT.int .i64) y, Asr.eq (.int .i64 y), Asr.eq _, Asr.eq _] -- region 5
                · rfl
                · -- its operations
                  refine Obls.cons ?_ ?_
                  · intro wD E sD -- 0
                    refine Rg.move rfl rfl ?_
                    exact Rg.nil ⟨rfl, rfl, _, rfl, rfl, Step.refl _ _⟩
                  refine Obls.cons ?_ ?_
                  · intro wD E sD -- 1
                    refine Rg.move rfl rfl ?_
                    exact Rg.nil ⟨rfl, rfl, _, rfl, rfl, Step.refl _ _⟩
                  refine Obls.cons ?_ ?_
                  · intro wD E sD -- 2
                    intro x_ hx_; have hx_ : x_ = _ := hx_; subst x_
                    intro x_ hx_; have hx_ : x_ = _ := hx_; subst x_
                    refine Rg.idx (M := M) Try.underlying28 I37 rfl rfl rfl (hvM.le sD.le) (Le.refl _ _) (by omega) (fun ui ai hgi hui => ?_)
                    obtain rfl : (d, ps) = ai := Eq.symm (Option.some.inj (hgi.symm.trans (by simpa using hx)))
                    exact Rg.nil ⟨rfl, rfl, _, rfl, hui, Step.refl _ _⟩
                  refine Obls.cons ?_ ?_
                  · intro wD E sD -- 3
                    intro v2 hv2
                    refine Rg.fieldAddr (M := M) (A := RT.po) (B := RT.int .i64) Try.underlying37 rfl rfl I3 (by decide) (po0) rfl rfl (by decide) (show PtrTo (RT.po) M wD v2 (d, ps) from hv2) (Le.refl _ _) (fun uf huf => ?_)
                    exact Rg.nil ⟨rfl, rfl, _, rfl, huf, Step.refl _ _⟩
                  refine Obls.cons ?_ ?_
                  · intro wD E sD -- 4
                    intro v3 hv3
                    refine Rg.loadi64 (M := M) Try.underlying3 rfl rfl (show PtrTo (RT.int .i64) M wD v3 d from hv3) (Le.refl _ _) (fun hin => ?_)
                    exact Rg.nil ⟨rfl, rfl, _, rfl, rfl, Step.refl _ _⟩
                  refine Obls.cons ?_ ?_
                  · intro wD E sD -- 5
                    intro x_ hx_; have hx_ : x_ = _ := hx_; subst x_
                    refine Rg.ilt rfl rfl rfl ?_
                    exact Rg.nil ⟨rfl, rfl, _, rfl, rfl, Step.refl _ _⟩
                  refine Obls.cons ?_ ?_
                  · intro wD E sD -- 6
                    intro x_ hx_; have hx_ : x_ = _ := hx_; subst x_
                    refine Rg.move rfl rfl ?_
                    refine Rg.nil ⟨rfl, rfl, _, rfl, ?_, Step.refl _ _⟩
                    exact congrArg Value.bool (decide_eq_false g5_6)
                  refine Obls.cons ?_ ?_
                  · intro wD E sD -- 7
                    intro x_ hx_; have hx_ : x_ = _ := hx_; subst x_
                    refine Rg.gyes rfl rfl ?_
                    refine Rg.move rfl rfl ?_
                    exact Rg.nil ⟨rfl, rfl, _, rfl, rfl, Step.refl _ _⟩
                  refine Obls.cons ?_ ?_
                  · intro wD E sD -- 8
                    intro x_ hx_; have hx_ : x_ = _ := hx_; subst x_
                    refine Rg.gyes rfl rfl ?_
                    refine Rg.move rfl rfl ?_
                    exact Rg.nil ⟨rfl, rfl, _, rfl, rfl, Step.refl _ _⟩
                  refine Obls.cons ?_ ?_
                  · intro wD E sD -- 9
                    intro x_ hx_; have hx_ : x_ = _ := hx_; subst x_
                    intro x_ hx_; have hx_ : x_ = _ := hx_; subst x_
                    intro x_ hx_; have hx_ : x_ = _ := hx_; subst x_
                    refine Rg.gyes rfl rfl ?_
                    refine Rg.idx (M := M) Try.underlying28 I37 rfl rfl rfl (hvM.le sD.le) (Le.refl _ _) (by omega) (fun ui ai hgi hui => ?_)
                    obtain rfl : (d, ps) = ai := Eq.symm (Option.some.inj (hgi.symm.trans (by simpa using hx)))
                    exact Rg.nil ⟨rfl, rfl, _, rfl, hui, Step.refl _ _⟩
                  refine Obls.cons ?_ ?_
                  · intro wD E sD -- 10
                    intro v9 hv9
                    intro x_ hx_; have hx_ : x_ = _ := hx_; subst x_
                    refine Rg.gyes rfl rfl ?_
                    refine Rg.fieldAddr (M := M) (A := RT.po) (B := RT.int .i64) Try.underlying37 rfl rfl I3 (by decide) (po0) rfl rfl (by decide) (show PtrTo (RT.po) M wD v9 (d, ps) from hv9) (Le.refl _ _) (fun uf huf => ?_)
                    exact Rg.nil ⟨rfl, rfl, _, rfl, huf, Step.refl _ _⟩
                  refine Obls.cons ?_ ?_
                  · intro wD E sD -- 11
                    intro v10 hv10
                    intro x_ hx_; have hx_ : x_ = _ := hx_; subst x_
                    refine Rg.gyes rfl rfl ?_
                    refine Rg.loadi64 (M := M) Try.underlying3 rfl rfl (show PtrTo (RT.int .i64) M wD v10 d from hv10) (Le.refl _ _) (fun hin => ?_)
                    exact Rg.nil ⟨rfl, rfl, _, rfl, rfl, Step.refl _ _⟩
                  refine Obls.cons ?_ ?_
                  · intro wD E sD -- 12
                    intro x_ hx_; have hx_ : x_ = _ := hx_; subst x_
                    intro x_ hx_; have hx_ : x_ = _ := hx_; subst x_
                    refine Rg.gyes rfl rfl ?_
                    refine Rg.ige rfl rfl rfl ?_
                    exact Rg.nil ⟨rfl, rfl, _, rfl, rfl, Step.refl _ _⟩
                  refine Obls.cons ?_ ?_
                  · intro wD E sD -- 13
                    intro x_ hx_; have hx_ : x_ = _ := hx_; subst x_
                    intro x_ hx_; have hx_ : x_ = _ := hx_; subst x_
                    refine Rg.pickf rfl rfl rfl ?_
                    exact Rg.nil ⟨rfl, rfl, _, rfl, rfl, Step.refl _ _⟩
                  refine Obls.cons ?_ ?_
                  · intro wD E sD -- 14
                    intro x_ hx_; have hx_ : x_ = _ := hx_; subst x_
                    intro x_ hx_; have hx_ : x_ = _ := hx_; subst x_
                    refine Rg.move rfl rfl ?_
                    refine Rg.nil ⟨rfl, rfl, _, rfl, ?_, Step.refl _ _⟩
                    exact congrArg Value.bool (decide_eq_false g5_14)
                  refine Obls.cons ?_ ?_
                  · intro wD E sD -- 15
                    intro x_ hx_; have hx_ : x_ = _ := hx_; subst x_
                    refine Rg.gyes rfl rfl ?_
                    refine Rg.move rfl rfl ?_
                    exact Rg.nil ⟨rfl, rfl, _, rfl, rfl, Step.refl _ _⟩
                  refine Obls.cons ?_ ?_
                  · intro wD E sD -- 16
                    intro x_ hx_; have hx_ : x_ = _ := hx_; subst x_
                    intro x_ hx_; have hx_ : x_ = _ := hx_; subst x_
                    refine Rg.gyes rfl rfl ?_
                    refine Rg.igt rfl rfl rfl ?_
                    exact Rg.nil ⟨rfl, rfl, _, rfl, rfl, Step.refl _ _⟩
                  refine Obls.cons ?_ ?_
                  · intro wD E sD -- 17
                    intro x_ hx_; have hx_ : x_ = _ := hx_; subst x_
                    intro x_ hx_; have hx_ : x_ = _ := hx_; subst x_
                    intro x_ hx_; have hx_ : x_ = _ := hx_; subst x_
                    refine Rg.gyes rfl rfl ?_
                    refine Rg.move rfl rfl ?_
                    refine Rg.nil ⟨rfl, rfl, _, rfl, ?_, Step.refl _ _⟩
                    exact congrArg Value.bool (decide_eq_false g5_17)
                  refine Obls.cons ?_ ?_
                  · intro wD E sD -- 18
                    intro x_ hx_; have hx_ : x_ = _ := hx_; subst x_
                    exact Rg.gno rfl rfl rfl rfl (Rg.nil ⟨rfl, rfl, _, rfl, rfl, Step.refl _ _⟩)
                  refine Obls.cons ?_ ?_
                  · intro wD E sD -- 19
                    intro x_ hx_; have hx_ : x_ = _ := hx_; subst x_
                    exact Rg.gno rfl rfl rfl rfl (Rg.nil ⟨rfl, rfl, _, rfl, rfl, Step.refl _ _⟩)
                  refine Obls.cons ?_ ?_
                  · intro wD E sD -- 20
                    intro x_ hx_; have hx_ : x_ = _ := hx_; subst x_
                    intro x_ hx_; have hx_ : x_ = _ := hx_; subst x_
                    intro x_ hx_; have hx_ : x_ = _ := hx_; subst x_
                    exact Rg.gno rfl rfl rfl rfl (Rg.nil ⟨rfl, rfl, _, rfl, rfl, Step.refl _ _⟩)
                  refine Obls.cons ?_ ?_
                  · intro wD E sD -- 21
                    intro x_ hx_; have hx_ : x_ = _ := hx_; subst x_
                    intro x_ hx_; have hx_ : x_ = _ := hx_; subst x_
                    exact Rg.gno rfl rfl rfl rfl (Rg.nil ⟨rfl, rfl, _, rfl, rfl, Step.refl _ _⟩)
                  refine Obls.cons ?_ ?_
                  · intro wD E sD -- 22
                    intro x_ hx_; have hx_ : x_ = _ := hx_; subst x_
                    intro x_ hx_; have hx_ : x_ = _ := hx_; subst x_
                    exact Rg.gno rfl rfl rfl rfl (Rg.nil ⟨rfl, rfl, _, rfl, rfl, Step.refl _ _⟩)
                  refine Obls.cons ?_ ?_
                  · intro wD E sD -- 23
                    intro x_ hx_; have hx_ : x_ = _ := hx_; subst x_
                    exact Rg.gno rfl rfl rfl rfl (Rg.nil ⟨rfl, rfl, _, rfl, rfl, Step.refl _ _⟩)
                  refine Obls.cons ?_ ?_
                  · intro wD E sD -- 24
                    intro x_ hx_; have hx_ : x_ = _ := hx_; subst x_
                    exact Rg.gno rfl rfl rfl rfl (Rg.nil ⟨rfl, rfl, _, rfl, rfl, Step.refl _ _⟩)
                  refine Obls.cons ?_ ?_
                  · intro wD E sD -- 25
                    intro x_ hx_; have hx_ : x_ = _ := hx_; subst x_
                    intro x_ hx_; have hx_ : x_ = _ := hx_; subst x_
                    exact Rg.gno rfl rfl rfl rfl (Rg.nil ⟨rfl, rfl, _, rfl, rfl, Step.refl _ _⟩)
                  refine Obls.cons ?_ ?_
                  · intro wD E sD -- 26
                    intro x_ hx_; have hx_ : x_ = _ := hx_; subst x_
                    intro x_ hx_; have hx_ : x_ = _ := hx_; subst x_
                    intro x_ hx_; have hx_ : x_ = _ := hx_; subst x_
                    exact Rg.gno rfl rfl rfl rfl (Rg.nil ⟨rfl, rfl, _, rfl, rfl, Step.refl _ _⟩)
                  refine Obls.cons ?_ ?_
                  · intro wD E sD -- 27
                    intro x_ hx_; have hx_ : x_ = _ := hx_; subst x_
                    intro x_ hx_; have hx_ : x_ = _ := hx_; subst x_
                    exact Rg.gno rfl rfl rfl rfl (Rg.nil ⟨rfl, rfl, _, rfl, rfl, Step.refl _ _⟩)
                  refine Obls.cons ?_ ?_
                  · intro wD E sD -- 28
                    intro x_ hx_; have hx_ : x_ = _ := hx_; subst x_
                    intro x_ hx_; have hx_ : x_ = _ := hx_; subst x_
                    exact Rg.gno rfl rfl rfl rfl (Rg.nil ⟨rfl, rfl, _, rfl, rfl, Step.refl _ _⟩)
                  refine Obls.cons ?_ ?_
                  · intro wD E sD -- 29
                    intro x_ hx_; have hx_ : x_ = _ := hx_; subst x_
                    intro x_ hx_; have hx_ : x_ = _ := hx_; subst x_
                    intro x_ hx_; have hx_ : x_ = _ := hx_; subst x_
                    exact Rg.gno rfl rfl rfl rfl (Rg.nil ⟨rfl, rfl, _, rfl, rfl, Step.refl _ _⟩)
                  refine Obls.cons ?_ ?_
                  · intro wD E sD -- 30
                    intro x_ hx_; have hx_ : x_ = _ := hx_; subst x_
                    intro x_ hx_; have hx_ : x_ = _ := hx_; subst x_
                    intro x_ hx_; have hx_ : x_ = _ := hx_; subst x_
                    refine Rg.gyes rfl rfl ?_
                    refine Rg.pickf rfl rfl rfl ?_
                    exact Rg.nil ⟨rfl, rfl, _, rfl, rfl, Step.refl _ _⟩
                  refine Obls.cons ?_ ?_
                  · intro wD E sD -- 31
                    intro x_ hx_; have hx_ : x_ = _ := hx_; subst x_
                    intro x_ hx_; have hx_ : x_ = _ := hx_; subst x_
                    refine Rg.pickf rfl rfl rfl ?_
                    exact Rg.nil ⟨rfl, rfl, _, rfl, rfl, Step.refl _ _⟩
                  refine Obls.cons ?_ ?_
                  · intro wD E sD -- 32
                    intro x_ hx_; have hx_ : x_ = _ := hx_; subst x_
                    intro x_ hx_; have hx_ : x_ = _ := hx_; subst x_
                    refine Rg.move rfl rfl ?_
                    exact Rg.nil ⟨rfl, rfl, _, rfl, rfl, Step.refl _ _⟩
                  refine Obls.cons ?_ ?_
                  · intro wD E sD -- 33
                    intro x_ hx_; have hx_ : x_ = _ := hx_; subst x_
                    refine Rg.gyes rfl rfl ?_
                    refine Rg.move rfl rfl ?_
                    exact Rg.nil ⟨rfl, rfl, _, rfl, rfl, Step.refl _ _⟩
                  refine Obls.cons ?_ ?_
                  · intro wD E sD -- 34
                    intro x_ hx_; have hx_ : x_ = _ := hx_; subst x_
                    refine Rg.gyes rfl rfl ?_
                    refine Rg.move rfl rfl ?_
                    exact Rg.nil ⟨rfl, rfl, _, rfl, rfl, Step.refl _ _⟩
                  refine Obls.cons ?_ ?_
                  · intro wD E sD -- 35
                    intro x_ hx_; have hx_ : x_ = _ := hx_; subst x_
                    intro x_ hx_; have hx_ : x_ = _ := hx_; subst x_
                    intro x_ hx_; have hx_ : x_ = _ := hx_; subst x_
                    refine Rg.gyes rfl rfl ?_
                    refine Rg.idx (M := M) Try.underlying28 I37 rfl rfl rfl (hvM.le sD.le) (Le.refl _ _) (by omega) (fun ui ai hgi hui => ?_)
                    obtain rfl : (d, ps) = ai := Eq.symm (Option.some.inj (hgi.symm.trans (by simpa using hx)))
                    exact Rg.nil ⟨rfl, rfl, _, rfl, hui, Step.refl _ _⟩
                  refine Obls.cons ?_ ?_
                  · intro wD E sD -- 36
                    intro v35 hv35
                    intro x_ hx_; have hx_ : x_ = _ := hx_; subst x_
                    refine Rg.gyes rfl rfl ?_
                    refine Rg.fieldAddr (M := M) (A := RT.po) (B := (RT.int .i64).sl) Try.underlying37 rfl rfl I23 (by decide) (po1) rfl rfl (by decide) (show PtrTo (RT.po) M wD v35 (d, ps) from hv35) (Le.refl _ _) (fun uf huf => ?_)
                    exact Rg.nil ⟨rfl, rfl, _, rfl, huf, Step.refl _ _⟩
                  refine Obls.cons ?_ ?_
                  · intro wD E sD -- 37
                    intro v36 hv36
                    intro x_ hx_; have hx_ : x_ = _ := hx_; subst x_
                    refine Rg.gyes rfl rfl ?_
                    refine Rg.load (M := M) Try.underlying23 rfl rfl rfl rfl rfl (show PtrTo ((RT.int .i64).sl) M wD v36 ps from hv36) (Le.refl _ _) (fun va hva => ?_)
                    exact Rg.nil ⟨rfl, rfl, _, rfl, hva, Step.refl _ _⟩
                  refine Obls.cons ?_ ?_
                  · intro wD E sD -- 38
                    intro v37 hv37
                    intro x_ hx_; have hx_ : x_ = _ := hx_; subst x_
                    refine Rg.gyes rfl rfl ?_
                    refine Rg.lensl Try.underlying23 rfl (show ((RT.int .i64).sl).V M wD ps v37 from hv37) rfl ?_
                    exact Rg.nil ⟨rfl, rfl, _, rfl, rfl, Step.refl _ _⟩
                  refine Obls.cons ?_ ?_
                  · intro wD E sD -- 39
                    intro x_ hx_; have hx_ : x_ = _ := hx_; subst x_
                    intro x_ hx_; have hx_ : x_ = _ := hx_; subst x_
                    refine Rg.gyes rfl rfl ?_
                    refine Rg.ieq rfl rfl rfl ?_
                    exact Rg.nil ⟨rfl, rfl, _, rfl, rfl, Step.refl _ _⟩
                  refine Obls.cons ?_ ?_
                  · intro wD E sD -- 40
                    intro x_ hx_; have hx_ : x_ = _ := hx_; subst x_
                    intro x_ hx_; have hx_ : x_ = _ := hx_; subst x_
                    refine Rg.pickf rfl rfl rfl ?_
                    exact Rg.nil ⟨rfl, rfl, _, rfl, rfl, Step.refl _ _⟩
                  refine Obls.cons ?_ ?_
                  · intro wD E sD -- 41
                    intro x_ hx_; have hx_ : x_ = _ := hx_; subst x_
                    intro x_ hx_; have hx_ : x_ = _ := hx_; subst x_
                    refine Rg.move rfl rfl ?_
                    refine Rg.nil ⟨rfl, rfl, _, rfl, ?_, Step.refl _ _⟩
                    exact congrArg Value.bool (decide_eq_false g5_41)
                  refine Obls.cons ?_ ?_
                  · intro wD E sD -- 42
                    intro x_ hx_; have hx_ : x_ = _ := hx_; subst x_
                    refine Rg.gyes rfl rfl ?_
                    refine Rg.move rfl rfl ?_
                    exact Rg.nil ⟨rfl, rfl, _, rfl, rfl, Step.refl _ _⟩
                  refine Obls.cons ?_ ?_
                  · intro wD E sD -- 43
                    intro x_ hx_; have hx_ : x_ = _ := hx_; subst x_
                    intro x_ hx_; have hx_ : x_ = _ := hx_; subst x_
                    refine Rg.gyes rfl rfl ?_
                    refine Rg.not rfl rfl ?_
                    refine Rg.eqv (v' := .bool (decide (¬ rises (-1) ps = true))) (by simp) ?_
                    exact Rg.nil ⟨rfl, rfl, _, rfl, rfl, Step.refl _ _⟩
                  refine Obls.cons ?_ ?_
                  · intro wD E sD -- 44
                    intro x_ hx_; have hx_ : x_ = _ := hx_; subst x_
                    intro x_ hx_; have hx_ : x_ = _ := hx_; subst x_
                    refine Rg.pickf rfl rfl rfl ?_
                    exact Rg.nil ⟨rfl, rfl, _, rfl, rfl, Step.refl _ _⟩
                  refine Obls.cons ?_ ?_
                  · intro wD E sD -- 45
                    intro x_ hx_; have hx_ : x_ = _ := hx_; subst x_
                    intro x_ hx_; have hx_ : x_ = _ := hx_; subst x_
                    refine Rg.move rfl rfl ?_
                    refine Rg.nil ⟨rfl, rfl, _, rfl, ?_, Step.refl _ _⟩
                    exact congrArg Value.bool (decide_eq_false g5_45)
                  refine Obls.cons ?_ ?_
                  · intro wD E sD -- 46
                    intro x_ hx_; have hx_ : x_ = _ := hx_; subst x_
                    refine Rg.gyes rfl rfl ?_
                    refine Rg.move rfl rfl ?_
                    exact Rg.nil ⟨rfl, rfl, _, rfl, rfl, Step.refl _ _⟩
                  refine Obls.cons ?_ ?_
                  · intro wD E sD -- 47
                    intro x_ hx_; have hx_ : x_ = _ := hx_; subst x_
                    refine Rg.gyes rfl rfl ?_
                    refine Rg.move rfl rfl ?_
                    exact Rg.nil ⟨rfl, rfl, _, rfl, rfl, Step.refl _ _⟩
                  refine Obls.cons ?_ ?_
                  · intro wD E sD -- 48
                    intro x_ hx_; have hx_ : x_ = _ := hx_; subst x_
                    intro x_ hx_; have hx_ : x_ = _ := hx_; subst x_
                    intro x_ hx_; have hx_ : x_ = _ := hx_; subst x_
                    refine Rg.gyes rfl rfl ?_
                    refine Rg.idx (M := M) Try.underlying28 I37 rfl rfl rfl (hvM.le sD.le) (Le.refl _ _) (by omega) (fun ui ai hgi hui => ?_)
                    obtain rfl : (d, ps) = ai := Eq.symm (Option.some.inj (hgi.symm.trans (by simpa using hx)))
                    exact Rg.nil ⟨rfl, rfl, _, rfl, hui, Step.refl _ _⟩
                  refine Obls.cons ?_ ?_
                  · intro wD E sD -- 49
                    intro v48 hv48
                    intro x_ hx_; have hx_ : x_ = _ := hx_; subst x_
                    refine Rg.gyes rfl rfl ?_
                    refine Rg.fieldAddr (M := M) (A := RT.po) (B := (RT.int .i64).sl) Try.underlying37 rfl rfl I23 (by decide) (po1) rfl rfl (by decide) (show PtrTo (RT.po) M wD v48 (d, ps) from hv48) (Le.refl _ _) (fun uf huf => ?_)
                    exact Rg.nil ⟨rfl, rfl, _, rfl, huf, Step.refl _ _⟩
                  refine Obls.cons ?_ ?_
                  · intro wD E sD -- 50
                    intro v49 hv49
                    intro x_ hx_; have hx_ : x_ = _ := hx_; subst x_
                    refine Rg.gyes rfl rfl ?_
                    refine Rg.load (M := M) Try.underlying23 rfl rfl rfl rfl rfl (show PtrTo ((RT.int .i64).sl) M wD v49 ps from hv49) (Le.refl _ _) (fun va hva => ?_)
                    exact Rg.nil ⟨rfl, rfl, _, rfl, hva, Step.refl _ _⟩
                  refine Obls.cons ?_ ?_
                  · intro wD E sD -- 51
                    intro x_ hx_; have hx_ : x_ = _ := hx_; subst x_
                    refine Rg.gyes rfl rfl ?_
                    refine Rg.move rfl rfl ?_
                    exact Rg.nil ⟨rfl, rfl, _, rfl, rfl, Step.refl _ _⟩
                  refine Obls.cons ?_ ?_
                  · intro wD E sD -- 52
                    intro x_ hx_; have hx_ : x_ = _ := hx_; subst x_
                    refine Rg.gyes rfl rfl ?_
                    refine Rg.move rfl rfl ?_
                    exact Rg.nil ⟨rfl, rfl, _, rfl, rfl, Step.refl _ _⟩
                  refine Obls.cons ?_ ?_
                  · intro wD E sD -- 53
                    intro x_ hx_; have hx_ : x_ = _ := hx_; subst x_
                    intro x_ hx_; have hx_ : x_ = _ := hx_; subst x_
                    intro x_ hx_; have hx_ : x_ = _ := hx_; subst x_
                    refine Rg.gyes rfl rfl ?_
                    refine Rg.idx (M := M) Try.underlying28 I37 rfl rfl rfl (hvM.le sD.le) (Le.refl _ _) (by omega) (fun ui ai hgi hui => ?_)
                    obtain rfl : (d, ps) = ai := Eq.symm (Option.some.inj (hgi.symm.trans (by simpa using hx)))
                    exact Rg.nil ⟨rfl, rfl, _, rfl, hui, Step.refl _ _⟩
                  refine Obls.cons ?_ ?_
                  · intro wD E sD -- 54
                    intro v53 hv53
                    intro x_ hx_; have hx_ : x_ = _ := hx_; subst x_
                    refine Rg.gyes rfl rfl ?_
                    refine Rg.fieldAddr (M := M) (A := RT.po) (B := (RT.int .i64).sl) Try.underlying37 rfl rfl I23 (by decide) (po1) rfl rfl (by decide) (show PtrTo (RT.po) M wD v53 (d, ps) from hv53) (Le.refl _ _) (fun uf huf => ?_)
                    exact Rg.nil ⟨rfl, rfl, _, rfl, huf, Step.refl _ _⟩
                  refine Obls.cons ?_ ?_
                  · intro wD E sD -- 55
                    intro v54 hv54
                    intro x_ hx_; have hx_ : x_ = _ := hx_; subst x_
                    refine Rg.gyes rfl rfl ?_
                    refine Rg.load (M := M) Try.underlying23 rfl rfl rfl rfl rfl (show PtrTo ((RT.int .i64).sl) M wD v54 ps from hv54) (Le.refl _ _) (fun va hva => ?_)
                    exact Rg.nil ⟨rfl, rfl, _, rfl, hva, Step.refl _ _⟩
                  refine Obls.cons ?_ ?_
                  · intro wD E sD -- 56
                    intro v55 hv55
                    intro x_ hx_; have hx_ : x_ = _ := hx_; subst x_
                    refine Rg.gyes rfl rfl ?_
                    refine Rg.lensl Try.underlying23 rfl (show ((RT.int .i64).sl).V M wD ps v55 from hv55) rfl ?_
                    exact Rg.nil ⟨rfl, rfl, _, rfl, rfl, Step.refl _ _⟩
                  refine Obls.cons ?_ ?_
                  · intro wD E sD -- 57
                    intro x_ hx_; have hx_ : x_ = _ := hx_; subst x_
                    intro x_ hx_; have hx_ : x_ = _ := hx_; subst x_
                    refine Rg.gyes rfl rfl ?_
                    refine Rg.isub rfl rfl rfl (by omega) ?_
                    exact Rg.nil ⟨rfl, rfl, _, rfl, rfl, Step.refl _ _⟩
                  refine Obls.cons ?_ ?_
                  · intro wD E sD -- 58
                    intro v50 hv50
                    intro x_ hx_; have hx_ : x_ = _ := hx_; subst x_
                    intro x_ hx_; have hx_ : x_ = _ := hx_; subst x_
                    refine Rg.gyes rfl rfl ?_
                    refine Rg.idx (M := M) Try.underlying23 I3 rfl rfl rfl (show ((RT.int .i64).sl).V M wD ps v50 from hv50) (Le.refl _ _) (by omega) (fun ui ai hgi hui => ?_)
                    obtain rfl : y = ai := Eq.symm (Option.some.inj (hgi.symm.trans (by rw [show ((ps.length : Int) - 1).toNat = ps.length - 1 from by omega]; exact hy)))
                    exact Rg.nil ⟨rfl, rfl, _, rfl, hui, Step.refl _ _⟩
                  refine Obls.cons ?_ ?_
                  · intro wD E sD -- 59
                    intro v58 hv58
                    intro x_ hx_; have hx_ : x_ = _ := hx_; subst x_
                    refine Rg.gyes rfl rfl ?_
                    refine Rg.loadi64 (M := M) Try.underlying3 rfl rfl (show PtrTo (RT.int .i64) M wD v58 y from hv58) (Le.refl _ _) (fun hin => ?_)
                    exact Rg.nil ⟨rfl, rfl, _, rfl, rfl, Step.refl _ _⟩
                  refine Obls.cons ?_ ?_
                  · intro wD E sD -- 60
                    intro x_ hx_; have hx_ : x_ = _ := hx_; subst x_
                    intro x_ hx_; have hx_ : x_ = _ := hx_; subst x_
                    refine Rg.gyes rfl rfl ?_
                    refine Rg.ige rfl rfl rfl ?_
                    exact Rg.nil ⟨rfl, rfl, _, rfl, rfl, Step.refl _ _⟩
                  refine Obls.cons ?_ ?_
                  · intro wD E sD -- 61
                    intro x_ hx_; have hx_ : x_ = _ := hx_; subst x_
                    intro x_ hx_; have hx_ : x_ = _ := hx_; subst x_
                    refine Rg.pickf rfl rfl rfl ?_
                    exact Rg.nil ⟨rfl, rfl, _, rfl, rfl, Step.refl _ _⟩
                  exact Obls.nil
                · -- behind it
                  intro wD5 sD5
                  intro x_ hx_; have hx_ : x_ = _ := hx_; subst x_
                  intro x_ hx_; have hx_ : x_ = _ := hx_; subst x_
                  intro v5_2 hv5_2
                  intro v5_3 hv5_3
                  intro x_ hx_; have hx_ : x_ = _ := hx_; subst x_
                  intro x_ hx_; have hx_ : x_ = _ := hx_; subst x_
                  intro x_ hx_; have hx_ : x_ = _ := hx_; subst x_
                  intro x_ hx_; have hx_ : x_ = _ := hx_; subst x_
                  intro x_ hx_; have hx_ : x_ = _ := hx_; subst x_
                  intro v5_9 hv5_9
                  intro v5_10 hv5_10
                  intro x_ hx_; have hx_ : x_ = _ := hx_; subst x_
                  intro x_ hx_; have hx_ : x_ = _ := hx_; subst x_
                  intro x_ hx_; have hx_ : x_ = _ := hx_; subst x_
                  intro x_ hx_; have hx_ : x_ = _ := hx_; subst x_
                  intro x_ hx_; have hx_ : x_ = _ := hx_; subst x_
                  intro x_ hx_; have hx_ : x_ = _ := hx_; subst x_
                  intro x_ hx_; have hx_ : x_ = _ := hx_; subst x_
                  intro x_ hx_; have hx_ : x_ = _ := hx_; subst x_
                  intro x_ hx_; have hx_ : x_ = _ := hx_; subst x_
                  intro x_ hx_; have hx_ : x_ = _ := hx_; subst x_
                  intro x_ hx_; have hx_ : x_ = _ := hx_; subst x_
                  intro x_ hx_; have hx_ : x_ = _ := hx_; subst x_
                  intro x_ hx_; have hx_ : x_ = _ := hx_; subst x_
                  intro x_ hx_; have hx_ : x_ = _ := hx_; subst x_
                  intro x_ hx_; have hx_ : x_ = _ := hx_; subst x_
                  intro x_ hx_; have hx_ : x_ = _ := hx_; subst x_
                  intro x_ hx_; have hx_ : x_ = _ := hx_; subst x_
                  intro x_ hx_; have hx_ : x_ = _ := hx_; subst x_
                  intro x_ hx_; have hx_ : x_ = _ := hx_; subst x_
                  intro x_ hx_; have hx_ : x_ = _ := hx_; subst x_
                  intro x_ hx_; have hx_ : x_ = _ := hx_; subst x_
                  intro x_ hx_; have hx_ : x_ = _ := hx_; subst x_
                  intro x_ hx_; have hx_ : x_ = _ := hx_; subst x_
                  intro x_ hx_; have hx_ : x_ = _ := hx_; subst x_
                  intro v5_35 hv5_35
                  intro v5_36 hv5_36
                  intro v5_37 hv5_37
                  intro x_ hx_; have hx_ : x_ = _ := hx_; subst x_
                  intro x_ hx_; have hx_ : x_ = _ := hx_; subst x_
                  intro x_ hx_; have hx_ : x_ = _ := hx_; subst x_
                  intro x_ hx_; have hx_ : x_ = _ := hx_; subst x_
                  intro x_ hx_; have hx_ : x_ = _ := hx_; subst x_
                  intro x_ hx_; have hx_ : x_ = _ := hx_; subst x_
                  intro x_ hx_; have hx_ : x_ = _ := hx_; subst x_
                  intro x_ hx_; have hx_ : x_ = _ := hx_; subst x_
                  intro x_ hx_; have hx_ : x_ = _ := hx_; subst x_
                  intro x_ hx_; have hx_ : x_ = _ := hx_; subst x_
                  intro v5_48 hv5_48
                  intro v5_49 hv5_49
                  intro v5_50 hv5_50
                  intro x_ hx_; have hx_ : x_ = _ := hx_; subst x_
                  intro x_ hx_; have hx_ : x_ = _ := hx_; subst x_
                  intro v5_53 hv5_53
                  intro v5_54 hv5_54
                  intro v5_55 hv5_55
                  intro x_ hx_; have hx_ : x_ = _ := hx_; subst x_
                  intro x_ hx_; have hx_ : x_ = _ := hx_; subst x_
                  intro v5_58 hv5_58
                  intro x_ hx_; have hx_ : x_ = _ := hx_; subst x_
                  intro x_ hx_; have hx_ : x_ = _ := hx_; subst x_
                  intro x_ hx_; have hx_ : x_ = _ := hx_; subst x_
                  refine T.ifp rfl (fun c5 => ?_) (fun c5 => ?_)
                  · -- c5 True
                    refine T.seq ?_
                    refine T.region ?_ -- region 6
                    refine Rg.assign rfl rfl ?_
                    refine Rg.nil ?_
                    refine T.ret ?_
                    refine Kret1 rfl rfl ⟨congrArg Value.bool (Eq.symm ?_), S4.trans0 sD5⟩
                    rw [hr, mayPo_drop hx]
                    first
                    | (rw [decide_eq_false (show ¬ last < d by omega)]; simp; done)
                    | (rw [decide_eq_false (show ¬ d < 2147483648 by omega)]; simp; done)
                    | (rw [show ps = [] from List.length_eq_zero_iff.1 (by omega)]; simp; done)
                    | (rw [show risesB ps = false from by unfold risesB; simp only [g5_45, Bool.false_and]]; simp; done)
                    | (rw [show risesB ps = false from by unfold risesB; rw [Bool.not_eq_true] at g5_45; rw [g5_45]; rfl]; simp; done)
                    | (rw [hrl, decide_eq_false (show ¬ y < 2147483648 by omega)]; simp; done)
                  · -- c5 False
                    refine T.skip ?_
                    refine T.region ?_ -- region 3
                    refine Rg.move rfl rfl ?_
                    refine Rg.iadd rfl rfl rfl (by omega) ?_
                    refine Rg.assign rfl rfl ?_
                    refine Rg.nil ?_
                    refine ⟨rfl, (k + 1, d, ps), (.cons rfl (.cons rfl .nil)), ?_, ?_⟩
                    · refine ⟨S4.trans0 sD5, by simp only; omega, ?_, by simp only; omega, fun h => by simp at h, fun _ => by simpa using hx⟩
                      have hne : ps.isEmpty = false := by cases ps with
                        | nil => simp at g5_41
                        | cons a t => rfl
                      have hlt : last < d := by
                        by_cases hk0 : k = 0
                        · have := h0 hk0; omega
                        · omega
                      rw [hr, mayPo_drop hx, decide_eq_true hlt, decide_eq_true (show d < 2147483648 by omega), hne, hrl, decide_eq_true (show y < 2147483648 by omega)]; rfl
                    · simp only; omega
    · -- c2 False
      refine T.exit ?_
      refine T.seq ?_
      refine T.region ?_ -- region 7
      refine Rg.assign rfl rfl ?_
      refine Rg.nil ?_
      refine T.ret ?_
      refine Kret1 rfl rfl ⟨congrArg Value.bool (Eq.symm ?_), S⟩
      rw [hr, List.drop_eq_nil_of_le (by omega)]; rfl

end Go.K

/- The walks of Go functions, operation by operation. -/
import Derived.Test.YtgpmihcdjmjfoaaKTypes
import Derived.Test.YtgpmihcdjmjfoaaKNum
import Derived.Test.YtgpmihcdjmjfoaaKPost
import Derived.Test.YtgpmihcdjmjfoaaKPtr
import Derived.Test.YtgpmihcdjmjfoaaKCur
import Derived.Test.YtgpmihcdjmjfoaaKCur2
import Derived.Test.YtgpmihcdjmjfoaaKCell2
import Derived.Test.YtgpmihcdjmjfoaaKFun
import Derived.Test.YtgpmihcdjmjfoaaKDraw
import Derived.Test.YtgpmihcdjmjfoaaKRange
import Derived.Test.YtgpmihcdjmjfoaaKPosting
import Derived.Test.YtgpmihcdjmjfoaaKMake2
import Derived.Test.YtgpmihcdjmjfoaaKCursor
import Derived.Test.YtgpmihcdjmjfoaaKAdv
import Derived.Test.YtgpmihcdjmjfoaaKBoth
import Derived.Test.YtgpmihcdjmjfoaaKRef04
import Derived.Test.YtgpmihcdjmjfoaaKLives6
import Derived.Test.YtgpmihcdjmjfoaaProg
import Derived.KernelRfl
namespace Go.K
open Go.Proofs
namespace TKAll6
theorem E30 : Enters Try.prog 30 := enters Try.func30 rfl (by decide) -- concordance/cursor.New
theorem E38 : Enters Try.prog 38 := enters Try.func38 rfl (by decide) -- (*concordance/cursor.Cursor).Next
theorem E40 : Enters Try.prog 40 := enters Try.func40 rfl (by decide) -- (*concordance/cursor.Cursor).Places
end TKAll6
open TKAll6
set_option linter.unusedVariables false
set_option linter.unusedSimpArgs false
set_option maxRecDepth 10000

/-- 'concordance/cursor.All' -/
theorem All6_spec {M : PSet} {w0 : World} {q : Addr} (hM : Lt M w0) :
    Spec Try.prog 46 #[.pointer (some q)] w0 (fun v' w' => ∃ bl, v' = .func (.func 73) #[] #[.pointer (some ⟨bl, 0, none⟩)] ∧ w'.heap[bl]? = some (.cells #[.pointer (some q)] 30 (0, 0)) ∧ w0.heap.size ≤ bl ∧ Step M w0 M w' none') := by
  refine spec_of (args := [.pointer (some q)]) (fn := Try.f46) Try.func46 rfl (n := 4) Try.ntmps46 ?_
  refine T.seq ?_
  refine T.region ?_ -- region 0
  refine Rg.box M rfl rfl (fun bl w1 h1 h1' hS s1 => ?_)
  change w1.heap[bl]? = some (.cells #[.pointer (some q)] _ _) at hS
  refine Rg.assign rfl rfl ?_
  refine Rg.nil ?_
  refine T.seq ?_
  refine T.region ?_ -- region 1
  refine Rg.makeFunc (xs := []) (ys := [.tmp 1]) rfl rfl rfl ?_
  refine Rg.assign rfl rfl ?_
  refine Rg.nil ?_
  refine T.ret ?_
  exact Kret1 rfl rfl ⟨bl, rfl, hS, h1, s1.back⟩

/-- 'concordance/cursor.All$1' -/
theorem All1_spec {w0 : World} {bl yl base : Nat} {q : Addr} {l : List Po} {J : Nat → PSet → World → Prop} {M : PSet} {Jx : World → Prop} (ol : OkL l) (hbx : ∀ i M w, J i M w → w.heap[bl]? = some (.cells #[.pointer (some q)] 30 (0, 0)) ∧ Lt M w ∧ PtrTo RT.li M w (.pointer (some q)) (mkLi l) ∧ base ≤ w.heap.size) (hst : ∀ i M w M' w' N, J i M w → Step M w M' w' N → (∀ b, N b → base ≤ b) → J i M' w') (hy : ∀ (i : Nat) (M : PSet) (w : World) (d : Int) (ps : List Int) (u : Value), J i M w → l[i]? = some (d, ps) → ((RT.int .i64).sl).V M w ps u → Yield Try.prog yl [.int .i64 d, u].toArray w (fun r w' => ∃ b, r = .bool b ∧ (b = true → ∃ M' N, J (i + 1) M' w' ∧ Step M w M' w' N ∧ ∀ k, N k → k < base) ∧ (b = false → Jx w'))) (h0 : J 0 M w0) :
    Spec Try.prog 73 #[.func (.yield yl) #[] #[], .pointer (some ⟨bl, 0, none⟩)] w0 (fun _ w' => (∃ M', J l.length M' w') ∨ Jx w') := by
  obtain ⟨hb0, hM, hp, hbs⟩ := hbx _ _ _ h0
  refine spec_of (args := [.func (.yield yl) #[] #[], .pointer (some ⟨bl, 0, none⟩)]) (fn := Try.f73) Try.func73 rfl (n := 18) Try.ntmps73 ?_
  refine T.seq ?_
  refine T.region ?_ -- region 0
  refine Rg.loadc Try.underlying30 rfl rfl rfl (by assumption) rfl ?_
  refine Rg.call rfl rfl E30 (New6_spec (M := M) (hp)) (fun r w1 h => ?_)
  obtain ⟨bc, rfl, hz, s1, hC⟩ := h
  have hJ1 := hst _ _ _ _ _ _ h0 s1 (fun b h => h.elim)
  have hbb : base ≤ bc := by omega
  generalize ins M bc = M0 at s1 hC hJ1
  refine Rg.assign rfl rfl ?_
  refine Rg.nil ?_
  refine T.block ?_
  refine T.loop (σ := Nat) (fun s => [(0, .func (.yield yl) #[] #[]), (3, .pointer (some ⟨bc, 0, none⟩))]) (fun s w => s ≤ l.length ∧ ∃ M1, J s M1 w ∧ Cu 92 l ((s : Int) - 1) M1 w bc) (fun s => l.length - s) 0 (.cons rfl (.cons rfl .nil)) ?_ ?_ -- loop 0
  · exact ⟨Nat.zero_le _, M0, hJ1, hC⟩
  · rintro k w1 ⟨hk, M1, hJ, hC1⟩
    refine T.seq ?_
    refine T.seq ?_
    refine T.region ?_ -- region 1
    refine Rg.move rfl rfl ?_
    obtain ⟨_, hM1, _, hbs1⟩ := hbx _ _ _ hJ
    refine Rg.call rfl rfl E38 (Next_ok hC1 hM1 ol) (fun r2 w2 h => ?_)
    obtain ⟨rfl, s2, hC2⟩ := h
    have hJ2 := hst _ _ _ _ _ _ hJ s2 (fun b h => by omega)
    have hni : nextI l ((k : Int) - 1) = (k : Int) := by unfold nextI; rw [if_pos (by omega)]; omega
    rw [hni] at hC2 ⊢
    have hM2 := s2.lt hM1
    refine Rg.ilt rfl rfl rfl ?_
    refine Rg.nil ?_
    refine T.ifp rfl (fun c1 => ?_) (fun c1 => ?_)
    · -- c1 True
      have hin := docAt_in ol.may (i := (k : Int))
      have hkl : k < l.length := by
        rcases docAt_cases l (k : Int) with ⟨h0, _⟩ | ⟨j2, d2, ps2, hj2, hx2, _⟩ | ⟨h0, h1, _⟩
        · omega
        · have := (List.getElem?_eq_some_iff.1 hx2).1; omega
        · omega
      obtain ⟨⟨d, ps⟩, hx⟩ : ∃ x, l[k]? = some x := ⟨_, List.getElem?_eq_getElem hkl⟩
      have hdd := docAt_get hx
      have hpl : placesAt l (k : Int) = ps := by unfold placesAt; rw [if_neg (by omega), Int.toNat_natCast, hx]
      refine T.skip ?_
      refine T.block ?_
      refine T.seq ?_
      obtain ⟨p2, u2, k2, cnt2, hMb2, hb2, _⟩ := id hC2
      apply T.drawT (M := M1) mixed [] [Asr.eq _, Asr.eq _, Asr.eq _, Asr.eq _, Asr.eq (.int .i64 d), Asr.eq _, Asr.V ((RT.int .i64).sl) ps] 7 -- region 2
      · rfl
      · rfl
      · rfl
      · rfl
      · rfl
      · exact fun p hp => by cases hp
      · exact UOk.none
      · -- its operations
        refine OblsS.cons ?_ ?_
        · intro wD E sD -- 0
          refine Rg.move rfl rfl ?_
          exact Rg.nil ⟨rfl, rfl, _, rfl, rfl, Step.refl _ _⟩
        refine OblsS.cons ?_ ?_
        · intro wD E sD -- 1
          refine Rg.move rfl rfl ?_
          exact Rg.nil ⟨rfl, rfl, _, rfl, rfl, Step.refl _ _⟩
        refine OblsS.cons ?_ ?_
        · intro wD E sD -- 2
          intro x_ hx_; have hx_ : x_ = _ := hx_; subst x_
          refine Rg.nilCheck rfl ⟨_, rfl⟩ rfl ?_
          exact Rg.nil ⟨rfl, rfl, _, rfl, rfl, Step.refl _ _⟩
        refine OblsS.cons ?_ ?_
        · intro wD E sD -- 3
          intro x_ hx_; have hx_ : x_ = _ := hx_; subst x_
          refine Rg.fieldc Try.underlying92 rfl rfl I3 (by decide) rfl rfl ?_
          exact Rg.nil ⟨rfl, rfl, _, rfl, rfl, Step.refl _ _⟩
        refine OblsS.cons ?_ ?_
        · intro wD E sD -- 4
          intro x_ hx_; have hx_ : x_ = _ := hx_; subst x_
          refine Rg.loadc Try.underlying3 rfl rfl rfl (Step.same0 sD hb2) rfl ?_
          refine Rg.eqv (v' := .int .i64 d) (congrArg (Value.int .i64) hdd) ?_
          exact Rg.nil ⟨rfl, rfl, _, rfl, rfl, Step.refl _ _⟩
        refine OblsS.cons ?_ ?_
        · intro wD E sD -- 5
          refine Rg.move rfl rfl ?_
          exact Rg.nil ⟨rfl, rfl, _, rfl, rfl, Step.refl _ _⟩
        refine OblsS.cons ?_ ?_
        · intro wD E sD -- 6
          intro x_ hx_; have hx_ : x_ = _ := hx_; subst x_
          refine Rg.call rfl rfl E40 (Places6_spec (hC2.step sD (fun h => h)) ol.may ol.ps (sD.lt hM2)) (fun r w3 h => ?_)
          obtain ⟨hr, s⟩ := h
          exact Rg.nil ⟨rfl, rfl, _, rfl, hpl ▸ hr, s⟩
        exact OblsS.nil
      · -- behind it
        intro wD2 sD2
        intro x_ hx_; have hx_ : x_ = _ := hx_; subst x_
        intro x_ hx_; have hx_ : x_ = _ := hx_; subst x_
        intro x_ hx_; have hx_ : x_ = _ := hx_; subst x_
        intro x_ hx_; have hx_ : x_ = _ := hx_; subst x_
        intro x_ hx_; have hx_ : x_ = _ := hx_; subst x_
        intro x_ hx_; have hx_ : x_ = _ := hx_; subst x_
        intro v2_6 hv2_6
        have hJ3 := hst _ _ _ _ _ _ hJ2 sD2 (fun b h => h.elim)
        have hC3 := hC2.step sD2 (fun h => h)
        have hvp : ((RT.int .i64).sl).V M1 wD2 ps v2_6 := hv2_6
        refine Rg.yield rfl (vs := [.int .i64 d, v2_6]) rfl rfl (hy k M1 _ d ps v2_6 hJ3 hx hvp) (fun r4 w5 h5 => ?_)
        obtain ⟨b, rfl, hb5, hb6⟩ := h5
        refine Rg.not rfl rfl ?_
        refine Rg.eqv (v' := .bool (decide (¬ b = true))) (by simp) ?_
        refine Rg.nil ?_
        refine T.ifp rfl (fun c2 => ?_) (fun c2 => ?_)
        · -- c2 True
          refine T.ret ?_
          exact Kret0 rfl (.inr (hb6 (by simpa using c2)))
        · -- c2 False
          obtain ⟨M2, N2, hJ4, s4, hN4⟩ := hb5 (Decidable.not_not.1 c2)
          have hC4 := hC3.step s4 (fun h => by have := hN4 _ h; omega)
          refine T.skip ?_
          refine ⟨rfl, k + 1, (.cons rfl (.cons rfl .nil)), ?_, ?_⟩
          · exact ⟨by omega, M2, hJ4, by rw [show ((k + 1 : Nat) : Int) - 1 = (k : Int) from by omega]; exact hC4⟩
          · show _ - (k + 1) < _ - k; omega
    · -- c1 False
      refine T.exit ?_
      have hke : k = l.length := by
        rcases docAt_cases l (k : Int) with ⟨h0, _⟩ | ⟨j2, d2, ps2, hj2, hx2, h1, _⟩ | ⟨h0, h1, _⟩
        · omega
        · have := doc_rng ol.may hx2; omega
        · omega
      rw [hke] at hJ2
      change Kret Try.prog Try.f73 (fun _ w' => (∃ M', J l.length M' w') ∨ Jx w') .normal _ [] _
      exact Kret0n rfl (.inl ⟨_, hJ2⟩)

end Go.K

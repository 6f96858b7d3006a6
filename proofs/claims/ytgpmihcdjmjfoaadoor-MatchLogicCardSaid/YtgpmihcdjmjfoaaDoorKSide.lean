/- The walks of Go functions, operation by operation. -/
import Derived.Test.YtgpmihcdjmjfoaaDoorKTypes
import Derived.Test.YtgpmihcdjmjfoaaDoorKNum
import Derived.Test.YtgpmihcdjmjfoaaDoorKPost
import Derived.Test.YtgpmihcdjmjfoaaDoorKPtr
import Derived.Test.YtgpmihcdjmjfoaaDoorKCell2
import Derived.Test.YtgpmihcdjmjfoaaDoorKFun
import Derived.Test.YtgpmihcdjmjfoaaDoorKMatch
import Derived.Test.YtgpmihcdjmjfoaaDoorKDraw
import Derived.Test.YtgpmihcdjmjfoaaDoorKRange
import Derived.Test.YtgpmihcdjmjfoaaDoorProg
import Derived.KernelRfl
namespace Go.K
open Go.Proofs
namespace TKSide
theorem I22 : TI Tryd.prog 22 (.slice none 0 0) 1 24 := by unfold TI; kernel_rfl -- []api.Found
theorem I26 : TI Tryd.prog 26 (.agg #[(.int .i64 0), (.int .i64 0)]) 2 16 := by unfold TI; kernel_rfl -- api.Found
theorem I47 : TI Tryd.prog 47 (.agg #[(.int .i64 0), (.int .i64 0), (.int .i64 0)]) 3 24 := by unfold TI; kernel_rfl -- match.two
theorem I55 : TI Tryd.prog 55 (.pointer none) 1 8 := by unfold TI; kernel_rfl -- *[]api.Found
theorem B47 : placesOf Tryd.prog 47 = [(0, 1), (1, 1), (2, 1)].map some := by kernel_rfl
end TKSide
open TKSide
set_option linter.unusedVariables false
set_option linter.unusedSimpArgs false
set_option maxRecDepth 10000


theorem side_pick {M2 : PSet} {w6 : World} {ba bb bx k : Nat} {a' b' : List Fo} {v0 v1 : Value} (hk : k < 2) (hne : ba ≠ bb) (hxa : bx ≠ ba) (hxb : bx ≠ bb) (hMa : M2 ba) (hMb : M2 bb) (hA6 : w6.heap[ba]? = some (.cells #[v0] 22 (0, 0))) (hv0 : ((RT.fo).sl).V M2 w6 (lK a' (mnX a' b') (decide (0 < k))) v0) (hB6 : w6.heap[bb]? = some (.cells #[v1] 22 (0, 0))) (hv1 : ((RT.fo).sl).V M2 w6 (lK b' (mnX a' b') (decide (1 < k))) v1) :
    ∃ pk lk vk, [ba, bb][k]? = some pk ∧ [a', b'][k]? = some lk ∧ w6.heap[pk]? = some (.cells #[vk] 22 (0, 0)) ∧ ((RT.fo).sl).V M2 w6 lk vk ∧ M2 pk ∧ (pk = ba ∨ pk = bb) ∧ pk ≠ bx ∧ (∀ (w' : World) (v' : Value), (∀ q o, q ≠ pk → q ≠ bx → w6.heap[q]? = some o → w'.heap[q]? = some o) → (∀ l v, ((RT.fo).sl).V M2 w6 l v → ((RT.fo).sl).V M2 w' l v) → w'.heap[pk]? = some (.cells #[v'] 22 (0, 0)) → ((RT.fo).sl).V M2 w' (restF lk (mnX a' b')) v' →
      ∃ v0 v1, w'.heap[ba]? = some (.cells #[v0] 22 (0, 0)) ∧ ((RT.fo).sl).V M2 w' (lK a' (mnX a' b') (decide (0 < k + 1))) v0 ∧ w'.heap[bb]? = some (.cells #[v1] 22 (0, 0)) ∧ ((RT.fo).sl).V M2 w' (lK b' (mnX a' b') (decide (1 < k + 1))) v1) := by
  match k with
  | 0 => exact ⟨ba, a', v0, rfl, rfl, hA6, hv0, hMa, .inl rfl, fun h => hxa h.symm, fun w' v' h1 h2 h3 h4 => ⟨v', v1, h3, h4, h1 bb _ (fun h => hne h.symm) (fun h => hxb h.symm) hB6, h2 _ _ hv1⟩⟩
  | 1 => exact ⟨bb, b', v1, rfl, rfl, hB6, hv1, hMb, .inr rfl, fun h => hxb h.symm, fun w' v' h1 h2 h3 h4 => ⟨v0, v', h1 ba _ hne (fun h => hxa h.symm) hA6, h2 _ _ hv0, h3, h4⟩⟩
  | k + 2 => omega

/-- 'concordance/match.side' -/
theorem side_spec {M : PSet} {w0 : World} {va vb : Value} {a b : List Fo} (hM : Lt M w0) (ha : ((RT.fo).sl).V M w0 a va) (hb : ((RT.fo).sl).V M w0 b vb) :
    Spec Tryd.prog 20 #[va, vb] w0 (fun v' w' => ∃ ba bb, v' = .func (.func 27) #[] #[.pointer (some ⟨ba, 0, none⟩), .pointer (some ⟨bb, 0, none⟩)] ∧ w'.heap[ba]? = some (.cells #[va] 22 (0, 0)) ∧ w'.heap[bb]? = some (.cells #[vb] 22 (0, 0)) ∧ ba ≠ bb ∧ w0.heap.size ≤ ba ∧ w0.heap.size ≤ bb ∧ Step M w0 (ins (ins M ba) bb) w' none') := by
  refine spec_of (args := [va, vb]) (fn := Tryd.f20) Tryd.func20 rfl (n := 6) Tryd.ntmps20 ?_
  refine T.seq ?_
  refine T.region ?_ -- region 0
  refine Rg.box M rfl rfl (fun ba w1 h1 h1' hA s1 => ?_)
  rw [V_cells ha] at hA
  refine Rg.box (ins M ba) rfl rfl (fun bb w2 h2 h2' hB s2 => ?_)
  rw [V_cells hb] at hB
  have hA2 := s2.same0 hA
  have z1 := s1.size
  refine Rg.assign rfl rfl ?_
  refine Rg.nil ?_
  refine T.seq ?_
  refine T.region ?_ -- region 1
  refine Rg.makeFunc (xs := []) (ys := [.tmp 2, .tmp 3]) rfl rfl rfl ?_
  refine Rg.assign rfl rfl ?_
  refine Rg.nil ?_
  refine T.ret ?_
  exact Kret1 rfl rfl ⟨ba, bb, rfl, hA2, hB, by omega, h1, by omega, s1.trans0 s2⟩

set_option maxHeartbeats 2000000 in
/-- 'concordance/match.side$1' -/
theorem side1_spec {w0 : World} {ba bb yl : Nat} {a b : List Fo} {va vb : Value} {J : List Fo → List Fo → PSet → World → Prop} {M : PSet} {Jx : World → Prop} (hne : ba ≠ bb) (hbx : ∀ a b M w, J a b M w → Lt M w ∧ M ba ∧ M bb) (hst : ∀ a b M w M' w', J a b M w → Step M w M' w' (fun j => j = ba ∨ j = bb) → J a b M' w') (hy : ∀ (a b : List Fo) (M : PSet) (w : World), J a b M w → okD a → okD b → (a ≠ [] ∨ b ≠ []) → Yield Tryd.prog yl [.agg #[.int .i64 (mnX a b), .int .i64 (mny a b 2), .int .i64 (scr a b 2)]].toArray w (fun r w' => ∃ c, r = .bool c ∧ (c = true → ∃ M' N, J (restF a (mnX a b)) (restF b (mnX a b)) M' w' ∧ Step M w M' w' N ∧ ∀ k, N k → k ≠ ba ∧ k ≠ bb) ∧ (c = false → Jx w'))) (ha : w0.heap[ba]? = some (.cells #[va] 22 (0, 0))) (hb : w0.heap[bb]? = some (.cells #[vb] 22 (0, 0))) (hva : ((RT.fo).sl).V M w0 a va) (hvb : ((RT.fo).sl).V M w0 b vb) (oa : okD a) (ob : okD b) (h0 : J a b M w0) :
    Spec Tryd.prog 27 #[.func (.yield yl) #[] #[], .pointer (some ⟨ba, 0, none⟩), .pointer (some ⟨bb, 0, none⟩)] w0 (fun _ w' => (∃ M', J [] [] M' w') ∨ Jx w') := by
  refine spec_of (args := [.func (.yield yl) #[] #[], .pointer (some ⟨ba, 0, none⟩), .pointer (some ⟨bb, 0, none⟩)]) (fn := Tryd.f27) Tryd.func27 rfl (n := 85) Tryd.ntmps27 ?_
  refine T.block ?_
  refine T.loop (σ := List Fo × List Fo) (fun s => [(0, .func (.yield yl) #[] #[]), (1, .pointer (some ⟨ba, 0, none⟩)), (2, .pointer (some ⟨bb, 0, none⟩))]) (fun s w => okD s.1 ∧ okD s.2 ∧ ∃ va vb M1, J s.1 s.2 M1 w ∧ w.heap[ba]? = some (.cells #[va] 22 (0, 0)) ∧ w.heap[bb]? = some (.cells #[vb] 22 (0, 0)) ∧ ((RT.fo).sl).V M1 w s.1 va ∧ ((RT.fo).sl).V M1 w s.2 vb) (fun s => s.1.length + s.2.length) (a, b) (.cons rfl (.cons rfl (.cons rfl .nil))) ?_ ?_ -- loop 0
  · exact ⟨oa, ob, va, vb, M, h0, ha, hb, hva, hvb⟩
  · rintro ⟨a', b'⟩ w1 ⟨oa', ob', va1, vb1, M1, hJ, hA1, hB1, hva1, hvb1⟩
    dsimp only at oa' ob' hJ hva1 hvb1 ⊢
    obtain ⟨hM1, hM1a, hM1b⟩ := hbx _ _ _ _ hJ
    refine T.seq ?_
    refine T.seq ?_
    refine T.region ?_ -- region 0
    refine Rg.loadc Tryd.underlying22 rfl rfl rfl (by assumption) rfl ?_
    refine Rg.lensl Tryd.underlying22 rfl hva1 rfl ?_
    refine Rg.igt rfl rfl rfl ?_
    refine Rg.move rfl rfl ?_
    refine Rg.gsplitp (g := 12) rfl (fun g0_3 => ?_) (fun g0_3 => ?_)
    · -- g0_3 True
      have hne1 : a' ≠ [] ∨ b' ≠ [] := .inl (by intro h; rw [h] at g0_3; simp at g0_3)
      refine Rg.gno rfl rfl rfl rfl ?_
      refine Rg.gno rfl rfl rfl rfl ?_
      refine Rg.gno rfl rfl rfl rfl ?_
      refine Rg.pickt rfl rfl rfl ?_
      refine Rg.nil ?_
      refine T.ift rfl ?_
      refine T.skip ?_
      refine T.block ?_
      refine T.seq ?_
      refine T.region ?_ -- region 1
      refine Rg.build (places := [(0, 1), (1, 1), (2, 1)]) Tryd.underlying47 I47 B47 rfl ⟨_, _, rfl, rfl, rfl⟩ (out := [_, .int .i64 0, .int .i64 0]) ⟨0, [_], rfl, rfl, by simp [Value.cells], rfl⟩ ?_
      refine Rg.alloc M1 I47 rfl (fun bx w2 z2 z2' hX0 s2 => ?_)
      obtain ⟨M2, hM2e⟩ : ∃ M2, M2 = ins M1 bx := ⟨_, rfl⟩
      have hxM : M2 bx := by rw [hM2e]; exact .inl rfl
      have hMa : M2 ba := by rw [hM2e]; exact .inr hM1a
      have hMb : M2 bb := by rw [hM2e]; exact .inr hM1b
      have hxa : bx ≠ ba := by have := lt_of_get hA1; omega
      have hxb : bx ≠ bb := by have := lt_of_get hB1; omega
      rw [← hM2e] at s2
      refine Rg.storeaggc (M := M2) I47 rfl rfl (by intro x hx; simp at hx; rcases hx with rfl | rfl | rfl <;> rfl) rfl rfl hX0 hxM (fun w3 hX3 s3 => ?_)
      change w3.heap[bx]? = some (.cells #[.int .i64 2147483648, .int .i64 0, .int .i64 0] 47 (0, 0)) at hX3
      have S3 := s2.transNew s3 (fun j hj => by subst hj; exact z2)
      have hA3 := S3.same0 hA1
      have hB3 := S3.same0 hB1
      have hva3 := hva1.le S3.le
      have hvb3 := hvb1.le S3.le
      have hM3 := S3.lt hM1
      refine Rg.nil ?_
      refine T.seq ?_
      refine T.seq ?_
      refine T.region ?_ -- region 2
      refine Rg.loadc Tryd.underlying22 rfl rfl rfl (by assumption) rfl ?_
      refine Rg.loadc Tryd.underlying22 rfl rfl rfl (by assumption) rfl ?_
      refine Rg.sln (A := (RT.fo).sl) (hn := by decide) (M := M2) (xs := [a', b']) Tryd.underlying54 I22 rfl (by decide) rfl ⟨_, _, _, rfl, rfl, rfl, hva3, _, _, _, rfl, rfl, rfl, hvb3, rfl⟩ rfl hM3 (.inr ⟨rfl, rfl⟩) (by decide) (fun u20 w4 hu20 s4 => ?_)
      refine Rg.lensl Tryd.underlying54 rfl hu20 rfl ?_
      refine Rg.move rfl rfl ?_
      refine Rg.nil ?_
      refine T.block ?_
      refine T.loop (σ := Nat) (fun s => [(0, .func (.yield yl) #[] #[]), (1, .pointer (some ⟨ba, 0, none⟩)), (2, .pointer (some ⟨bb, 0, none⟩)), (4, .pointer (some ⟨bx, 0, none⟩)), (20, u20), (21, .int .i64 2), (22, .int .i64 s)]) (fun s w => s ≤ 2 ∧ Step M1 w1 M2 w none' ∧ w.heap[bx]? = some (.cells #[.int .i64 (mnK a' b' s), .int .i64 0, .int .i64 0] 47 (0, 0)) ∧ (((RT.fo).sl).sl).V M2 w [a', b'] u20) (fun s => 2 - s) 0 (.cons rfl (.cons rfl (.cons rfl (.cons rfl (.cons rfl (.cons rfl (.cons rfl .nil))))))) ?_ ?_ -- loop 1
      · exact ⟨Nat.zero_le _, S3.trans0 s4, s4.same0 hX3, hu20⟩
      · rintro k w5 ⟨hk2, S5, hX5, hu5⟩
        refine T.seq ?_
        refine T.region ?_ -- region 3
        refine Rg.ilt rfl rfl rfl ?_
        refine Rg.nil ?_
        refine T.seq ?_
        refine T.ifp rfl (fun c3 => ?_) (fun c3 => ?_)
        · -- c3 True
          refine T.skip ?_
          refine T.seq ?_
          refine T.block ?_
          refine T.seq ?_
          refine T.region ?_ -- region 4
          obtain ⟨lk, hlk⟩ : ∃ x, [a', b'][k]? = some x := by
            have hlt2 : k < [a', b'].length := by simp; omega
            exact ⟨_, List.getElem?_eq_getElem hlt2⟩
          have hl2 : ([a', b'] : List (List Fo)).length = 2 := rfl
          refine Rg.idx (M := M2) Tryd.underlying54 I22 rfl rfl rfl (hu5) (Le.refl _ _) (by omega) (fun u4_0 a4_0 hg4_0 hu4_0 => ?_)
          obtain rfl : lk = a4_0 := Eq.symm (Option.some.inj (hg4_0.symm.trans (by rw [Int.toNat_natCast]; exact hlk)))
          refine Rg.load (M := M2) Tryd.underlying22 rfl rfl rfl rfl rfl hu4_0 (Le.refl _ _) (fun v4_1 hv4_1 => ?_)
          replace hv4_1 : ((RT.fo).sl).V M2 _ lk v4_1 := hv4_1
          refine Rg.assign rfl rfl ?_
          refine Rg.nil ?_
          refine T.seq ?_
          refine T.region ?_ -- region 5
          refine Rg.move rfl rfl ?_
          refine Rg.lensl Tryd.underlying22 rfl hv4_1 rfl ?_
          refine Rg.igt rfl rfl rfl ?_
          refine Rg.nil ?_
          refine T.ifp rfl (fun c5 => ?_) (fun c5 => ?_)
          · -- c5 True
            obtain ⟨⟨d, s⟩, tl, rfl⟩ : ∃ p tl, lk = p :: tl := by
              cases lk with
              | nil => simp at c5
              | cons p tl => exact ⟨p, tl, rfl⟩
            apply T.drawT (M := M2) mixed [] [Asr.eq _, Asr.eq (.int .i64 (mnK a' b' k)), Asr.eq _, Asr.ptr (RT.fo) (d, s), Asr.ptr (RT.int .i64) d, Asr.eq (.int .i64 d), Asr.eq _] 7 -- region 6
            · rfl
            · rfl
            · rfl
            · rfl
            · rfl
            · exact fun p hp => by cases hp
            · exact UOk.none
            · -- its operations
              refine OblsS.cons ?_ ?_
              · intro wD E sD -- 0
                refine Rg.fieldc Tryd.underlying47 rfl rfl I3 (by decide) rfl rfl ?_
                exact Rg.nil ⟨rfl, rfl, _, rfl, rfl, Step.refl _ _⟩
              refine OblsS.cons ?_ ?_
              · intro wD E sD -- 1
                intro x_ hx_; have hx_ : x_ = _ := hx_; subst x_
                refine Rg.loadc Tryd.underlying3 rfl rfl rfl (Step.same0 sD (by assumption)) rfl ?_
                exact Rg.nil ⟨rfl, rfl, _, rfl, rfl, Step.refl _ _⟩
              refine OblsS.cons ?_ ?_
              · intro wD E sD -- 2
                refine Rg.move rfl rfl ?_
                exact Rg.nil ⟨rfl, rfl, _, rfl, rfl, Step.refl _ _⟩
              refine OblsS.cons ?_ ?_
              · intro wD E sD -- 3
                intro x_ hx_; have hx_ : x_ = _ := hx_; subst x_
                refine Rg.idx (M := M2) Tryd.underlying22 I26 rfl rfl rfl (hv4_1.le sD.le) (Le.refl _ _) (by omega) (fun ui ai hgi hui => ?_)
                obtain rfl : (d, s) = ai := Eq.symm (Option.some.inj (hgi.symm.trans rfl))
                exact Rg.nil ⟨rfl, rfl, _, rfl, hui, Step.refl _ _⟩
              refine OblsS.cons ?_ ?_
              · intro wD E sD -- 4
                intro v3 hv3
                refine Rg.fieldAddr (M := M2) (A := RT.fo) (B := RT.int .i64) Tryd.underlying26 rfl rfl I3 (by decide) (fo0) rfl rfl (by decide) (show PtrTo (RT.fo) M2 wD v3 (d, s) from hv3) (Le.refl _ _) (fun uf huf => ?_)
                exact Rg.nil ⟨rfl, rfl, _, rfl, huf, Step.refl _ _⟩
              refine OblsS.cons ?_ ?_
              · intro wD E sD -- 5
                intro v4 hv4
                refine Rg.loadi64 (M := M2) Tryd.underlying3 rfl rfl (show PtrTo (RT.int .i64) M2 wD v4 d from hv4) (Le.refl _ _) (fun hin => ?_)
                exact Rg.nil ⟨rfl, rfl, _, rfl, rfl, Step.refl _ _⟩
              refine OblsS.cons ?_ ?_
              · intro wD E sD -- 6
                intro x_ hx_; have hx_ : x_ = _ := hx_; subst x_
                intro x_ hx_; have hx_ : x_ = _ := hx_; subst x_
                refine Rg.min2 rfl rfl rfl ?_
                exact Rg.nil ⟨rfl, rfl, _, rfl, rfl, Step.refl _ _⟩
              exact OblsS.nil
            · -- behind it
              intro wD6 sD6
              intro x_ hx_; have hx_ : x_ = _ := hx_; subst x_
              intro x_ hx_; have hx_ : x_ = _ := hx_; subst x_
              intro x_ hx_; have hx_ : x_ = _ := hx_; subst x_
              intro v6_3 hv6_3
              intro v6_4 hv6_4
              intro x_ hx_; have hx_ : x_ = _ := hx_; subst x_
              intro x_ hx_; have hx_ : x_ = _ := hx_; subst x_
              refine Rg.fieldc Tryd.underlying47 rfl rfl I3 (by decide) rfl rfl ?_
              refine Rg.storec (M := M2) I3 rfl rfl (sD6.same0 hX5) rfl rfl hxM (fun w7 hX7 s7 => ?_)
              change w7.heap[bx]? = some (.cells #[.int .i64 (min (mnK a' b' k) d), .int .i64 0, .int .i64 0] 47 (0, 0)) at hX7
              refine Rg.nil ?_
              refine T.region ?_ -- region 7
              refine Rg.iadd rfl rfl rfl (by omega) ?_
              refine Rg.move rfl rfl ?_
              refine Rg.nil ?_
              refine ⟨rfl, k + 1, (.cons rfl (.cons rfl (.cons rfl (.cons rfl (.cons rfl (.cons rfl (.cons rfl .nil))))))), ?_, ?_⟩
              · first
                | exact ⟨by omega, (S5.trans0 sD6).transNew s7 (fun j hj => by subst hj; exact z2), by rw [mnK_succ hlk]; exact hX7, (hu5.le sD6.le).le s7.le⟩
                | exact ⟨by omega, S5, by rw [mnK_succ hlk, hnil]; exact hX5, hu5⟩
              · show 2 - (k + 1) < 2 - k; omega
          · -- c5 False
            have hnil : lk = [] := by
              cases lk with
              | nil => rfl
              | cons p tl => simp at c5
            refine T.skip ?_
            refine T.region ?_ -- region 7
            refine Rg.iadd rfl rfl rfl (by omega) ?_
            refine Rg.move rfl rfl ?_
            refine Rg.nil ?_
            refine ⟨rfl, k + 1, (.cons rfl (.cons rfl (.cons rfl (.cons rfl (.cons rfl (.cons rfl (.cons rfl .nil))))))), ?_, ?_⟩
            · first
              | exact ⟨by omega, (S5.trans0 sD6).transNew s7 (fun j hj => by subst hj; exact z2), by rw [mnK_succ hlk]; exact hX7, (hu5.le sD6.le).le s7.le⟩
              | exact ⟨by omega, S5, by rw [mnK_succ hlk, hnil]; exact hX5, hu5⟩
            · show 2 - (k + 1) < 2 - k; omega
        · -- c3 False
          refine T.exit ?_
          refine T.seq ?_
          refine T.seq ?_
          refine T.region ?_ -- region 8
          obtain rfl : k = 2 := by omega
          replace hX5 : w5.heap[bx]? = some (.cells #[.int .i64 (mnX a' b'), .int .i64 0, .int .i64 0] 47 (0, 0)) := hX5
          have hM5 := S5.lt hM1
          refine Rg.sln (A := RT.adr) (hn := by decide) (M := M2) (xs := [ba, bb]) Tryd.underlying56 I55 rfl (by decide) rfl ⟨_, _, _, rfl, rfl, rfl, V_adr.2 rfl, _, _, _, rfl, rfl, rfl, V_adr.2 rfl, rfl⟩ rfl hM5 (.inr ⟨rfl, rfl⟩) (by decide) (fun u38 w8 hu38 s8 => ?_)
          refine Rg.lensl Tryd.underlying56 rfl hu38 rfl ?_
          refine Rg.move rfl rfl ?_
          refine Rg.nil ?_
          refine T.block ?_
          refine T.loop (σ := Nat) (fun s => [(0, .func (.yield yl) #[] #[]), (1, .pointer (some ⟨ba, 0, none⟩)), (2, .pointer (some ⟨bb, 0, none⟩)), (4, .pointer (some ⟨bx, 0, none⟩)), (38, u38), (39, .int .i64 2), (40, .int .i64 s)]) (fun s w => s ≤ 2 ∧ ((RT.adr).sl).V M2 w [ba, bb] u38 ∧ Step M1 w1 M2 w (fun j => j = ba ∨ j = bb) ∧ w.heap[bx]? = some (.cells #[.int .i64 (mnX a' b'), .int .i64 (mny a' b' s), .int .i64 (scr a' b' s)] 47 (0, 0)) ∧ ∃ v0 v1, w.heap[ba]? = some (.cells #[v0] 22 (0, 0)) ∧ ((RT.fo).sl).V M2 w (lK a' (mnX a' b') (decide (0 < s))) v0 ∧ w.heap[bb]? = some (.cells #[v1] 22 (0, 0)) ∧ ((RT.fo).sl).V M2 w (lK b' (mnX a' b') (decide (1 < s))) v1) (fun s => 2 - s) 0 (.cons rfl (.cons rfl (.cons rfl (.cons rfl (.cons rfl (.cons rfl (.cons rfl .nil))))))) ?_ ?_ -- loop 2
          · exact ⟨Nat.zero_le _, hu38, (S5.trans0 s8).widen (fun _ h => h.elim) (fun j hj => by rcases hj with rfl | rfl; exact hM1a; exact hM1b), s8.same0 hX5, va1, vb1, s8.same0 (S5.same0 hA1), (hva1.le S5.le).le s8.le, s8.same0 (S5.same0 hB1), (hvb1.le S5.le).le s8.le⟩
          · rintro k w6 ⟨hk2, hu6, S6, hX6, v0, v1, hA6, hv0, hB6, hv1⟩
            have hmy := mny_rng a' b' k
            refine T.seq ?_
            refine T.region ?_ -- region 9
            refine Rg.ilt rfl rfl rfl ?_
            refine Rg.nil ?_
            refine T.seq ?_
            refine T.ifp rfl (fun c9 => ?_) (fun c9 => ?_)
            · -- c9 True
              refine T.skip ?_
              refine T.seq ?_
              refine T.block ?_
              refine T.seq ?_
              refine T.region ?_ -- region 10
              obtain ⟨pk, lk, vk, hpk, hlk, hkc, hkv, hkM, hkN, hkx, hclose⟩ := side_pick (show k < 2 by omega) hne hxa hxb hMa hMb hA6 hv0 hB6 hv1
              have hl3 : ([ba, bb] : List Nat).length = 2 := rfl
              refine Rg.idx (M := M2) Tryd.underlying56 I55 rfl rfl rfl (hu6) (Le.refl _ _) (by omega) (fun u10_0 a10_0 hg10_0 hu10_0 => ?_)
              obtain rfl : pk = a10_0 := Eq.symm (Option.some.inj (hg10_0.symm.trans (by rw [Int.toNat_natCast]; exact hpk)))
              refine Rg.load (M := M2) Tryd.underlying55 rfl rfl rfl rfl rfl hu10_0 (Le.refl _ _) (fun v10 hv10 => ?_)
              obtain rfl := V_adr.1 hv10
              refine Rg.assign rfl rfl ?_
              refine Rg.nil ?_
              refine T.seq ?_
              by_cases g11_5 : ((lk.length : Nat) : Int) > 0
              · -- g11_5 True
                obtain ⟨⟨d, s⟩, tl, rfl⟩ : ∃ p tl, lk = p :: tl := by
                  cases lk with
                  | nil => simp at g11_5
                  | cons p tl => exact ⟨p, tl, rfl⟩
                apply T.draw (M := M2) mixed [Asr.eq _, Asr.eq _, Asr.eq vk, Asr.eq _, Asr.eq _, Asr.eq (.bool true), Asr.eq _, Asr.eq _, Asr.eq vk, Asr.ptr (RT.fo) (d, s), Asr.ptr (RT.int .i64) d, Asr.eq (.int .i64 d), Asr.eq _, Asr.eq (.int .i64 (mnX a' b')), Asr.eq _, Asr.eq _] -- region 11
                · rfl
                · -- its operations
                  refine Obls.cons ?_ ?_
                  · intro wD E sD -- 0
                    refine Rg.move rfl rfl ?_
                    exact Rg.nil ⟨rfl, rfl, _, rfl, rfl, Step.refl _ _⟩
                  refine Obls.cons ?_ ?_
                  · intro wD E sD -- 1
                    intro x_ hx_; have hx_ : x_ = _ := hx_; subst x_
                    refine Rg.nilCheck rfl ⟨_, rfl⟩ rfl ?_
                    exact Rg.nil ⟨rfl, rfl, _, rfl, rfl, Step.refl _ _⟩
                  refine Obls.cons ?_ ?_
                  · intro wD E sD -- 2
                    intro x_ hx_; have hx_ : x_ = _ := hx_; subst x_
                    refine Rg.loadc Tryd.underlying22 rfl rfl rfl (Step.same0 sD (by assumption)) rfl ?_
                    exact Rg.nil ⟨rfl, rfl, _, rfl, rfl, Step.refl _ _⟩
                  refine Obls.cons ?_ ?_
                  · intro wD E sD -- 3
                    intro x_ hx_; have hx_ : x_ = _ := hx_; subst x_
                    refine Rg.lensl Tryd.underlying22 rfl (hkv.le sD.le) rfl ?_
                    exact Rg.nil ⟨rfl, rfl, _, rfl, rfl, Step.refl _ _⟩
                  refine Obls.cons ?_ ?_
                  · intro wD E sD -- 4
                    intro x_ hx_; have hx_ : x_ = _ := hx_; subst x_
                    refine Rg.igt rfl rfl rfl ?_
                    exact Rg.nil ⟨rfl, rfl, _, rfl, rfl, Step.refl _ _⟩
                  refine Obls.cons ?_ ?_
                  · intro wD E sD -- 5
                    intro x_ hx_; have hx_ : x_ = _ := hx_; subst x_
                    refine Rg.move rfl rfl ?_
                    refine Rg.nil ⟨rfl, rfl, _, rfl, ?_, Step.refl _ _⟩
                    exact congrArg Value.bool (decide_eq_true g11_5)
                  refine Obls.cons ?_ ?_
                  · intro wD E sD -- 6
                    intro x_ hx_; have hx_ : x_ = _ := hx_; subst x_
                    refine Rg.gyes rfl rfl ?_
                    refine Rg.move rfl rfl ?_
                    exact Rg.nil ⟨rfl, rfl, _, rfl, rfl, Step.refl _ _⟩
                  refine Obls.cons ?_ ?_
                  · intro wD E sD -- 7
                    intro x_ hx_; have hx_ : x_ = _ := hx_; subst x_
                    intro x_ hx_; have hx_ : x_ = _ := hx_; subst x_
                    refine Rg.gyes rfl rfl ?_
                    refine Rg.nilCheck rfl ⟨_, rfl⟩ rfl ?_
                    exact Rg.nil ⟨rfl, rfl, _, rfl, rfl, Step.refl _ _⟩
                  refine Obls.cons ?_ ?_
                  · intro wD E sD -- 8
                    intro x_ hx_; have hx_ : x_ = _ := hx_; subst x_
                    intro x_ hx_; have hx_ : x_ = _ := hx_; subst x_
                    refine Rg.gyes rfl rfl ?_
                    refine Rg.loadc Tryd.underlying22 rfl rfl rfl (Step.same0 sD (by assumption)) rfl ?_
                    exact Rg.nil ⟨rfl, rfl, _, rfl, rfl, Step.refl _ _⟩
                  refine Obls.cons ?_ ?_
                  · intro wD E sD -- 9
                    intro x_ hx_; have hx_ : x_ = _ := hx_; subst x_
                    intro x_ hx_; have hx_ : x_ = _ := hx_; subst x_
                    refine Rg.gyes rfl rfl ?_
                    refine Rg.idx (M := M2) Tryd.underlying22 I26 rfl rfl rfl (hkv.le sD.le) (Le.refl _ _) (by omega) (fun ui ai hgi hui => ?_)
                    obtain rfl : (d, s) = ai := Eq.symm (Option.some.inj (hgi.symm.trans rfl))
                    exact Rg.nil ⟨rfl, rfl, _, rfl, hui, Step.refl _ _⟩
                  refine Obls.cons ?_ ?_
                  · intro wD E sD -- 10
                    intro v9 hv9
                    intro x_ hx_; have hx_ : x_ = _ := hx_; subst x_
                    refine Rg.gyes rfl rfl ?_
                    refine Rg.fieldAddr (M := M2) (A := RT.fo) (B := RT.int .i64) Tryd.underlying26 rfl rfl I3 (by decide) (fo0) rfl rfl (by decide) (show PtrTo (RT.fo) M2 wD v9 (d, s) from hv9) (Le.refl _ _) (fun uf huf => ?_)
                    exact Rg.nil ⟨rfl, rfl, _, rfl, huf, Step.refl _ _⟩
                  refine Obls.cons ?_ ?_
                  · intro wD E sD -- 11
                    intro v10 hv10
                    intro x_ hx_; have hx_ : x_ = _ := hx_; subst x_
                    refine Rg.gyes rfl rfl ?_
                    refine Rg.loadi64 (M := M2) Tryd.underlying3 rfl rfl (show PtrTo (RT.int .i64) M2 wD v10 d from hv10) (Le.refl _ _) (fun hin => ?_)
                    exact Rg.nil ⟨rfl, rfl, _, rfl, rfl, Step.refl _ _⟩
                  refine Obls.cons ?_ ?_
                  · intro wD E sD -- 12
                    intro x_ hx_; have hx_ : x_ = _ := hx_; subst x_
                    refine Rg.gyes rfl rfl ?_
                    refine Rg.fieldc Tryd.underlying47 rfl rfl I3 (by decide) rfl rfl ?_
                    exact Rg.nil ⟨rfl, rfl, _, rfl, rfl, Step.refl _ _⟩
                  refine Obls.cons ?_ ?_
                  · intro wD E sD -- 13
                    intro x_ hx_; have hx_ : x_ = _ := hx_; subst x_
                    intro x_ hx_; have hx_ : x_ = _ := hx_; subst x_
                    refine Rg.gyes rfl rfl ?_
                    refine Rg.loadc Tryd.underlying3 rfl rfl rfl (Step.same0 sD (by assumption)) rfl ?_
                    exact Rg.nil ⟨rfl, rfl, _, rfl, rfl, Step.refl _ _⟩
                  refine Obls.cons ?_ ?_
                  · intro wD E sD -- 14
                    intro x_ hx_; have hx_ : x_ = _ := hx_; subst x_
                    intro x_ hx_; have hx_ : x_ = _ := hx_; subst x_
                    intro x_ hx_; have hx_ : x_ = _ := hx_; subst x_
                    refine Rg.gyes rfl rfl ?_
                    refine Rg.ieq rfl rfl rfl ?_
                    exact Rg.nil ⟨rfl, rfl, _, rfl, rfl, Step.refl _ _⟩
                  refine Obls.cons ?_ ?_
                  · intro wD E sD -- 15
                    intro x_ hx_; have hx_ : x_ = _ := hx_; subst x_
                    intro x_ hx_; have hx_ : x_ = _ := hx_; subst x_
                    refine Rg.pickt rfl rfl rfl ?_
                    exact Rg.nil ⟨rfl, rfl, _, rfl, rfl, Step.refl _ _⟩
                  exact Obls.nil
                · -- behind it
                  intro wD11 sD11
                  intro x_ hx_; have hx_ : x_ = _ := hx_; subst x_
                  intro x_ hx_; have hx_ : x_ = _ := hx_; subst x_
                  intro x_ hx_; have hx_ : x_ = _ := hx_; subst x_
                  intro x_ hx_; have hx_ : x_ = _ := hx_; subst x_
                  intro x_ hx_; have hx_ : x_ = _ := hx_; subst x_
                  intro x_ hx_; have hx_ : x_ = _ := hx_; subst x_
                  intro x_ hx_; have hx_ : x_ = _ := hx_; subst x_
                  intro x_ hx_; have hx_ : x_ = _ := hx_; subst x_
                  intro x_ hx_; have hx_ : x_ = _ := hx_; subst x_
                  intro v11_9 hv11_9
                  intro v11_10 hv11_10
                  intro x_ hx_; have hx_ : x_ = _ := hx_; subst x_
                  intro x_ hx_; have hx_ : x_ = _ := hx_; subst x_
                  intro x_ hx_; have hx_ : x_ = _ := hx_; subst x_
                  intro x_ hx_; have hx_ : x_ = _ := hx_; subst x_
                  intro x_ hx_; have hx_ : x_ = _ := hx_; subst x_
                  have hX11 := sD11.same0 hX6
                  have hkc11 := sD11.same0 hkc
                  refine T.ifp rfl (fun c11 => ?_) (fun c11 => ?_)
                  · -- c11 True
                    refine T.seq ?_
                    refine T.region ?_ -- region 12
                    refine Rg.fieldc Tryd.underlying47 rfl rfl I3 (by decide) rfl rfl ?_
                    refine Rg.loadc Tryd.underlying3 rfl rfl rfl hX11 rfl ?_
                    refine Rg.eqv (v' := .int .i64 (mny a' b' k)) rfl ?_
                    refine Rg.iadd rfl rfl rfl (by omega) ?_
                    refine Rg.fieldc Tryd.underlying47 rfl rfl I3 (by decide) rfl rfl ?_
                    refine Rg.storec (M := M2) I3 rfl rfl hX11 rfl rfl hxM (fun w12 hX12 s12 => ?_)
                    change w12.heap[bx]? = some (.cells #[.int .i64 (mnX a' b'), .int .i64 (mny a' b' k + 1), .int .i64 (scr a' b' k)] 47 (0, 0)) at hX12
                    have hkc12 := s12.keep hkc11 hkx
                    have hkv12 := (hkv.le sD11.le).le s12.le
                    refine Rg.nil ?_
                    refine T.seq ?_
                    apply T.drawT (M := M2) mixed [] [Asr.eq _, Asr.eq (.int .i64 (scr a' b' k)), Asr.eq _, Asr.eq _, Asr.eq vk, Asr.ptr (RT.fo) (d, s), Asr.ptr (RT.int .i64) s, Asr.eq (.int .i64 s), Asr.eq _] 9 -- region 13
                    · rfl
                    · rfl
                    · rfl
                    · rfl
                    · rfl
                    · exact fun p hp => by cases hp
                    · exact UOk.none
                    · -- its operations
                      refine OblsS.cons ?_ ?_
                      · intro wD E sD -- 0
                        refine Rg.fieldc Tryd.underlying47 rfl rfl I3 (by decide) rfl rfl ?_
                        exact Rg.nil ⟨rfl, rfl, _, rfl, rfl, Step.refl _ _⟩
                      refine OblsS.cons ?_ ?_
                      · intro wD E sD -- 1
                        intro x_ hx_; have hx_ : x_ = _ := hx_; subst x_
                        refine Rg.loadc Tryd.underlying3 rfl rfl rfl (Step.same0 sD (by assumption)) rfl ?_
                        exact Rg.nil ⟨rfl, rfl, _, rfl, rfl, Step.refl _ _⟩
                      refine OblsS.cons ?_ ?_
                      · intro wD E sD -- 2
                        refine Rg.move rfl rfl ?_
                        exact Rg.nil ⟨rfl, rfl, _, rfl, rfl, Step.refl _ _⟩
                      refine OblsS.cons ?_ ?_
                      · intro wD E sD -- 3
                        intro x_ hx_; have hx_ : x_ = _ := hx_; subst x_
                        refine Rg.nilCheck rfl ⟨_, rfl⟩ rfl ?_
                        exact Rg.nil ⟨rfl, rfl, _, rfl, rfl, Step.refl _ _⟩
                      refine OblsS.cons ?_ ?_
                      · intro wD E sD -- 4
                        intro x_ hx_; have hx_ : x_ = _ := hx_; subst x_
                        refine Rg.loadc Tryd.underlying22 rfl rfl rfl (Step.same0 sD (by assumption)) rfl ?_
                        exact Rg.nil ⟨rfl, rfl, _, rfl, rfl, Step.refl _ _⟩
                      refine OblsS.cons ?_ ?_
                      · intro wD E sD -- 5
                        intro x_ hx_; have hx_ : x_ = _ := hx_; subst x_
                        refine Rg.idx (M := M2) Tryd.underlying22 I26 rfl rfl rfl (hkv12.le sD.le) (Le.refl _ _) (by omega) (fun ui ai hgi hui => ?_)
                        obtain rfl : (d, s) = ai := Eq.symm (Option.some.inj (hgi.symm.trans rfl))
                        exact Rg.nil ⟨rfl, rfl, _, rfl, hui, Step.refl _ _⟩
                      refine OblsS.cons ?_ ?_
                      · intro wD E sD -- 6
                        intro v5 hv5
                        refine Rg.fieldAddr (M := M2) (A := RT.fo) (B := RT.int .i64) Tryd.underlying26 rfl rfl I3 (by decide) (fo1) rfl rfl (by decide) (show PtrTo (RT.fo) M2 wD v5 (d, s) from hv5) (Le.refl _ _) (fun uf huf => ?_)
                        exact Rg.nil ⟨rfl, rfl, _, rfl, huf, Step.refl _ _⟩
                      refine OblsS.cons ?_ ?_
                      · intro wD E sD -- 7
                        intro v6 hv6
                        refine Rg.loadi64 (M := M2) Tryd.underlying3 rfl rfl (show PtrTo (RT.int .i64) M2 wD v6 s from hv6) (Le.refl _ _) (fun hin => ?_)
                        exact Rg.nil ⟨rfl, rfl, _, rfl, rfl, Step.refl _ _⟩
                      refine OblsS.cons ?_ ?_
                      · intro wD E sD -- 8
                        intro x_ hx_; have hx_ : x_ = _ := hx_; subst x_
                        intro x_ hx_; have hx_ : x_ = _ := hx_; subst x_
                        refine Rg.addw rfl rfl rfl ?_
                        exact Rg.nil ⟨rfl, rfl, _, rfl, rfl, Step.refl _ _⟩
                      exact OblsS.nil
                    · -- behind it
                      intro wD13 sD13
                      intro x_ hx_; have hx_ : x_ = _ := hx_; subst x_
                      intro x_ hx_; have hx_ : x_ = _ := hx_; subst x_
                      intro x_ hx_; have hx_ : x_ = _ := hx_; subst x_
                      intro x_ hx_; have hx_ : x_ = _ := hx_; subst x_
                      intro x_ hx_; have hx_ : x_ = _ := hx_; subst x_
                      intro v13_5 hv13_5
                      intro v13_6 hv13_6
                      intro x_ hx_; have hx_ : x_ = _ := hx_; subst x_
                      intro x_ hx_; have hx_ : x_ = _ := hx_; subst x_
                      refine Rg.fieldc Tryd.underlying47 rfl rfl I3 (by decide) rfl rfl ?_
                      have hX13 := sD13.same0 hX12
                      refine Rg.storec (M := M2) I3 rfl rfl hX13 rfl rfl hxM (fun w14 hX14 s14 => ?_)
                      change w14.heap[bx]? = some (.cells #[.int .i64 (mnX a' b'), .int .i64 (mny a' b' k + 1), .int .i64 (IntKind.i64.wrap (scr a' b' k + s))] 47 (0, 0)) at hX14
                      have hkc14 := s14.keep (sD13.same0 hkc12) hkx
                      have hkv14 := (hkv12.le sD13.le).le s14.le
                      refine Rg.nil ?_
                      refine T.region ?_ -- region 14
                      refine Rg.move rfl rfl ?_
                      refine Rg.move rfl rfl ?_
                      refine Rg.nilCheck rfl ⟨_, rfl⟩ rfl ?_
                      refine Rg.loadc Tryd.underlying22 rfl rfl rfl hkc14 rfl ?_
                      refine Rg.eqv (v' := vk) rfl ?_
                      refine Rg.slice_l (A := RT.fo) (hn := by decide) Tryd.underlying22 I26 rfl rfl rfl hkv14 (by simp only [List.length_cons]; omega) (fun u14 hu14 => ?_)
                      replace hu14 : ((RT.fo).sl).V M2 w14 tl u14 := hu14
                      refine Rg.nilCheck rfl ⟨_, rfl⟩ rfl ?_
                      refine Rg.storec (M := M2) I22 rfl rfl hkc14 rfl (V_one hu14 rfl rfl) hkM (fun w15 hkc15 s15 => ?_)
                      change w15.heap[pk]? = some (.cells #[u14] 22 (0, 0)) at hkc15
                      have hX15 := s15.keep hX14 (fun h => hkx h.symm)
                      have hhit : hit ((d, s) :: tl) (mnX a' b') = true := hit_of c11
                      have hrs : restF ((d, s) :: tl) (mnX a' b') = tl := by unfold restF; rw [if_pos hhit]; rfl
                      have SK := ((((S6.trans0 sD11).transNew s12 (fun j hj => by subst hj; omega)).trans0 sD13).transNew s14 (fun j hj => by subst hj; omega)).trans s15 (fun j _ hj => by subst hj; exact hkN)
                      have hK6 := Le.trans (Le.trans (Le.trans (Le.trans sD11.le s12.le) sD13.le) s14.le) s15.le
                      refine Rg.nil ?_
                      refine T.region ?_ -- region 15
                      refine Rg.iadd rfl rfl rfl (by omega) ?_
                      refine Rg.move rfl rfl ?_
                      refine Rg.nil ?_
                      refine ⟨rfl, k + 1, (.cons rfl (.cons rfl (.cons rfl (.cons rfl (.cons rfl (.cons rfl (.cons rfl .nil))))))), ?_, ?_⟩
                      · first
                        | exact ⟨by omega, hu6.le hK6, SK, by rw [mny_succ hlk, scr_succ hlk]; unfold addM addS; rw [if_pos hhit, if_pos hhit]; exact hX15, hclose w15 u14 (fun q o h1 h2 h3 => s15.keep (s14.keep (sD13.same0 (s12.keep (sD11.same0 h3) h2)) h2) h1) (fun l v h => h.le hK6) hkc15 (by rw [hrs]; exact hu14.le s15.le)⟩
                        | exact ⟨by omega, hu6.le sD11.le, S6.trans0 sD11, by rw [mny_succ hlk, scr_succ hlk]; unfold addM addS; rw [if_neg (by rw [hnh]; decide), if_neg (by rw [hnh]; decide)]; exact sD11.same0 hX6, hclose _ vk (fun q o h1 h2 h3 => sD11.same0 h3) (fun l v h => h.le sD11.le) (sD11.same0 hkc) (by unfold restF; rw [if_neg (by rw [hnh]; decide)]; exact hkv.le sD11.le)⟩
                      · show 2 - (k + 1) < 2 - k; omega
                  · -- c11 False
                    have hnh : hit ((d, s) :: tl) (mnX a' b') = false := decide_eq_false c11
                    refine T.skip ?_
                    refine T.region ?_ -- region 15
                    refine Rg.iadd rfl rfl rfl (by omega) ?_
                    refine Rg.move rfl rfl ?_
                    refine Rg.nil ?_
                    refine ⟨rfl, k + 1, (.cons rfl (.cons rfl (.cons rfl (.cons rfl (.cons rfl (.cons rfl (.cons rfl .nil))))))), ?_, ?_⟩
                    · first
                      | exact ⟨by omega, hu6.le hK6, SK, by rw [mny_succ hlk, scr_succ hlk]; unfold addM addS; rw [if_pos hhit, if_pos hhit]; exact hX15, hclose w15 u14 (fun q o h1 h2 h3 => s15.keep (s14.keep (sD13.same0 (s12.keep (sD11.same0 h3) h2)) h2) h1) (fun l v h => h.le hK6) hkc15 (by rw [hrs]; exact hu14.le s15.le)⟩
                      | exact ⟨by omega, hu6.le sD11.le, S6.trans0 sD11, by rw [mny_succ hlk, scr_succ hlk]; unfold addM addS; rw [if_neg (by rw [hnh]; decide), if_neg (by rw [hnh]; decide)]; exact sD11.same0 hX6, hclose _ vk (fun q o h1 h2 h3 => sD11.same0 h3) (fun l v h => h.le sD11.le) (sD11.same0 hkc) (by unfold restF; rw [if_neg (by rw [hnh]; decide)]; exact hkv.le sD11.le)⟩
                    · show 2 - (k + 1) < 2 - k; omega
              · -- g11_5 False
                have hnh : hit lk (mnX a' b') = false := by
                  cases lk with
                  | nil => rfl
                  | cons p tl => simp at g11_5
                apply T.draw (M := M2) mixed [Asr.eq _, Asr.eq _, Asr.eq vk, Asr.eq _, Asr.eq _, Asr.eq (.bool false), Asr.eq undef, Asr.eq undef, Asr.eq undef, Asr.eq undef, Asr.eq undef, Asr.eq undef, Asr.eq undef, Asr.eq undef, Asr.eq undef, Asr.eq _] -- region 11
                · rfl
                · -- its operations
                  refine Obls.cons ?_ ?_
                  · intro wD E sD -- 0
                    refine Rg.move rfl rfl ?_
                    exact Rg.nil ⟨rfl, rfl, _, rfl, rfl, Step.refl _ _⟩
                  refine Obls.cons ?_ ?_
                  · intro wD E sD -- 1
                    intro x_ hx_; have hx_ : x_ = _ := hx_; subst x_
                    refine Rg.nilCheck rfl ⟨_, rfl⟩ rfl ?_
                    exact Rg.nil ⟨rfl, rfl, _, rfl, rfl, Step.refl _ _⟩
                  refine Obls.cons ?_ ?_
                  · intro wD E sD -- 2
                    intro x_ hx_; have hx_ : x_ = _ := hx_; subst x_
                    refine Rg.loadc Tryd.underlying22 rfl rfl rfl (Step.same0 sD (by assumption)) rfl ?_
                    exact Rg.nil ⟨rfl, rfl, _, rfl, rfl, Step.refl _ _⟩
                  refine Obls.cons ?_ ?_
                  · intro wD E sD -- 3
                    intro x_ hx_; have hx_ : x_ = _ := hx_; subst x_
                    refine Rg.lensl Tryd.underlying22 rfl (hkv.le sD.le) rfl ?_
                    exact Rg.nil ⟨rfl, rfl, _, rfl, rfl, Step.refl _ _⟩
                  refine Obls.cons ?_ ?_
                  · intro wD E sD -- 4
                    intro x_ hx_; have hx_ : x_ = _ := hx_; subst x_
                    refine Rg.igt rfl rfl rfl ?_
                    exact Rg.nil ⟨rfl, rfl, _, rfl, rfl, Step.refl _ _⟩
                  refine Obls.cons ?_ ?_
                  · intro wD E sD -- 5
                    intro x_ hx_; have hx_ : x_ = _ := hx_; subst x_
                    refine Rg.move rfl rfl ?_
                    refine Rg.nil ⟨rfl, rfl, _, rfl, ?_, Step.refl _ _⟩
                    exact congrArg Value.bool (decide_eq_false g11_5)
                  refine Obls.cons ?_ ?_
                  · intro wD E sD -- 6
                    intro x_ hx_; have hx_ : x_ = _ := hx_; subst x_
                    exact Rg.gno rfl rfl rfl rfl (Rg.nil ⟨rfl, rfl, _, rfl, rfl, Step.refl _ _⟩)
                  refine Obls.cons ?_ ?_
                  · intro wD E sD -- 7
                    intro x_ hx_; have hx_ : x_ = _ := hx_; subst x_
                    intro x_ hx_; have hx_ : x_ = _ := hx_; subst x_
                    exact Rg.gno rfl rfl rfl rfl (Rg.nil ⟨rfl, rfl, _, rfl, rfl, Step.refl _ _⟩)
                  refine Obls.cons ?_ ?_
                  · intro wD E sD -- 8
                    intro x_ hx_; have hx_ : x_ = _ := hx_; subst x_
                    intro x_ hx_; have hx_ : x_ = _ := hx_; subst x_
                    exact Rg.gno rfl rfl rfl rfl (Rg.nil ⟨rfl, rfl, _, rfl, rfl, Step.refl _ _⟩)
                  refine Obls.cons ?_ ?_
                  · intro wD E sD -- 9
                    intro x_ hx_; have hx_ : x_ = _ := hx_; subst x_
                    intro x_ hx_; have hx_ : x_ = _ := hx_; subst x_
                    exact Rg.gno rfl rfl rfl rfl (Rg.nil ⟨rfl, rfl, _, rfl, rfl, Step.refl _ _⟩)
                  refine Obls.cons ?_ ?_
                  · intro wD E sD -- 10
                    intro x_ hx_; have hx_ : x_ = _ := hx_; subst x_
                    intro x_ hx_; have hx_ : x_ = _ := hx_; subst x_
                    exact Rg.gno rfl rfl rfl rfl (Rg.nil ⟨rfl, rfl, _, rfl, rfl, Step.refl _ _⟩)
                  refine Obls.cons ?_ ?_
                  · intro wD E sD -- 11
                    intro x_ hx_; have hx_ : x_ = _ := hx_; subst x_
                    intro x_ hx_; have hx_ : x_ = _ := hx_; subst x_
                    exact Rg.gno rfl rfl rfl rfl (Rg.nil ⟨rfl, rfl, _, rfl, rfl, Step.refl _ _⟩)
                  refine Obls.cons ?_ ?_
                  · intro wD E sD -- 12
                    intro x_ hx_; have hx_ : x_ = _ := hx_; subst x_
                    exact Rg.gno rfl rfl rfl rfl (Rg.nil ⟨rfl, rfl, _, rfl, rfl, Step.refl _ _⟩)
                  refine Obls.cons ?_ ?_
                  · intro wD E sD -- 13
                    intro x_ hx_; have hx_ : x_ = _ := hx_; subst x_
                    intro x_ hx_; have hx_ : x_ = _ := hx_; subst x_
                    exact Rg.gno rfl rfl rfl rfl (Rg.nil ⟨rfl, rfl, _, rfl, rfl, Step.refl _ _⟩)
                  refine Obls.cons ?_ ?_
                  · intro wD E sD -- 14
                    intro x_ hx_; have hx_ : x_ = _ := hx_; subst x_
                    intro x_ hx_; have hx_ : x_ = _ := hx_; subst x_
                    intro x_ hx_; have hx_ : x_ = _ := hx_; subst x_
                    exact Rg.gno rfl rfl rfl rfl (Rg.nil ⟨rfl, rfl, _, rfl, rfl, Step.refl _ _⟩)
                  refine Obls.cons ?_ ?_
                  · intro wD E sD -- 15
                    intro x_ hx_; have hx_ : x_ = _ := hx_; subst x_
                    intro x_ hx_; have hx_ : x_ = _ := hx_; subst x_
                    refine Rg.pickf rfl rfl rfl ?_
                    exact Rg.nil ⟨rfl, rfl, _, rfl, rfl, Step.refl _ _⟩
                  exact Obls.nil
                · -- behind it
                  intro wD11 sD11
                  intro x_ hx_; have hx_ : x_ = _ := hx_; subst x_
                  intro x_ hx_; have hx_ : x_ = _ := hx_; subst x_
                  intro x_ hx_; have hx_ : x_ = _ := hx_; subst x_
                  intro x_ hx_; have hx_ : x_ = _ := hx_; subst x_
                  intro x_ hx_; have hx_ : x_ = _ := hx_; subst x_
                  intro x_ hx_; have hx_ : x_ = _ := hx_; subst x_
                  intro x_ hx_; have hx_ : x_ = _ := hx_; subst x_
                  intro x_ hx_; have hx_ : x_ = _ := hx_; subst x_
                  intro x_ hx_; have hx_ : x_ = _ := hx_; subst x_
                  intro x_ hx_; have hx_ : x_ = _ := hx_; subst x_
                  intro x_ hx_; have hx_ : x_ = _ := hx_; subst x_
                  intro x_ hx_; have hx_ : x_ = _ := hx_; subst x_
                  intro x_ hx_; have hx_ : x_ = _ := hx_; subst x_
                  intro x_ hx_; have hx_ : x_ = _ := hx_; subst x_
                  intro x_ hx_; have hx_ : x_ = _ := hx_; subst x_
                  intro x_ hx_; have hx_ : x_ = _ := hx_; subst x_
                  have hX11 := sD11.same0 hX6
                  have hkc11 := sD11.same0 hkc
                  refine T.iff rfl ?_
                  refine T.skip ?_
                  refine T.region ?_ -- region 15
                  refine Rg.iadd rfl rfl rfl (by omega) ?_
                  refine Rg.move rfl rfl ?_
                  refine Rg.nil ?_
                  refine ⟨rfl, k + 1, (.cons rfl (.cons rfl (.cons rfl (.cons rfl (.cons rfl (.cons rfl (.cons rfl .nil))))))), ?_, ?_⟩
                  · first
                    | exact ⟨by omega, hu6.le hK6, SK, by rw [mny_succ hlk, scr_succ hlk]; unfold addM addS; rw [if_pos hhit, if_pos hhit]; exact hX15, hclose w15 u14 (fun q o h1 h2 h3 => s15.keep (s14.keep (sD13.same0 (s12.keep (sD11.same0 h3) h2)) h2) h1) (fun l v h => h.le hK6) hkc15 (by rw [hrs]; exact hu14.le s15.le)⟩
                    | exact ⟨by omega, hu6.le sD11.le, S6.trans0 sD11, by rw [mny_succ hlk, scr_succ hlk]; unfold addM addS; rw [if_neg (by rw [hnh]; decide), if_neg (by rw [hnh]; decide)]; exact sD11.same0 hX6, hclose _ vk (fun q o h1 h2 h3 => sD11.same0 h3) (fun l v h => h.le sD11.le) (sD11.same0 hkc) (by unfold restF; rw [if_neg (by rw [hnh]; decide)]; exact hkv.le sD11.le)⟩
                  · show 2 - (k + 1) < 2 - k; omega
            · -- c9 False
              refine T.exit ?_
              refine T.seq ?_
              refine T.region ?_ -- region 16
              refine Rg.move rfl rfl ?_
              obtain rfl : k = 2 := by omega
              refine Rg.loadaggc (vs := [.int .i64 (mnX a' b'), .int .i64 (mny a' b' 2), .int .i64 (scr a' b' 2)]) Tryd.underlying47 rfl I47 rfl rfl rfl hX6 ?_
              have hJ7 := hst _ _ _ _ _ _ hJ S6
              refine Rg.yield rfl (vs := [.agg #[.int .i64 (mnX a' b'), .int .i64 (mny a' b' 2), .int .i64 (scr a' b' 2)]]) rfl rfl (hy a' b' M2 _ hJ7 oa' ob' hne1) (fun r9 w9 h9 => ?_)
              obtain ⟨c, rfl, hc5, hc6⟩ := h9
              refine Rg.not rfl rfl ?_
              refine Rg.eqv (v' := .bool (decide (¬ c = true))) (by simp) ?_
              refine Rg.nil ?_
              refine T.ifp rfl (fun c16 => ?_) (fun c16 => ?_)
              · -- c16 True
                refine T.ret ?_
                exact Kret0 rfl (.inr (hc6 (by simpa using c16)))
              · -- c16 False
                obtain ⟨M9, N9, hJ9, s9, hN9⟩ := hc5 (Decidable.not_not.1 c16)
                refine T.skip ?_
                refine ⟨rfl, (restF a' (mnX a' b'), restF b' (mnX a' b')), (.cons rfl (.cons rfl (.cons rfl .nil))), ?_, ?_⟩
                · exact ⟨oa'.rest _, ob'.rest _, v0, v1, M9, hJ9, s9.keep hA6 (fun h => (hN9 _ h).1 rfl), s9.keep hB6 (fun h => (hN9 _ h).2 rfl), hv0.le s9.le, hv1.le s9.le⟩
                · exact side_less oa' ob' hne1
    · -- g0_3 False
      refine Rg.gyes rfl rfl ?_
      refine Rg.loadc Tryd.underlying22 rfl rfl rfl (by assumption) rfl ?_
      refine Rg.gyes rfl rfl ?_
      refine Rg.lensl Tryd.underlying22 rfl hvb1 rfl ?_
      refine Rg.gyes rfl rfl ?_
      refine Rg.igt rfl rfl rfl ?_
      refine Rg.pickf rfl rfl rfl ?_
      refine Rg.nil ?_
      refine T.ifp rfl (fun c0 => ?_) (fun c0 => ?_)
      · -- c0 True
        have hne1 : a' ≠ [] ∨ b' ≠ [] := .inr (by intro h; rw [h] at c0; simp at c0)
        refine T.skip ?_
        refine T.block ?_
        refine T.seq ?_
        refine T.region ?_ -- region 1
        refine Rg.build (places := [(0, 1), (1, 1), (2, 1)]) Tryd.underlying47 I47 B47 rfl ⟨_, _, rfl, rfl, rfl⟩ (out := [_, .int .i64 0, .int .i64 0]) ⟨0, [_], rfl, rfl, by simp [Value.cells], rfl⟩ ?_
        refine Rg.alloc M1 I47 rfl (fun bx w2 z2 z2' hX0 s2 => ?_)
        obtain ⟨M2, hM2e⟩ : ∃ M2, M2 = ins M1 bx := ⟨_, rfl⟩
        have hxM : M2 bx := by rw [hM2e]; exact .inl rfl
        have hMa : M2 ba := by rw [hM2e]; exact .inr hM1a
        have hMb : M2 bb := by rw [hM2e]; exact .inr hM1b
        have hxa : bx ≠ ba := by have := lt_of_get hA1; omega
        have hxb : bx ≠ bb := by have := lt_of_get hB1; omega
        rw [← hM2e] at s2
        refine Rg.storeaggc (M := M2) I47 rfl rfl (by intro x hx; simp at hx; rcases hx with rfl | rfl | rfl <;> rfl) rfl rfl hX0 hxM (fun w3 hX3 s3 => ?_)
        change w3.heap[bx]? = some (.cells #[.int .i64 2147483648, .int .i64 0, .int .i64 0] 47 (0, 0)) at hX3
        have S3 := s2.transNew s3 (fun j hj => by subst hj; exact z2)
        have hA3 := S3.same0 hA1
        have hB3 := S3.same0 hB1
        have hva3 := hva1.le S3.le
        have hvb3 := hvb1.le S3.le
        have hM3 := S3.lt hM1
        refine Rg.nil ?_
        refine T.seq ?_
        refine T.seq ?_
        refine T.region ?_ -- region 2
        refine Rg.loadc Tryd.underlying22 rfl rfl rfl (by assumption) rfl ?_
        refine Rg.loadc Tryd.underlying22 rfl rfl rfl (by assumption) rfl ?_
        refine Rg.sln (A := (RT.fo).sl) (hn := by decide) (M := M2) (xs := [a', b']) Tryd.underlying54 I22 rfl (by decide) rfl ⟨_, _, _, rfl, rfl, rfl, hva3, _, _, _, rfl, rfl, rfl, hvb3, rfl⟩ rfl hM3 (.inr ⟨rfl, rfl⟩) (by decide) (fun u20 w4 hu20 s4 => ?_)
        refine Rg.lensl Tryd.underlying54 rfl hu20 rfl ?_
        refine Rg.move rfl rfl ?_
        refine Rg.nil ?_
        refine T.block ?_
        refine T.loop (σ := Nat) (fun s => [(0, .func (.yield yl) #[] #[]), (1, .pointer (some ⟨ba, 0, none⟩)), (2, .pointer (some ⟨bb, 0, none⟩)), (4, .pointer (some ⟨bx, 0, none⟩)), (20, u20), (21, .int .i64 2), (22, .int .i64 s)]) (fun s w => s ≤ 2 ∧ Step M1 w1 M2 w none' ∧ w.heap[bx]? = some (.cells #[.int .i64 (mnK a' b' s), .int .i64 0, .int .i64 0] 47 (0, 0)) ∧ (((RT.fo).sl).sl).V M2 w [a', b'] u20) (fun s => 2 - s) 0 (.cons rfl (.cons rfl (.cons rfl (.cons rfl (.cons rfl (.cons rfl (.cons rfl .nil))))))) ?_ ?_ -- loop 1
        · exact ⟨Nat.zero_le _, S3.trans0 s4, s4.same0 hX3, hu20⟩
        · rintro k w5 ⟨hk2, S5, hX5, hu5⟩
          refine T.seq ?_
          refine T.region ?_ -- region 3
          refine Rg.ilt rfl rfl rfl ?_
          refine Rg.nil ?_
          refine T.seq ?_
          refine T.ifp rfl (fun c3 => ?_) (fun c3 => ?_)
          · -- c3 True
            refine T.skip ?_
            refine T.seq ?_
            refine T.block ?_
            refine T.seq ?_
            refine T.region ?_ -- region 4
            obtain ⟨lk, hlk⟩ : ∃ x, [a', b'][k]? = some x := by
              have hlt2 : k < [a', b'].length := by simp; omega
              exact ⟨_, List.getElem?_eq_getElem hlt2⟩
            have hl2 : ([a', b'] : List (List Fo)).length = 2 := rfl
            refine Rg.idx (M := M2) Tryd.underlying54 I22 rfl rfl rfl (hu5) (Le.refl _ _) (by omega) (fun u4_0 a4_0 hg4_0 hu4_0 => ?_)
            obtain rfl : lk = a4_0 := Eq.symm (Option.some.inj (hg4_0.symm.trans (by rw [Int.toNat_natCast]; exact hlk)))
            refine Rg.load (M := M2) Tryd.underlying22 rfl rfl rfl rfl rfl hu4_0 (Le.refl _ _) (fun v4_1 hv4_1 => ?_)
            replace hv4_1 : ((RT.fo).sl).V M2 _ lk v4_1 := hv4_1
            refine Rg.assign rfl rfl ?_
            refine Rg.nil ?_
            refine T.seq ?_
            refine T.region ?_ -- region 5
            refine Rg.move rfl rfl ?_
            refine Rg.lensl Tryd.underlying22 rfl hv4_1 rfl ?_
            refine Rg.igt rfl rfl rfl ?_
            refine Rg.nil ?_
            refine T.ifp rfl (fun c5 => ?_) (fun c5 => ?_)
            · -- c5 True
              obtain ⟨⟨d, s⟩, tl, rfl⟩ : ∃ p tl, lk = p :: tl := by
                cases lk with
                | nil => simp at c5
                | cons p tl => exact ⟨p, tl, rfl⟩
              apply T.drawT (M := M2) mixed [] [Asr.eq _, Asr.eq (.int .i64 (mnK a' b' k)), Asr.eq _, Asr.ptr (RT.fo) (d, s), Asr.ptr (RT.int .i64) d, Asr.eq (.int .i64 d), Asr.eq _] 7 -- region 6
              · rfl
              · rfl
              · rfl
              · rfl
              · rfl
              · exact fun p hp => by cases hp
              · exact UOk.none
              · -- its operations
                refine OblsS.cons ?_ ?_
                · intro wD E sD -- 0
                  refine Rg.fieldc Tryd.underlying47 rfl rfl I3 (by decide) rfl rfl ?_
                  exact Rg.nil ⟨rfl, rfl, _, rfl, rfl, Step.refl _ _⟩
                refine OblsS.cons ?_ ?_
                · intro wD E sD -- 1
                  intro x_ hx_; have hx_ : x_ = _ := hx_; subst x_
                  refine Rg.loadc Tryd.underlying3 rfl rfl rfl (Step.same0 sD (by assumption)) rfl ?_
                  exact Rg.nil ⟨rfl, rfl, _, rfl, rfl, Step.refl _ _⟩
                refine OblsS.cons ?_ ?_
                · intro wD E sD -- 2
                  refine Rg.move rfl rfl ?_
                  exact Rg.nil ⟨rfl, rfl, _, rfl, rfl, Step.refl _ _⟩
                refine OblsS.cons ?_ ?_
                · intro wD E sD -- 3
                  intro x_ hx_; have hx_ : x_ = _ := hx_; subst x_
                  refine Rg.idx (M := M2) Tryd.underlying22 I26 rfl rfl rfl (hv4_1.le sD.le) (Le.refl _ _) (by omega) (fun ui ai hgi hui => ?_)
                  obtain rfl : (d, s) = ai := Eq.symm (Option.some.inj (hgi.symm.trans rfl))
                  exact Rg.nil ⟨rfl, rfl, _, rfl, hui, Step.refl _ _⟩
                refine OblsS.cons ?_ ?_
                · intro wD E sD -- 4
                  intro v3 hv3
                  refine Rg.fieldAddr (M := M2) (A := RT.fo) (B := RT.int .i64) Tryd.underlying26 rfl rfl I3 (by decide) (fo0) rfl rfl (by decide) (show PtrTo (RT.fo) M2 wD v3 (d, s) from hv3) (Le.refl _ _) (fun uf huf => ?_)
                  exact Rg.nil ⟨rfl, rfl, _, rfl, huf, Step.refl _ _⟩
                refine OblsS.cons ?_ ?_
                · intro wD E sD -- 5
                  intro v4 hv4
                  refine Rg.loadi64 (M := M2) Tryd.underlying3 rfl rfl (show PtrTo (RT.int .i64) M2 wD v4 d from hv4) (Le.refl _ _) (fun hin => ?_)
                  exact Rg.nil ⟨rfl, rfl, _, rfl, rfl, Step.refl _ _⟩
                refine OblsS.cons ?_ ?_
                · intro wD E sD -- 6
                  intro x_ hx_; have hx_ : x_ = _ := hx_; subst x_
                  intro x_ hx_; have hx_ : x_ = _ := hx_; subst x_
                  refine Rg.min2 rfl rfl rfl ?_
                  exact Rg.nil ⟨rfl, rfl, _, rfl, rfl, Step.refl _ _⟩
                exact OblsS.nil
              · -- behind it
                intro wD6 sD6
                intro x_ hx_; have hx_ : x_ = _ := hx_; subst x_
                intro x_ hx_; have hx_ : x_ = _ := hx_; subst x_
                intro x_ hx_; have hx_ : x_ = _ := hx_; subst x_
                intro v6_3 hv6_3
                intro v6_4 hv6_4
                intro x_ hx_; have hx_ : x_ = _ := hx_; subst x_
                intro x_ hx_; have hx_ : x_ = _ := hx_; subst x_
                refine Rg.fieldc Tryd.underlying47 rfl rfl I3 (by decide) rfl rfl ?_
                refine Rg.storec (M := M2) I3 rfl rfl (sD6.same0 hX5) rfl rfl hxM (fun w7 hX7 s7 => ?_)
                change w7.heap[bx]? = some (.cells #[.int .i64 (min (mnK a' b' k) d), .int .i64 0, .int .i64 0] 47 (0, 0)) at hX7
                refine Rg.nil ?_
                refine T.region ?_ -- region 7
                refine Rg.iadd rfl rfl rfl (by omega) ?_
                refine Rg.move rfl rfl ?_
                refine Rg.nil ?_
                refine ⟨rfl, k + 1, (.cons rfl (.cons rfl (.cons rfl (.cons rfl (.cons rfl (.cons rfl (.cons rfl .nil))))))), ?_, ?_⟩
                · first
                  | exact ⟨by omega, (S5.trans0 sD6).transNew s7 (fun j hj => by subst hj; exact z2), by rw [mnK_succ hlk]; exact hX7, (hu5.le sD6.le).le s7.le⟩
                  | exact ⟨by omega, S5, by rw [mnK_succ hlk, hnil]; exact hX5, hu5⟩
                · show 2 - (k + 1) < 2 - k; omega
            · -- c5 False
              have hnil : lk = [] := by
                cases lk with
                | nil => rfl
                | cons p tl => simp at c5
              refine T.skip ?_
              refine T.region ?_ -- region 7
              refine Rg.iadd rfl rfl rfl (by omega) ?_
              refine Rg.move rfl rfl ?_
              refine Rg.nil ?_
              refine ⟨rfl, k + 1, (.cons rfl (.cons rfl (.cons rfl (.cons rfl (.cons rfl (.cons rfl (.cons rfl .nil))))))), ?_, ?_⟩
              · first
                | exact ⟨by omega, (S5.trans0 sD6).transNew s7 (fun j hj => by subst hj; exact z2), by rw [mnK_succ hlk]; exact hX7, (hu5.le sD6.le).le s7.le⟩
                | exact ⟨by omega, S5, by rw [mnK_succ hlk, hnil]; exact hX5, hu5⟩
              · show 2 - (k + 1) < 2 - k; omega
          · -- c3 False
            refine T.exit ?_
            refine T.seq ?_
            refine T.seq ?_
            refine T.region ?_ -- region 8
            obtain rfl : k = 2 := by omega
            replace hX5 : w5.heap[bx]? = some (.cells #[.int .i64 (mnX a' b'), .int .i64 0, .int .i64 0] 47 (0, 0)) := hX5
            have hM5 := S5.lt hM1
            refine Rg.sln (A := RT.adr) (hn := by decide) (M := M2) (xs := [ba, bb]) Tryd.underlying56 I55 rfl (by decide) rfl ⟨_, _, _, rfl, rfl, rfl, V_adr.2 rfl, _, _, _, rfl, rfl, rfl, V_adr.2 rfl, rfl⟩ rfl hM5 (.inr ⟨rfl, rfl⟩) (by decide) (fun u38 w8 hu38 s8 => ?_)
            refine Rg.lensl Tryd.underlying56 rfl hu38 rfl ?_
            refine Rg.move rfl rfl ?_
            refine Rg.nil ?_
            refine T.block ?_
            refine T.loop (σ := Nat) (fun s => [(0, .func (.yield yl) #[] #[]), (1, .pointer (some ⟨ba, 0, none⟩)), (2, .pointer (some ⟨bb, 0, none⟩)), (4, .pointer (some ⟨bx, 0, none⟩)), (38, u38), (39, .int .i64 2), (40, .int .i64 s)]) (fun s w => s ≤ 2 ∧ ((RT.adr).sl).V M2 w [ba, bb] u38 ∧ Step M1 w1 M2 w (fun j => j = ba ∨ j = bb) ∧ w.heap[bx]? = some (.cells #[.int .i64 (mnX a' b'), .int .i64 (mny a' b' s), .int .i64 (scr a' b' s)] 47 (0, 0)) ∧ ∃ v0 v1, w.heap[ba]? = some (.cells #[v0] 22 (0, 0)) ∧ ((RT.fo).sl).V M2 w (lK a' (mnX a' b') (decide (0 < s))) v0 ∧ w.heap[bb]? = some (.cells #[v1] 22 (0, 0)) ∧ ((RT.fo).sl).V M2 w (lK b' (mnX a' b') (decide (1 < s))) v1) (fun s => 2 - s) 0 (.cons rfl (.cons rfl (.cons rfl (.cons rfl (.cons rfl (.cons rfl (.cons rfl .nil))))))) ?_ ?_ -- loop 2
            · exact ⟨Nat.zero_le _, hu38, (S5.trans0 s8).widen (fun _ h => h.elim) (fun j hj => by rcases hj with rfl | rfl; exact hM1a; exact hM1b), s8.same0 hX5, va1, vb1, s8.same0 (S5.same0 hA1), (hva1.le S5.le).le s8.le, s8.same0 (S5.same0 hB1), (hvb1.le S5.le).le s8.le⟩
            · rintro k w6 ⟨hk2, hu6, S6, hX6, v0, v1, hA6, hv0, hB6, hv1⟩
              have hmy := mny_rng a' b' k
              refine T.seq ?_
              refine T.region ?_ -- region 9
              refine Rg.ilt rfl rfl rfl ?_
              refine Rg.nil ?_
              refine T.seq ?_
              refine T.ifp rfl (fun c9 => ?_) (fun c9 => ?_)
              · -- c9 True
                refine T.skip ?_
                refine T.seq ?_
                refine T.block ?_
                refine T.seq ?_
                refine T.region ?_ -- region 10
                obtain ⟨pk, lk, vk, hpk, hlk, hkc, hkv, hkM, hkN, hkx, hclose⟩ := side_pick (show k < 2 by omega) hne hxa hxb hMa hMb hA6 hv0 hB6 hv1
                have hl3 : ([ba, bb] : List Nat).length = 2 := rfl
                refine Rg.idx (M := M2) Tryd.underlying56 I55 rfl rfl rfl (hu6) (Le.refl _ _) (by omega) (fun u10_0 a10_0 hg10_0 hu10_0 => ?_)
                obtain rfl : pk = a10_0 := Eq.symm (Option.some.inj (hg10_0.symm.trans (by rw [Int.toNat_natCast]; exact hpk)))
                refine Rg.load (M := M2) Tryd.underlying55 rfl rfl rfl rfl rfl hu10_0 (Le.refl _ _) (fun v10 hv10 => ?_)
                obtain rfl := V_adr.1 hv10
                refine Rg.assign rfl rfl ?_
                refine Rg.nil ?_
                refine T.seq ?_
                by_cases g11_5 : ((lk.length : Nat) : Int) > 0
                · -- g11_5 True
                  obtain ⟨⟨d, s⟩, tl, rfl⟩ : ∃ p tl, lk = p :: tl := by
                    cases lk with
                    | nil => simp at g11_5
                    | cons p tl => exact ⟨p, tl, rfl⟩
                  apply T.draw (M := M2) mixed [Asr.eq _, Asr.eq _, Asr.eq vk, Asr.eq _, Asr.eq _, Asr.eq (.bool true), Asr.eq _, Asr.eq _, Asr.eq vk, Asr.ptr (RT.fo) (d, s), Asr.ptr (RT.int .i64) d, Asr.eq (.int .i64 d), Asr.eq _, Asr.eq (.int .i64 (mnX a' b')), Asr.eq _, Asr.eq _] -- region 11
                  · rfl
                  · -- its operations
                    refine Obls.cons ?_ ?_
                    · intro wD E sD -- 0
                      refine Rg.move rfl rfl ?_
                      exact Rg.nil ⟨rfl, rfl, _, rfl, rfl, Step.refl _ _⟩
                    refine Obls.cons ?_ ?_
                    · intro wD E sD -- 1
                      intro x_ hx_; have hx_ : x_ = _ := hx_; subst x_
                      refine Rg.nilCheck rfl ⟨_, rfl⟩ rfl ?_
                      exact Rg.nil ⟨rfl, rfl, _, rfl, rfl, Step.refl _ _⟩
                    refine Obls.cons ?_ ?_
                    · intro wD E sD -- 2
                      intro x_ hx_; have hx_ : x_ = _ := hx_; subst x_
                      refine Rg.loadc Tryd.underlying22 rfl rfl rfl (Step.same0 sD (by assumption)) rfl ?_
                      exact Rg.nil ⟨rfl, rfl, _, rfl, rfl, Step.refl _ _⟩
                    refine Obls.cons ?_ ?_
                    · intro wD E sD -- 3
                      intro x_ hx_; have hx_ : x_ = _ := hx_; subst x_
                      refine Rg.lensl Tryd.underlying22 rfl (hkv.le sD.le) rfl ?_
                      exact Rg.nil ⟨rfl, rfl, _, rfl, rfl, Step.refl _ _⟩
                    refine Obls.cons ?_ ?_
                    · intro wD E sD -- 4
                      intro x_ hx_; have hx_ : x_ = _ := hx_; subst x_
                      refine Rg.igt rfl rfl rfl ?_
                      exact Rg.nil ⟨rfl, rfl, _, rfl, rfl, Step.refl _ _⟩
                    refine Obls.cons ?_ ?_
                    · intro wD E sD -- 5
                      intro x_ hx_; have hx_ : x_ = _ := hx_; subst x_
                      refine Rg.move rfl rfl ?_
                      refine Rg.nil ⟨rfl, rfl, _, rfl, ?_, Step.refl _ _⟩
                      exact congrArg Value.bool (decide_eq_true g11_5)
                    refine Obls.cons ?_ ?_
                    · intro wD E sD -- 6
                      intro x_ hx_; have hx_ : x_ = _ := hx_; subst x_
                      refine Rg.gyes rfl rfl ?_
                      refine Rg.move rfl rfl ?_
                      exact Rg.nil ⟨rfl, rfl, _, rfl, rfl, Step.refl _ _⟩
                    refine Obls.cons ?_ ?_
                    · intro wD E sD -- 7
                      intro x_ hx_; have hx_ : x_ = _ := hx_; subst x_
                      intro x_ hx_; have hx_ : x_ = _ := hx_; subst x_
                      refine Rg.gyes rfl rfl ?_
                      refine Rg.nilCheck rfl ⟨_, rfl⟩ rfl ?_
                      exact Rg.nil ⟨rfl, rfl, _, rfl, rfl, Step.refl _ _⟩
                    refine Obls.cons ?_ ?_
                    · intro wD E sD -- 8
                      intro x_ hx_; have hx_ : x_ = _ := hx_; subst x_
                      intro x_ hx_; have hx_ : x_ = _ := hx_; subst x_
                      refine Rg.gyes rfl rfl ?_
                      refine Rg.loadc Tryd.underlying22 rfl rfl rfl (Step.same0 sD (by assumption)) rfl ?_
                      exact Rg.nil ⟨rfl, rfl, _, rfl, rfl, Step.refl _ _⟩
                    refine Obls.cons ?_ ?_
                    · intro wD E sD -- 9
                      intro x_ hx_; have hx_ : x_ = _ := hx_; subst x_
                      intro x_ hx_; have hx_ : x_ = _ := hx_; subst x_
                      refine Rg.gyes rfl rfl ?_
                      refine Rg.idx (M := M2) Tryd.underlying22 I26 rfl rfl rfl (hkv.le sD.le) (Le.refl _ _) (by omega) (fun ui ai hgi hui => ?_)
                      obtain rfl : (d, s) = ai := Eq.symm (Option.some.inj (hgi.symm.trans rfl))
                      exact Rg.nil ⟨rfl, rfl, _, rfl, hui, Step.refl _ _⟩
                    refine Obls.cons ?_ ?_
                    · intro wD E sD -- 10
                      intro v9 hv9
                      intro x_ hx_; have hx_ : x_ = _ := hx_; subst x_
                      refine Rg.gyes rfl rfl ?_
                      refine Rg.fieldAddr (M := M2) (A := RT.fo) (B := RT.int .i64) Tryd.underlying26 rfl rfl I3 (by decide) (fo0) rfl rfl (by decide) (show PtrTo (RT.fo) M2 wD v9 (d, s) from hv9) (Le.refl _ _) (fun uf huf => ?_)
                      exact Rg.nil ⟨rfl, rfl, _, rfl, huf, Step.refl _ _⟩
                    refine Obls.cons ?_ ?_
                    · intro wD E sD -- 11
                      intro v10 hv10
                      intro x_ hx_; have hx_ : x_ = _ := hx_; subst x_
                      refine Rg.gyes rfl rfl ?_
                      refine Rg.loadi64 (M := M2) Tryd.underlying3 rfl rfl (show PtrTo (RT.int .i64) M2 wD v10 d from hv10) (Le.refl _ _) (fun hin => ?_)
                      exact Rg.nil ⟨rfl, rfl, _, rfl, rfl, Step.refl _ _⟩
                    refine Obls.cons ?_ ?_
                    · intro wD E sD -- 12
                      intro x_ hx_; have hx_ : x_ = _ := hx_; subst x_
                      refine Rg.gyes rfl rfl ?_
                      refine Rg.fieldc Tryd.underlying47 rfl rfl I3 (by decide) rfl rfl ?_
                      exact Rg.nil ⟨rfl, rfl, _, rfl, rfl, Step.refl _ _⟩
                    refine Obls.cons ?_ ?_
                    · intro wD E sD -- 13
                      intro x_ hx_; have hx_ : x_ = _ := hx_; subst x_
                      intro x_ hx_; have hx_ : x_ = _ := hx_; subst x_
                      refine Rg.gyes rfl rfl ?_
                      refine Rg.loadc Tryd.underlying3 rfl rfl rfl (Step.same0 sD (by assumption)) rfl ?_
                      exact Rg.nil ⟨rfl, rfl, _, rfl, rfl, Step.refl _ _⟩
                    refine Obls.cons ?_ ?_
                    · intro wD E sD -- 14
                      intro x_ hx_; have hx_ : x_ = _ := hx_; subst x_
                      intro x_ hx_; have hx_ : x_ = _ := hx_; subst x_
                      intro x_ hx_; have hx_ : x_ = _ := hx_; subst x_
                      refine Rg.gyes rfl rfl ?_
                      refine Rg.ieq rfl rfl rfl ?_
                      exact Rg.nil ⟨rfl, rfl, _, rfl, rfl, Step.refl _ _⟩
                    refine Obls.cons ?_ ?_
                    · intro wD E sD -- 15
                      intro x_ hx_; have hx_ : x_ = _ := hx_; subst x_
                      intro x_ hx_; have hx_ : x_ = _ := hx_; subst x_
                      refine Rg.pickt rfl rfl rfl ?_
                      exact Rg.nil ⟨rfl, rfl, _, rfl, rfl, Step.refl _ _⟩
                    exact Obls.nil
                  · -- behind it
                    intro wD11 sD11
                    intro x_ hx_; have hx_ : x_ = _ := hx_; subst x_
                    intro x_ hx_; have hx_ : x_ = _ := hx_; subst x_
                    intro x_ hx_; have hx_ : x_ = _ := hx_; subst x_
                    intro x_ hx_; have hx_ : x_ = _ := hx_; subst x_
                    intro x_ hx_; have hx_ : x_ = _ := hx_; subst x_
                    intro x_ hx_; have hx_ : x_ = _ := hx_; subst x_
                    intro x_ hx_; have hx_ : x_ = _ := hx_; subst x_
                    intro x_ hx_; have hx_ : x_ = _ := hx_; subst x_
                    intro x_ hx_; have hx_ : x_ = _ := hx_; subst x_
                    intro v11_9 hv11_9
                    intro v11_10 hv11_10
                    intro x_ hx_; have hx_ : x_ = _ := hx_; subst x_
                    intro x_ hx_; have hx_ : x_ = _ := hx_; subst x_
                    intro x_ hx_; have hx_ : x_ = _ := hx_; subst x_
                    intro x_ hx_; have hx_ : x_ = _ := hx_; subst x_
                    intro x_ hx_; have hx_ : x_ = _ := hx_; subst x_
                    have hX11 := sD11.same0 hX6
                    have hkc11 := sD11.same0 hkc
                    refine T.ifp rfl (fun c11 => ?_) (fun c11 => ?_)
                    · -- c11 True
                      refine T.seq ?_
                      refine T.region ?_ -- region 12
                      refine Rg.fieldc Tryd.underlying47 rfl rfl I3 (by decide) rfl rfl ?_
                      refine Rg.loadc Tryd.underlying3 rfl rfl rfl hX11 rfl ?_
                      refine Rg.eqv (v' := .int .i64 (mny a' b' k)) rfl ?_
                      refine Rg.iadd rfl rfl rfl (by omega) ?_
                      refine Rg.fieldc Tryd.underlying47 rfl rfl I3 (by decide) rfl rfl ?_
                      refine Rg.storec (M := M2) I3 rfl rfl hX11 rfl rfl hxM (fun w12 hX12 s12 => ?_)
                      change w12.heap[bx]? = some (.cells #[.int .i64 (mnX a' b'), .int .i64 (mny a' b' k + 1), .int .i64 (scr a' b' k)] 47 (0, 0)) at hX12
                      have hkc12 := s12.keep hkc11 hkx
                      have hkv12 := (hkv.le sD11.le).le s12.le
                      refine Rg.nil ?_
                      refine T.seq ?_
                      apply T.drawT (M := M2) mixed [] [Asr.eq _, Asr.eq (.int .i64 (scr a' b' k)), Asr.eq _, Asr.eq _, Asr.eq vk, Asr.ptr (RT.fo) (d, s), Asr.ptr (RT.int .i64) s, Asr.eq (.int .i64 s), Asr.eq _] 9 -- region 13
                      · rfl
                      · rfl
                      · rfl
                      · rfl
                      · rfl
                      · exact fun p hp => by cases hp
                      · exact UOk.none
                      · -- its operations
                        refine OblsS.cons ?_ ?_
                        · intro wD E sD -- 0
                          refine Rg.fieldc Tryd.underlying47 rfl rfl I3 (by decide) rfl rfl ?_
                          exact Rg.nil ⟨rfl, rfl, _, rfl, rfl, Step.refl _ _⟩
                        refine OblsS.cons ?_ ?_
                        · intro wD E sD -- 1
                          intro x_ hx_; have hx_ : x_ = _ := hx_; subst x_
                          refine Rg.loadc Tryd.underlying3 rfl rfl rfl (Step.same0 sD (by assumption)) rfl ?_
                          exact Rg.nil ⟨rfl, rfl, _, rfl, rfl, Step.refl _ _⟩
                        refine OblsS.cons ?_ ?_
                        · intro wD E sD -- 2
                          refine Rg.move rfl rfl ?_
                          exact Rg.nil ⟨rfl, rfl, _, rfl, rfl, Step.refl _ _⟩
                        refine OblsS.cons ?_ ?_
                        · intro wD E sD -- 3
                          intro x_ hx_; have hx_ : x_ = _ := hx_; subst x_
                          refine Rg.nilCheck rfl ⟨_, rfl⟩ rfl ?_
                          exact Rg.nil ⟨rfl, rfl, _, rfl, rfl, Step.refl _ _⟩
                        refine OblsS.cons ?_ ?_
                        · intro wD E sD -- 4
                          intro x_ hx_; have hx_ : x_ = _ := hx_; subst x_
                          refine Rg.loadc Tryd.underlying22 rfl rfl rfl (Step.same0 sD (by assumption)) rfl ?_
                          exact Rg.nil ⟨rfl, rfl, _, rfl, rfl, Step.refl _ _⟩
                        refine OblsS.cons ?_ ?_
                        · intro wD E sD -- 5
                          intro x_ hx_; have hx_ : x_ = _ := hx_; subst x_
                          refine Rg.idx (M := M2) Tryd.underlying22 I26 rfl rfl rfl (hkv12.le sD.le) (Le.refl _ _) (by omega) (fun ui ai hgi hui => ?_)
                          obtain rfl : (d, s) = ai := Eq.symm (Option.some.inj (hgi.symm.trans rfl))
                          exact Rg.nil ⟨rfl, rfl, _, rfl, hui, Step.refl _ _⟩
                        refine OblsS.cons ?_ ?_
                        · intro wD E sD -- 6
                          intro v5 hv5
                          refine Rg.fieldAddr (M := M2) (A := RT.fo) (B := RT.int .i64) Tryd.underlying26 rfl rfl I3 (by decide) (fo1) rfl rfl (by decide) (show PtrTo (RT.fo) M2 wD v5 (d, s) from hv5) (Le.refl _ _) (fun uf huf => ?_)
                          exact Rg.nil ⟨rfl, rfl, _, rfl, huf, Step.refl _ _⟩
                        refine OblsS.cons ?_ ?_
                        · intro wD E sD -- 7
                          intro v6 hv6
                          refine Rg.loadi64 (M := M2) Tryd.underlying3 rfl rfl (show PtrTo (RT.int .i64) M2 wD v6 s from hv6) (Le.refl _ _) (fun hin => ?_)
                          exact Rg.nil ⟨rfl, rfl, _, rfl, rfl, Step.refl _ _⟩
                        refine OblsS.cons ?_ ?_
                        · intro wD E sD -- 8
                          intro x_ hx_; have hx_ : x_ = _ := hx_; subst x_
                          intro x_ hx_; have hx_ : x_ = _ := hx_; subst x_
                          refine Rg.addw rfl rfl rfl ?_
                          exact Rg.nil ⟨rfl, rfl, _, rfl, rfl, Step.refl _ _⟩
                        exact OblsS.nil
                      · -- behind it
                        intro wD13 sD13
                        intro x_ hx_; have hx_ : x_ = _ := hx_; subst x_
                        intro x_ hx_; have hx_ : x_ = _ := hx_; subst x_
                        intro x_ hx_; have hx_ : x_ = _ := hx_; subst x_
                        intro x_ hx_; have hx_ : x_ = _ := hx_; subst x_
                        intro x_ hx_; have hx_ : x_ = _ := hx_; subst x_
                        intro v13_5 hv13_5
                        intro v13_6 hv13_6
                        intro x_ hx_; have hx_ : x_ = _ := hx_; subst x_
                        intro x_ hx_; have hx_ : x_ = _ := hx_; subst x_
                        refine Rg.fieldc Tryd.underlying47 rfl rfl I3 (by decide) rfl rfl ?_
                        have hX13 := sD13.same0 hX12
                        refine Rg.storec (M := M2) I3 rfl rfl hX13 rfl rfl hxM (fun w14 hX14 s14 => ?_)
                        change w14.heap[bx]? = some (.cells #[.int .i64 (mnX a' b'), .int .i64 (mny a' b' k + 1), .int .i64 (IntKind.i64.wrap (scr a' b' k + s))] 47 (0, 0)) at hX14
                        have hkc14 := s14.keep (sD13.same0 hkc12) hkx
                        have hkv14 := (hkv12.le sD13.le).le s14.le
                        refine Rg.nil ?_
                        refine T.region ?_ -- region 14
                        refine Rg.move rfl rfl ?_
                        refine Rg.move rfl rfl ?_
                        refine Rg.nilCheck rfl ⟨_, rfl⟩ rfl ?_
                        refine Rg.loadc Tryd.underlying22 rfl rfl rfl hkc14 rfl ?_
                        refine Rg.eqv (v' := vk) rfl ?_
                        refine Rg.slice_l (A := RT.fo) (hn := by decide) Tryd.underlying22 I26 rfl rfl rfl hkv14 (by simp only [List.length_cons]; omega) (fun u14 hu14 => ?_)
                        replace hu14 : ((RT.fo).sl).V M2 w14 tl u14 := hu14
                        refine Rg.nilCheck rfl ⟨_, rfl⟩ rfl ?_
                        refine Rg.storec (M := M2) I22 rfl rfl hkc14 rfl (V_one hu14 rfl rfl) hkM (fun w15 hkc15 s15 => ?_)
                        change w15.heap[pk]? = some (.cells #[u14] 22 (0, 0)) at hkc15
                        have hX15 := s15.keep hX14 (fun h => hkx h.symm)
                        have hhit : hit ((d, s) :: tl) (mnX a' b') = true := hit_of c11
                        have hrs : restF ((d, s) :: tl) (mnX a' b') = tl := by unfold restF; rw [if_pos hhit]; rfl
                        have SK := ((((S6.trans0 sD11).transNew s12 (fun j hj => by subst hj; omega)).trans0 sD13).transNew s14 (fun j hj => by subst hj; omega)).trans s15 (fun j _ hj => by subst hj; exact hkN)
                        have hK6 := Le.trans (Le.trans (Le.trans (Le.trans sD11.le s12.le) sD13.le) s14.le) s15.le
                        refine Rg.nil ?_
                        refine T.region ?_ -- region 15
                        refine Rg.iadd rfl rfl rfl (by omega) ?_
                        refine Rg.move rfl rfl ?_
                        refine Rg.nil ?_
                        refine ⟨rfl, k + 1, (.cons rfl (.cons rfl (.cons rfl (.cons rfl (.cons rfl (.cons rfl (.cons rfl .nil))))))), ?_, ?_⟩
                        · first
                          | exact ⟨by omega, hu6.le hK6, SK, by rw [mny_succ hlk, scr_succ hlk]; unfold addM addS; rw [if_pos hhit, if_pos hhit]; exact hX15, hclose w15 u14 (fun q o h1 h2 h3 => s15.keep (s14.keep (sD13.same0 (s12.keep (sD11.same0 h3) h2)) h2) h1) (fun l v h => h.le hK6) hkc15 (by rw [hrs]; exact hu14.le s15.le)⟩
                          | exact ⟨by omega, hu6.le sD11.le, S6.trans0 sD11, by rw [mny_succ hlk, scr_succ hlk]; unfold addM addS; rw [if_neg (by rw [hnh]; decide), if_neg (by rw [hnh]; decide)]; exact sD11.same0 hX6, hclose _ vk (fun q o h1 h2 h3 => sD11.same0 h3) (fun l v h => h.le sD11.le) (sD11.same0 hkc) (by unfold restF; rw [if_neg (by rw [hnh]; decide)]; exact hkv.le sD11.le)⟩
                        · show 2 - (k + 1) < 2 - k; omega
                    · -- c11 False
                      have hnh : hit ((d, s) :: tl) (mnX a' b') = false := decide_eq_false c11
                      refine T.skip ?_
                      refine T.region ?_ -- region 15
                      refine Rg.iadd rfl rfl rfl (by omega) ?_
                      refine Rg.move rfl rfl ?_
                      refine Rg.nil ?_
                      refine ⟨rfl, k + 1, (.cons rfl (.cons rfl (.cons rfl (.cons rfl (.cons rfl (.cons rfl (.cons rfl .nil))))))), ?_, ?_⟩
                      · first
                        | exact ⟨by omega, hu6.le hK6, SK, by rw [mny_succ hlk, scr_succ hlk]; unfold addM addS; rw [if_pos hhit, if_pos hhit]; exact hX15, hclose w15 u14 (fun q o h1 h2 h3 => s15.keep (s14.keep (sD13.same0 (s12.keep (sD11.same0 h3) h2)) h2) h1) (fun l v h => h.le hK6) hkc15 (by rw [hrs]; exact hu14.le s15.le)⟩
                        | exact ⟨by omega, hu6.le sD11.le, S6.trans0 sD11, by rw [mny_succ hlk, scr_succ hlk]; unfold addM addS; rw [if_neg (by rw [hnh]; decide), if_neg (by rw [hnh]; decide)]; exact sD11.same0 hX6, hclose _ vk (fun q o h1 h2 h3 => sD11.same0 h3) (fun l v h => h.le sD11.le) (sD11.same0 hkc) (by unfold restF; rw [if_neg (by rw [hnh]; decide)]; exact hkv.le sD11.le)⟩
                      · show 2 - (k + 1) < 2 - k; omega
                · -- g11_5 False
                  have hnh : hit lk (mnX a' b') = false := by
                    cases lk with
                    | nil => rfl
                    | cons p tl => simp at g11_5
                  apply T.draw (M := M2) mixed [Asr.eq _, Asr.eq _, Asr.eq vk, Asr.eq _, Asr.eq _, Asr.eq (.bool false), Asr.eq undef, Asr.eq undef, Asr.eq undef, Asr.eq undef, Asr.eq undef, Asr.eq undef, Asr.eq undef, Asr.eq undef, Asr.eq undef, Asr.eq _] -- region 11
                  · rfl
                  · -- its operations
                    refine Obls.cons ?_ ?_
                    · intro wD E sD -- 0
                      refine Rg.move rfl rfl ?_
                      exact Rg.nil ⟨rfl, rfl, _, rfl, rfl, Step.refl _ _⟩
                    refine Obls.cons ?_ ?_
                    · intro wD E sD -- 1
                      intro x_ hx_; have hx_ : x_ = _ := hx_; subst x_
                      refine Rg.nilCheck rfl ⟨_, rfl⟩ rfl ?_
                      exact Rg.nil ⟨rfl, rfl, _, rfl, rfl, Step.refl _ _⟩
                    refine Obls.cons ?_ ?_
                    · intro wD E sD -- 2
                      intro x_ hx_; have hx_ : x_ = _ := hx_; subst x_
                      refine Rg.loadc Tryd.underlying22 rfl rfl rfl (Step.same0 sD (by assumption)) rfl ?_
                      exact Rg.nil ⟨rfl, rfl, _, rfl, rfl, Step.refl _ _⟩
                    refine Obls.cons ?_ ?_
                    · intro wD E sD -- 3
                      intro x_ hx_; have hx_ : x_ = _ := hx_; subst x_
                      refine Rg.lensl Tryd.underlying22 rfl (hkv.le sD.le) rfl ?_
                      exact Rg.nil ⟨rfl, rfl, _, rfl, rfl, Step.refl _ _⟩
                    refine Obls.cons ?_ ?_
                    · intro wD E sD -- 4
                      intro x_ hx_; have hx_ : x_ = _ := hx_; subst x_
                      refine Rg.igt rfl rfl rfl ?_
                      exact Rg.nil ⟨rfl, rfl, _, rfl, rfl, Step.refl _ _⟩
                    refine Obls.cons ?_ ?_
                    · intro wD E sD -- 5
                      intro x_ hx_; have hx_ : x_ = _ := hx_; subst x_
                      refine Rg.move rfl rfl ?_
                      refine Rg.nil ⟨rfl, rfl, _, rfl, ?_, Step.refl _ _⟩
                      exact congrArg Value.bool (decide_eq_false g11_5)
                    refine Obls.cons ?_ ?_
                    · intro wD E sD -- 6
                      intro x_ hx_; have hx_ : x_ = _ := hx_; subst x_
                      exact Rg.gno rfl rfl rfl rfl (Rg.nil ⟨rfl, rfl, _, rfl, rfl, Step.refl _ _⟩)
                    refine Obls.cons ?_ ?_
                    · intro wD E sD -- 7
                      intro x_ hx_; have hx_ : x_ = _ := hx_; subst x_
                      intro x_ hx_; have hx_ : x_ = _ := hx_; subst x_
                      exact Rg.gno rfl rfl rfl rfl (Rg.nil ⟨rfl, rfl, _, rfl, rfl, Step.refl _ _⟩)
                    refine Obls.cons ?_ ?_
                    · intro wD E sD -- 8
                      intro x_ hx_; have hx_ : x_ = _ := hx_; subst x_
                      intro x_ hx_; have hx_ : x_ = _ := hx_; subst x_
                      exact Rg.gno rfl rfl rfl rfl (Rg.nil ⟨rfl, rfl, _, rfl, rfl, Step.refl _ _⟩)
                    refine Obls.cons ?_ ?_
                    · intro wD E sD -- 9
                      intro x_ hx_; have hx_ : x_ = _ := hx_; subst x_
                      intro x_ hx_; have hx_ : x_ = _ := hx_; subst x_
                      exact Rg.gno rfl rfl rfl rfl (Rg.nil ⟨rfl, rfl, _, rfl, rfl, Step.refl _ _⟩)
                    refine Obls.cons ?_ ?_
                    · intro wD E sD -- 10
                      intro x_ hx_; have hx_ : x_ = _ := hx_; subst x_
                      intro x_ hx_; have hx_ : x_ = _ := hx_; subst x_
                      exact Rg.gno rfl rfl rfl rfl (Rg.nil ⟨rfl, rfl, _, rfl, rfl, Step.refl _ _⟩)
                    refine Obls.cons ?_ ?_
                    · intro wD E sD -- 11
                      intro x_ hx_; have hx_ : x_ = _ := hx_; subst x_
                      intro x_ hx_; have hx_ : x_ = _ := hx_; subst x_
                      exact Rg.gno rfl rfl rfl rfl (Rg.nil ⟨rfl, rfl, _, rfl, rfl, Step.refl _ _⟩)
                    refine Obls.cons ?_ ?_
                    · intro wD E sD -- 12
                      intro x_ hx_; have hx_ : x_ = _ := hx_; subst x_
                      exact Rg.gno rfl rfl rfl rfl (Rg.nil ⟨rfl, rfl, _, rfl, rfl, Step.refl _ _⟩)
                    refine Obls.cons ?_ ?_
                    · intro wD E sD -- 13
                      intro x_ hx_; have hx_ : x_ = _ := hx_; subst x_
                      intro x_ hx_; have hx_ : x_ = _ := hx_; subst x_
                      exact Rg.gno rfl rfl rfl rfl (Rg.nil ⟨rfl, rfl, _, rfl, rfl, Step.refl _ _⟩)
                    refine Obls.cons ?_ ?_
                    · intro wD E sD -- 14
                      intro x_ hx_; have hx_ : x_ = _ := hx_; subst x_
                      intro x_ hx_; have hx_ : x_ = _ := hx_; subst x_
                      intro x_ hx_; have hx_ : x_ = _ := hx_; subst x_
                      exact Rg.gno rfl rfl rfl rfl (Rg.nil ⟨rfl, rfl, _, rfl, rfl, Step.refl _ _⟩)
                    refine Obls.cons ?_ ?_
                    · intro wD E sD -- 15
                      intro x_ hx_; have hx_ : x_ = _ := hx_; subst x_
                      intro x_ hx_; have hx_ : x_ = _ := hx_; subst x_
                      refine Rg.pickf rfl rfl rfl ?_
                      exact Rg.nil ⟨rfl, rfl, _, rfl, rfl, Step.refl _ _⟩
                    exact Obls.nil
                  · -- behind it
                    intro wD11 sD11
                    intro x_ hx_; have hx_ : x_ = _ := hx_; subst x_
                    intro x_ hx_; have hx_ : x_ = _ := hx_; subst x_
                    intro x_ hx_; have hx_ : x_ = _ := hx_; subst x_
                    intro x_ hx_; have hx_ : x_ = _ := hx_; subst x_
                    intro x_ hx_; have hx_ : x_ = _ := hx_; subst x_
                    intro x_ hx_; have hx_ : x_ = _ := hx_; subst x_
                    intro x_ hx_; have hx_ : x_ = _ := hx_; subst x_
                    intro x_ hx_; have hx_ : x_ = _ := hx_; subst x_
                    intro x_ hx_; have hx_ : x_ = _ := hx_; subst x_
                    intro x_ hx_; have hx_ : x_ = _ := hx_; subst x_
                    intro x_ hx_; have hx_ : x_ = _ := hx_; subst x_
                    intro x_ hx_; have hx_ : x_ = _ := hx_; subst x_
                    intro x_ hx_; have hx_ : x_ = _ := hx_; subst x_
                    intro x_ hx_; have hx_ : x_ = _ := hx_; subst x_
                    intro x_ hx_; have hx_ : x_ = _ := hx_; subst x_
                    intro x_ hx_; have hx_ : x_ = _ := hx_; subst x_
                    have hX11 := sD11.same0 hX6
                    have hkc11 := sD11.same0 hkc
                    refine T.iff rfl ?_
                    refine T.skip ?_
                    refine T.region ?_ -- region 15
                    refine Rg.iadd rfl rfl rfl (by omega) ?_
                    refine Rg.move rfl rfl ?_
                    refine Rg.nil ?_
                    refine ⟨rfl, k + 1, (.cons rfl (.cons rfl (.cons rfl (.cons rfl (.cons rfl (.cons rfl (.cons rfl .nil))))))), ?_, ?_⟩
                    · first
                      | exact ⟨by omega, hu6.le hK6, SK, by rw [mny_succ hlk, scr_succ hlk]; unfold addM addS; rw [if_pos hhit, if_pos hhit]; exact hX15, hclose w15 u14 (fun q o h1 h2 h3 => s15.keep (s14.keep (sD13.same0 (s12.keep (sD11.same0 h3) h2)) h2) h1) (fun l v h => h.le hK6) hkc15 (by rw [hrs]; exact hu14.le s15.le)⟩
                      | exact ⟨by omega, hu6.le sD11.le, S6.trans0 sD11, by rw [mny_succ hlk, scr_succ hlk]; unfold addM addS; rw [if_neg (by rw [hnh]; decide), if_neg (by rw [hnh]; decide)]; exact sD11.same0 hX6, hclose _ vk (fun q o h1 h2 h3 => sD11.same0 h3) (fun l v h => h.le sD11.le) (sD11.same0 hkc) (by unfold restF; rw [if_neg (by rw [hnh]; decide)]; exact hkv.le sD11.le)⟩
                    · show 2 - (k + 1) < 2 - k; omega
              · -- c9 False
                refine T.exit ?_
                refine T.seq ?_
                refine T.region ?_ -- region 16
                refine Rg.move rfl rfl ?_
                obtain rfl : k = 2 := by omega
                refine Rg.loadaggc (vs := [.int .i64 (mnX a' b'), .int .i64 (mny a' b' 2), .int .i64 (scr a' b' 2)]) Tryd.underlying47 rfl I47 rfl rfl rfl hX6 ?_
                have hJ7 := hst _ _ _ _ _ _ hJ S6
                refine Rg.yield rfl (vs := [.agg #[.int .i64 (mnX a' b'), .int .i64 (mny a' b' 2), .int .i64 (scr a' b' 2)]]) rfl rfl (hy a' b' M2 _ hJ7 oa' ob' hne1) (fun r9 w9 h9 => ?_)
                obtain ⟨c, rfl, hc5, hc6⟩ := h9
                refine Rg.not rfl rfl ?_
                refine Rg.eqv (v' := .bool (decide (¬ c = true))) (by simp) ?_
                refine Rg.nil ?_
                refine T.ifp rfl (fun c16 => ?_) (fun c16 => ?_)
                · -- c16 True
                  refine T.ret ?_
                  exact Kret0 rfl (.inr (hc6 (by simpa using c16)))
                · -- c16 False
                  obtain ⟨M9, N9, hJ9, s9, hN9⟩ := hc5 (Decidable.not_not.1 c16)
                  refine T.skip ?_
                  refine ⟨rfl, (restF a' (mnX a' b'), restF b' (mnX a' b')), (.cons rfl (.cons rfl (.cons rfl .nil))), ?_, ?_⟩
                  · exact ⟨oa'.rest _, ob'.rest _, v0, v1, M9, hJ9, s9.keep hA6 (fun h => (hN9 _ h).1 rfl), s9.keep hB6 (fun h => (hN9 _ h).2 rfl), hv0.le s9.le, hv1.le s9.le⟩
                  · exact side_less oa' ob' hne1
      · -- c0 False
        refine T.exit ?_
        have ha' : a' = [] := by
          cases a' with
          | nil => rfl
          | cons p tl => simp at g0_3
        have hb' : b' = [] := by
          cases b' with
          | nil => rfl
          | cons p tl => simp at c0
        subst ha'
        subst hb'
        change Kret Tryd.prog Tryd.f27 (fun _ w' => (∃ M', J [] [] M' w') ∨ Jx w') .normal _ [] _
        exact Kret0n rfl (.inl ⟨_, hJ⟩)

end Go.K

/- The walks of Go functions, operation by operation. -/
import Derived.Test.YtgpmihcdjmjfoaaDoorKTypes
import Derived.Test.YtgpmihcdjmjfoaaDoorKNum
import Derived.Test.YtgpmihcdjmjfoaaDoorKPost
import Derived.Test.YtgpmihcdjmjfoaaDoorKPtr
import Derived.Test.YtgpmihcdjmjfoaaDoorKCell2
import Derived.Test.YtgpmihcdjmjfoaaDoorKFun
import Derived.Test.YtgpmihcdjmjfoaaDoorKMatch
import Derived.Test.YtgpmihcdjmjfoaaDoorKDraw
import Derived.Test.YtgpmihcdjmjfoaaDoorKRange
import Derived.Test.YtgpmihcdjmjfoaaDoorKSide
import Derived.Test.YtgpmihcdjmjfoaaDoorProg
import Derived.KernelRfl
namespace Go.K
open Go.Proofs
namespace TKOf
theorem I22 : TI Tryd.prog 22 (.slice none 0 0) 1 24 := by unfold TI; kernel_rfl -- []api.Found
theorem I26 : TI Tryd.prog 26 (.agg #[(.int .i64 0), (.int .i64 0)]) 2 16 := by unfold TI; kernel_rfl -- api.Found
theorem I47 : TI Tryd.prog 47 (.agg #[(.int .i64 0), (.int .i64 0), (.int .i64 0)]) 3 24 := by unfold TI; kernel_rfl -- match.two
theorem B26 : placesOf Tryd.prog 26 = [(0, 1), (1, 1)].map some := by kernel_rfl
theorem E14 : Enters Tryd.prog 14 := enters Tryd.func14 rfl (by decide) -- concordance/match.of
theorem E20 : Enters Tryd.prog 20 := enters Tryd.func20 rfl (by decide) -- concordance/match.side
theorem E27 : Enters Tryd.prog 27 := enters Tryd.func27 rfl (by decide) -- concordance/match.side$1
end TKOf
open TKOf
set_option linter.unusedVariables false
set_option linter.unusedSimpArgs false
set_option maxRecDepth 10000


structure OfSt (M : PSet) (w0 : World) (least : Int) (b5 bo ba bb D : Nat) (st : Obj) (vo : Value) (xs : List Fo) (M1 : PSet) (w : World) : Prop where
  lt : Lt M1 w
  S : Step M w0 M1 w none'
  mo : M1 bo
  ma : M1 ba
  mb : M1 bb
  md : M1 D
  mr : M1 (D + 1)
  h5 : w.heap[b5]? = some (.cells #[.int .i64 least] 3 (0, 0))
  o : w.heap[bo]? = some (.cells #[vo] 22 (0, 0))
  d : w.heap[D]? = some (.deferred (some []))
  r : w.heap[D + 1]? = some st
  ne : (b5 < D ∧ bo < D ∧ ba < D ∧ bb < D) ∧ (bo ≠ b5 ∧ bo ≠ ba ∧ bo ≠ bb ∧ b5 ≠ ba ∧ b5 ≠ bb) ∧ (w0.heap.size ≤ bo ∧ w0.heap.size ≤ ba ∧ w0.heap.size ≤ bb ∧ w0.heap.size ≤ D)
  hk : Own RT.fo 26 M1 w (D + 2) vo xs
section
variable {M M1 M2 N : PSet} {w0 w w' : World} {least : Int} {b5 bo ba bb D : Nat} {st st' : Obj} {vo : Value} {xs : List Fo}
theorem OfSt.step (h : OfSt M w0 least b5 bo ba bb D st vo xs M1 w) (s : Step M1 w M2 w' N) (hN : ∀ k, N k → k = ba ∨ k = bb) : OfSt M w0 least b5 bo ba bb D st vo xs M2 w' := by
  obtain ⟨⟨e1, e2, e3, e4⟩, ⟨e5, e6, e7, e8, e9⟩, e10, e11, e12, e13⟩ := h.ne
  have mm := fun {b : Nat} (hm : M1 b) => (s.mem b (h.lt b hm)).2 hm
  have no : ∀ b, b ≠ ba → b ≠ bb → ¬ N b := fun b h1 h2 hn => by rcases hN b hn with h | h; exact h1 h; exact h2 h
  exact ⟨s.lt h.lt, h.S.transNew s (fun b hb => by rcases hN b hb with rfl | rfl <;> assumption), mm h.mo, mm h.ma, mm h.mb, mm h.md, mm h.mr, s.keep h.h5 (no _ e8 e9), s.keep h.o (no _ e6 e7), s.keep h.d (no _ (by omega) (by omega)), s.keep h.r (no _ (by omega) (by omega)), h.ne,
    h.hk.step s (fun k hk hh => by have := (h.hk.base k hk).1; rcases hN k hh with h | h <;> omega)⟩
theorem OfSt.setR (h : OfSt M w0 least b5 bo ba bb D st vo xs M1 w) : OfSt M w0 least b5 bo ba bb D st' vo xs M1 (w.putObj (D + 1) st') ∧ Step M1 w M1 (w.putObj (D + 1) st') (fun k => k = D + 1) := by
  obtain ⟨⟨e1, e2, e3, e4⟩, ⟨e5, e6, e7, e8, e9⟩, e10, e11, e12, e13⟩ := h.ne
  have s : Step M1 w M1 (w.putObj (D + 1) st') (fun k => k = D + 1) := step_putObj h.mr
  exact ⟨⟨s.lt h.lt, h.S.transNew s (fun b hb => by omega), h.mo, h.ma, h.mb, h.md, h.mr, s.keep h.h5 (by omega), s.keep h.o (by omega), s.keep h.d (by omega), World.putObj_heap_same (lt_of_get h.r), h.ne, h.hk.step s (fun k hk' hh => by have := (h.hk.base k hk').1; omega)⟩, s⟩
theorem OfSt.grow {vo' : Value} {xs' : List Fo} (h : OfSt M w0 least b5 bo ba bb D st vo xs M1 w) (s : Step M1 w M2 w' (fun k => vo.ownBlock = some k)) (hk : Own RT.fo 26 M2 w' (D + 2) vo' xs') :
    (w'.heap[bo]? = some (.cells #[vo] 22 (0, 0)) ∧ M2 bo) ∧ ∀ {w2 : World}, Step M2 w' M2 w2 (fun k => k = bo) → w2.heap[bo]? = some (.cells #[vo'] 22 (0, 0)) → OfSt M w0 least b5 bo ba bb D st vo' xs' M2 w2 := by
  obtain ⟨⟨e1, e2, e3, e4⟩, ⟨e5, e6, e7, e8, e9⟩, e10, e11, e12, e13⟩ := h.ne
  have hn : ∀ k, vo.ownBlock = some k → D + 2 ≤ k := fun k hk => (h.hk.base k hk).1
  have mm := fun {b : Nat} (hm : M1 b) => (s.mem b (h.lt b hm)).2 hm
  refine ⟨⟨s.keep h.o (fun hh => by have := hn _ hh; omega), mm h.mo⟩, fun {w2} s2 hx => ?_⟩
  have S' := h.S.transNew s (fun k hk => by have := hn k hk; omega)
  exact ⟨s2.lt (s.lt h.lt), S'.transNew s2 (fun k hk => by subst hk; exact e10), mm h.mo, mm h.ma, mm h.mb, mm h.md, mm h.mr, s2.keep (s.keep h.h5 (fun hh => by have := hn _ hh; omega)) (fun hh => e5 hh.symm), hx, s2.keep (s.keep h.d (fun hh => by have := hn _ hh; omega)) (by omega), s2.keep (s.keep h.r (fun hh => by have := hn _ hh; omega)) (by omega), h.ne,
    hk.step s2 (fun k hk' hh => by have := (hk.base k hk').1; omega)⟩
end

set_option maxHeartbeats 2000000 in
/-- 'concordance/match.of' -/
theorem of_spec {M : PSet} {w0 : World} {va vb : Value} {a b : List Fo} {least : Int} (hM : Lt M w0) (hva : ((RT.fo).sl).V M w0 a va) (hvb : ((RT.fo).sl).V M w0 b vb) (oa : okD a) (ob : okD b) (hl : a.length + b.length ≤ 1099511627776) :
    Spec Tryd.prog 14 #[va, vb, .int .i64 least] w0 (fun v' w' => ((RT.fo).sl).V M w' (ofP least a b) v' ∧ Step M w0 M w' none') := by
  refine spec_ofM (args := [va, vb, .int .i64 least]) (fn := Tryd.f14) Tryd.func14 rfl (n := 26) Tryd.ntmps14 ?_
  refine T.seq ?_
  refine T.region ?_ -- region 0
  refine Rg.box M rfl rfl (fun b5 w1 z1 z1' g5 s1 => ?_)
  change w1.heap[b5]? = some (.cells #[.int .i64 least] _ _) at g5
  refine Rg.assign rfl rfl ?_
  refine Rg.nil ?_
  refine T.seq ?_
  refine T.region ?_ -- region 1
  refine Rg.alloc (ins M b5) I22 rfl (fun bo w2 z2 z2' go s2 => ?_)
  change w2.heap[bo]? = some (.cells #[.slice none 0 0] _ _) at go
  replace g5 := s2.same0 g5
  have S2 := s1.trans0 s2
  have hM2 := S2.lt hM
  have y1 := s1.size
  have y2 := s2.size
  refine Rg.nil ?_
  refine T.seq ?_
  refine T.seq ?_
  refine T.region ?_ -- region 2
  refine Rg.move rfl rfl ?_
  refine Rg.move rfl rfl ?_
  refine Rg.call rfl rfl E20 (side_spec hM2 (hva.le S2.le) (hvb.le S2.le)) (fun r3 w3 h => ?_)
  obtain ⟨ba, bb, rfl, gA, gB, hne, za, zb, s3⟩ := h
  replace g5 := s3.same0 g5
  replace go := s3.same0 go
  have S3 := S2.trans0 s3
  have hM3 := S3.lt hM
  have xa := lt_of_get gA
  have xb := lt_of_get gB
  have x5 := lt_of_get g5
  have xo := lt_of_get go
  have y3 := s3.size
  obtain ⟨Mb, hMb⟩ : ∃ Mb, Mb = ins (ins (ins (ins M b5) bo) ba) bb := ⟨_, rfl⟩
  have mo : Mb bo := by rw [hMb]; exact .inr (.inr (.inl rfl))
  have ma : Mb ba := by rw [hMb]; exact .inr (.inl rfl)
  have mb : Mb bb := by rw [hMb]; exact .inl rfl
  rw [← hMb] at S3 hM3 s3
  have hva3 := (hva.le S2.le).le s3.le
  have hvb3 := (hvb.le S2.le).le s3.le
  refine Rg.nil ?_
  refine T.block ?_
  refine T.range (gf := 27) (lb := #[.pointer (some ⟨ba, 0, none⟩), .pointer (some ⟨bb, 0, none⟩)]) rfl E27 (fun rec hrec => ?_)
  obtain ⟨D, hD⟩ : ∃ D, D = w3.heap.size := ⟨_, rfl⟩
  rw [← hD] at hrec ⊢
  have sA : Step Mb w3 (ins Mb w3.heap.size) (w3.alloc (.deferred (some []))) none' := (step_alloc _ w3 _).own (Nat.le_refl _) (by simp)
  have sB : Step (ins Mb w3.heap.size) (w3.alloc (.deferred (some []))) (ins (ins Mb w3.heap.size) (w3.heap.size + 1)) ((w3.alloc (.deferred (some []))).alloc (.loop (rec .ready none))) none' := (step_alloc _ _ _).own (by simp) (by simp)
  have sC := sA.trans0 sB
  have hDd : (w3.alloc (.deferred (some []))).heap[w3.heap.size]? = some (.deferred (some [])) := heap_alloc_at w3 _
  have hR : ((w3.alloc (.deferred (some []))).alloc (.loop (rec .ready none))).heap[w3.heap.size + 1]? = some (.loop (rec .ready none)) := by have := heap_alloc_at (w3.alloc (.deferred (some []))) (.loop (rec .ready none)); rwa [World.size_alloc] at this
  have y0 := S2.size
  refine Spec.mono (side1_spec (M := ins (ins Mb w3.heap.size) (w3.heap.size + 1)) (va := va) (vb := vb) (J := (fun a' b' M1 w => ∃ vo xs, OfSt M w0 least b5 bo ba bb D (.loop (rec .ready none)) vo xs M1 w ∧ xs ++ ofP least a' b' = ofP least a b)) (Jx := fun _ => False) hne (fun a' b' M1 w ⟨vo, xs, h, _⟩ => ⟨h.lt, h.ma, h.mb⟩) (fun a' b' M1 w M2 w' ⟨vo, xs, h, hx⟩ s => ⟨vo, xs, h.step s (fun _ h => h), hx⟩) (fun a' b' M1 wr hJ oa' ob' hne' => ?_) (sC.same0 gA) (sC.same0 gB) (hva3.le sC.le) (hvb3.le sC.le) oa ob ⟨.slice none 0 0, [], ?_, rfl⟩) (fun _ w4 h4 => ?_)
  rotate_left
  · rw [hD]
    exact ⟨sC.lt hM3, S3.trans0 sC, .inr (.inr mo), .inr (.inr ma), .inr (.inr mb), .inr (.inl rfl), .inl rfl, sC.same0 g5, sC.same0 go, sB.same0 hDd, hR, by omega, Own.nil _ _ _ _ _⟩
  rotate_left
  · obtain ⟨vo, xs, h, hx⟩ := hJ
    refine yield_rec (ps := [12]) (vs := [.agg #[.int .i64 (mnX a' b'), .int .i64 (mny a' b' 2), .int .i64 (scr a' b' 2)]]) hrec h.r rfl (by decide) ?_
    have hxl := congrArg List.length hx
    have hxl2 := ofP_len least (a.length + b.length) a b
    change (ofP least a b).length ≤ _ at hxl2
    rw [List.length_append] at hxl
    have hstp := ofP_step (least := least) oa' ob' hne'
    refine T.region ?_ -- region 3
    refine Rg.alloc M1 I47 rfl (fun b8 w4 z8 z8' g8 s4 => ?_)
    obtain ⟨M2, hM2e⟩ : ∃ M2, M2 = ins M1 b8 := ⟨_, rfl⟩
    have hm8 : M2 b8 := by rw [hM2e]; exact .inl rfl
    rw [← hM2e] at s4
    refine Rg.storeaggc (M := M2) (vs := [.int .i64 (mnX a' b'), .int .i64 (mny a' b' 2), .int .i64 (scr a' b' 2)]) I47 rfl rfl (by intro x hx; simp at hx; rcases hx with rfl | rfl | rfl <;> rfl) rfl rfl g8 hm8 (fun w5 g8' s5 => ?_)
    change w5.heap[b8]? = some (.cells #[.int .i64 (mnX a' b'), .int .i64 (mny a' b' 2), .int .i64 (scr a' b' 2)] _ _) at g8'
    have S5 := s4.transNew s5 (fun k hk => by subst hk; exact z8)
    have h3 := h.step S5 (fun k hk => hk.elim)
    refine Rg.nil ?_
    refine ⟨rfl, h3.r, ?_⟩
    obtain ⟨h4, sR⟩ := h3.setR (st' := .loop (rec .busy none))
    have hD8 : b8 ≠ D + 1 := by have := lt_of_get h.r; omega
    have g8x := sR.keep g8' hD8
    generalize w5.putObj (D + 1) _ = wB at h4 g8x sR ⊢
    refine T.block ?_
    refine T.seq ?_
    refine T.region ?_ -- region 4
    refine Rg.fieldc Tryd.underlying47 rfl rfl I3 (by decide) rfl rfl ?_
    refine Rg.loadc Tryd.underlying3 rfl rfl rfl g8x rfl ?_
    refine Rg.eqv (v' := .int .i64 (mny a' b' 2)) rfl ?_
    refine Rg.loadc Tryd.underlying3 rfl rfl rfl h4.h5 rfl ?_
    refine Rg.eqv (v' := .int .i64 least) rfl ?_
    refine Rg.ige rfl rfl rfl ?_
    refine Rg.nil ?_
    refine T.ifp rfl (fun c4 => ?_) (fun c4 => ?_)
    · -- c4 True
      refine T.region ?_ -- region 5
      refine Rg.loadc Tryd.underlying22 rfl rfl rfl h4.o rfl ?_
      refine Rg.eqv (v' := vo) rfl ?_
      refine Rg.fieldc Tryd.underlying47 rfl rfl I3 (by decide) rfl rfl ?_
      refine Rg.loadc Tryd.underlying3 rfl rfl rfl g8x rfl ?_
      refine Rg.eqv (v' := .int .i64 (mnX a' b')) rfl ?_
      refine Rg.fieldc Tryd.underlying47 rfl rfl I3 (by decide) rfl rfl ?_
      refine Rg.loadc Tryd.underlying3 rfl rfl rfl g8x rfl ?_
      refine Rg.eqv (v' := .int .i64 (scr a' b' 2)) rfl ?_
      refine Rg.build (places := [(0, 1), (1, 1)]) Tryd.underlying26 I26 B26 rfl ⟨_, _, rfl, rfl, _, _, rfl, rfl, rfl⟩ (out := [_, _]) ⟨0, [_], rfl, rfl, by simp [Value.cells], 1, [_], rfl, rfl, by simp [Value.cells], rfl⟩ ?_
      refine Rg.sl1 (A := RT.fo) (hn := by decide) (M := M2) Tryd.underlying22 I26 (by decide) rfl rfl h4.lt (V_fo (by have := mnX_rng oa' ob'; omega) (scr_rng a' b' 2)) (.inl rfl) (fun u6 w6 hu6 s6 => ?_)
      have h6 := h4.step s6 (fun k hk => hk.elim)
      refine Rg.append (M := M2) (base := D + 2) Tryd.underlying22 I26 rfl rfl rfl rfl (h6.hk) hu6 (Le.refl _ _) (by simp; omega) (by simp; omega) (by have := lt_of_get h6.r; omega) (fun v7 M3 w7 ho7 s7 => ?_)
      obtain ⟨⟨go7, mo7⟩, hgo⟩ := h6.grow s7 ho7
      refine Rg.storec (M := M3) I22 rfl rfl go7 rfl (by obtain ⟨_, _, he, _⟩ := ho7.isSlice; rw [he]; rfl) mo7 (fun w8 go8 s8 => ?_)
      have h8 := hgo s8 go8
      refine Rg.nil ?_
      first
      | (obtain ⟨h9, sE⟩ := h8.setR (st' := .loop (rec .ready none))
         obtain ⟨⟨e1, e2, e3, e4⟩, ⟨e5, e6, e7, e10, e11⟩, e12⟩ := h8.ne
         exact ⟨h8.r, true, rfl, (fun _ => ⟨M3, fun k => (k = D + 1 ∨ vo.ownBlock = some k ∨ k = bo) ∧ M1 k, ⟨v7, _, h9, by rw [← hx, hstp, if_pos c4, List.append_assoc]⟩, (((((S5.widen (fun _ h => h.elim) (fun k hk => hk.2)).trans sR (fun k _ hk => by subst hk; exact ⟨.inl rfl, h.mr⟩)).trans0 s6).trans s7 (fun k hk1 hk => ⟨.inr (.inl hk), h.hk.mut_ k hk⟩)).trans s8 (fun k _ hk => by subst hk; exact ⟨.inr (.inr rfl), h.mo⟩)).trans sE (fun k _ hk => by subst hk; exact ⟨.inl rfl, h.mr⟩), fun k hk => by rcases hk.1 with h1 | h1 | h1; omega; (have := (h.hk.base k h1).1; omega); (subst h1; exact ⟨e6, e7⟩)⟩), fun h => by (cases h)⟩)
      | (obtain ⟨h9, sE⟩ := h4.setR (st' := .loop (rec .ready none))
         obtain ⟨⟨e1, e2, e3, e4⟩, ⟨e5, e6, e7, e10, e11⟩, e12⟩ := h4.ne
         exact ⟨h4.r, true, rfl, (fun _ => ⟨M2, fun k => k = D + 1 ∧ M1 k, ⟨vo, xs, h9, by rw [← hx, hstp, if_neg c4, List.nil_append]⟩, ((S5.widen (fun _ h => h.elim) (fun k hk => hk.2)).trans sR (fun k _ hk => by subst hk; exact ⟨rfl, h.mr⟩)).trans sE (fun k _ hk => by subst hk; exact ⟨rfl, h.mr⟩), fun k hk => by omega⟩), fun h => by (cases h)⟩)
    · -- c4 False
      refine T.skip ?_
      first
      | (obtain ⟨h9, sE⟩ := h8.setR (st' := .loop (rec .ready none))
         obtain ⟨⟨e1, e2, e3, e4⟩, ⟨e5, e6, e7, e10, e11⟩, e12⟩ := h8.ne
         exact ⟨h8.r, true, rfl, (fun _ => ⟨M3, fun k => (k = D + 1 ∨ vo.ownBlock = some k ∨ k = bo) ∧ M1 k, ⟨v7, _, h9, by rw [← hx, hstp, if_pos c4, List.append_assoc]⟩, (((((S5.widen (fun _ h => h.elim) (fun k hk => hk.2)).trans sR (fun k _ hk => by subst hk; exact ⟨.inl rfl, h.mr⟩)).trans0 s6).trans s7 (fun k hk1 hk => ⟨.inr (.inl hk), h.hk.mut_ k hk⟩)).trans s8 (fun k _ hk => by subst hk; exact ⟨.inr (.inr rfl), h.mo⟩)).trans sE (fun k _ hk => by subst hk; exact ⟨.inl rfl, h.mr⟩), fun k hk => by rcases hk.1 with h1 | h1 | h1; omega; (have := (h.hk.base k h1).1; omega); (subst h1; exact ⟨e6, e7⟩)⟩), fun h => by (cases h)⟩)
      | (obtain ⟨h9, sE⟩ := h4.setR (st' := .loop (rec .ready none))
         obtain ⟨⟨e1, e2, e3, e4⟩, ⟨e5, e6, e7, e10, e11⟩, e12⟩ := h4.ne
         exact ⟨h4.r, true, rfl, (fun _ => ⟨M2, fun k => k = D + 1 ∧ M1 k, ⟨vo, xs, h9, by rw [← hx, hstp, if_neg c4, List.nil_append]⟩, ((S5.widen (fun _ h => h.elim) (fun k hk => hk.2)).trans sR (fun k _ hk => by subst hk; exact ⟨rfl, h.mr⟩)).trans sE (fun k _ hk => by subst hk; exact ⟨rfl, h.mr⟩), fun k hk => by omega⟩), fun h => by (cases h)⟩)
  · obtain ⟨Mz, vo, xs, h, hx⟩ := h4.resolve_right (fun h => h)
    left
    rw [ofP_nil, List.append_nil] at hx
    obtain ⟨h5, _⟩ := h.setR (st' := .loop (rec .exhausted none))
    refine ⟨h.r, ?_⟩
    generalize w4.putObj (D + 1) _ = wE at h5 ⊢
    have hxl2 := ofP_len least (a.length + b.length) a b
    change (ofP least a b).length ≤ _ at hxl2
    refine T.seq ?_
    refine T.region ?_ -- region 6
    refine Rg.loadc Tryd.underlying22 rfl rfl rfl h5.o rfl ?_
    refine Rg.eqv (v' := vo) rfl ?_
    refine Rg.assign rfl rfl ?_
    refine Rg.nil ?_
    refine T.ret ?_
    obtain ⟨⟨e1, e2, e3, e4⟩, e5, e10, e11, e12, e13⟩ := h5.ne
    have sZ : Step Mz wE Mz (wE.putObj D (.deferred none)) (fun k => k = D) := step_putObj h5.md
    have SZ := h5.S.transNew sZ (fun k hk => by subst hk; exact e13)
    rw [← hx]
    rw [← hx] at hxl2
    exact KretM1 rfl rfl h5.d ⟨Own.close hM SZ ((h5.hk.step sZ (fun k hk hh => by have := (h5.hk.base k hk).1; omega)).rebase (by omega)) (by omega), SZ.back⟩

/-- 'concordance/match.And' -/
theorem And_spec {M : PSet} {w0 : World} {va vb : Value} {a b : List Fo} (hM : Lt M w0) (hva : ((RT.fo).sl).V M w0 a va) (hvb : ((RT.fo).sl).V M w0 b vb) (oa : okD a) (ob : okD b) (hl : a.length + b.length ≤ 1099511627776) :
    Spec Tryd.prog 6 #[va, vb] w0 (fun v' w' => ((RT.fo).sl).V M w' (ofP 2 a b) v' ∧ Step M w0 M w' none') := by
  refine spec_of (args := [va, vb]) (fn := Tryd.f6) Tryd.func6 rfl (n := 8) Tryd.ntmps6 ?_
  refine T.seq ?_
  refine T.region ?_ -- region 0
  refine Rg.assign rfl rfl ?_
  refine Rg.nil ?_
  refine T.seq ?_
  refine T.region ?_ -- region 1
  refine Rg.move rfl rfl ?_
  refine Rg.move rfl rfl ?_
  refine Rg.call rfl rfl E14 (of_spec hM hva hvb oa ob hl) (fun r1 w1 h => ?_)
  obtain ⟨h1, s1⟩ := h
  refine Rg.assign rfl rfl ?_
  refine Rg.nil ?_
  refine T.ret ?_
  exact Kret1 rfl rfl ⟨h1, s1⟩

end Go.K
